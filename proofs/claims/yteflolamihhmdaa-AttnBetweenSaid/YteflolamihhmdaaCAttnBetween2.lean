/- AttnBetween: for every input the Go function returns true and leaves its arguments as they were. (part 2: functions of the program as plain functions, and what is shown of them.) Conditions: as each theorem states; the last one has none. -/
import Derived.Deep.DrawnRows
import Derived.Test.YteflolamihhmdaaCAttnBetween1
namespace Go.Proofs.Yteflolamihhmdaa.Q
open Go.RowKit Go.Proofs.YteflolamihhmdaaW.PrintWords Go.Proofs.YteflolamihhmdaaW.PrintLast Go.Proofs.YteflolamihhmdaaW.PrintMore
attribute [local go_sem] max2_int min2_int max_two min_two max_three min_three max_four min_four   -- for this text's walks alone
set_option linter.unusedVariables false
set_option linter.unusedSimpArgs false

/-! ### soft_Weights: function 40 -/
def soft_Weights.l0 : Nat → Int → List Int → List Int → Int → Int → Option (List Int × Int)
  | 0, _, _, _, _, _ => none
  | k + 1, x5, x7, x22, x23, x24 => if x24 < x23 then (if 0 ≤ x24 then (if x24 < (x22.length : Int) then ((fix_Sub.f (rd x22 x24) x5).bind fun t147 => ((expo_Exp.f t147).bind fun t148 => (if x7.length < 17592186044416 then (soft_Weights.l0 k x5 (x7 ++ [t148]) x22 x23 (wrap64 (x24 + 1))) else (none)))) else (none)) else (none)) else (some (x7, 0))
def soft_Weights.f (k : Nat) (l0 : List Int) : Option (List Int × Int) := if (l0.length : Int) > 1024 then (some (([] : List Int), 12)) else ((dot_Top.f k l0).bind fun bt143 => (if bt143.2.2 = 0 then (soft_Weights.l0 k bt143.2.1 ([] : List Int) l0 (l0.length : Int) 0) else (some (([] : List Int), bt143.2.2))))
theorem soft_Weights.mono_l : ∀ k, (∀ y0 y1 y2 y3 y4, LeO (soft_Weights.l0 k y0 y1 y2 y3 y4) (soft_Weights.l0 (k + 1) y0 y1 y2 y3 y4))
  | 0 => fun _ _ _ _ _ r h => by simp [soft_Weights.l0] at h
  | k + 1 => by
    have ih0 := soft_Weights.mono_l k
    · intro y0 y1 y2 y3 y4
      unfold soft_Weights.l0
      repeat' first
      | (with_reducible exact ih0 _ _ _ _ _)
      | (with_reducible exact dot_Top.mono _ _)
      | (with_reducible exact LeO.refl _)
      | (with_reducible exact LeO.none _)
      | (with_reducible refine LeO.ite ?_ ?_)
      | (with_reducible refine LeO.bind ?_ (fun _ => ?_))
      | exact ih0 _ _ _ _ _
      | exact dot_Top.mono _ _
      | exact LeO.none _
      | refine LeO.ite ?_ ?_
      | refine LeO.bind ?_ (fun _ => ?_)
theorem soft_Weights.mono : ∀ a0 k, LeO (soft_Weights.f k a0) (soft_Weights.f (k + 1) a0) := by
  intro a0 k
  have ih0 := soft_Weights.mono_l k
  unfold soft_Weights.f
  repeat' first
      | (with_reducible exact ih0 _ _ _ _ _)
      | (with_reducible exact dot_Top.mono _ _)
      | (with_reducible exact LeO.refl _)
      | (with_reducible exact LeO.none _)
      | (with_reducible refine LeO.ite ?_ ?_)
      | (with_reducible refine LeO.bind ?_ (fun _ => ?_))
      | exact ih0 _ _ _ _ _
      | exact dot_Top.mono _ _
      | exact LeO.none _
      | refine LeO.ite ?_ ?_
      | refine LeO.bind ?_ (fun _ => ?_)
set_option maxHeartbeats 8000000 in
set_option maxRecDepth 100000 in
theorem soft_Weights.calls (k : Nat) (A0 : Option Addr) (c0 : Nat) (l0 : List Int) (r1 : List Int) (r2 : Int) (w : World) (hr0 : Kd.C (Kd.int .i32) w A0 l0.length l0) (hc0 : l0.length ≤ c0) (h : soft_Weights.f k l0 = some (r1, r2)) :
    Calls Try.prog 40 #[.slice A0 l0.length c0] w fun e w' => ∃ v0_ : Value, e = .returned (.tuple #[v0_, .int .i64 r2]) ∧ Kd.R (Kd.int .i64) 3 w' w.heap.size (fun _ => True) v0_ r1 ∧ Below w.heap.size w w' := by
  have HR0 := Aside0.mk hr0
  have HC0 := Aside0.mk hc0
  clear hr0 hc0
  have HB := Aside0.mk (Below.refl w.heap.size w)
  have H : (if (l0.length : Int) > 1024 then (some (([] : List Int), 12)) else ((dot_Top.f k l0).bind fun bt143 => (if bt143.2.2 = 0 then (soft_Weights.l0 k bt143.2.1 ([] : List Int) l0 (l0.length : Int) 0) else (some (([] : List Int), bt143.2.2))))) = some (r1, r2) := h
  clear h
  by_cases c2 : (l0.length : Int) > 1024
  · rw [if_pos c2] at H
    have c2b0 : decide (1024 < (l0.length : Int)) = true := decide_eq_true c2
    have c2b1 : decide (1024 < l0.length) = true := decide_eq_true (by omega)
    clear c2
    simp only [Option.some.injEq, Prod.mk.injEq] at H
    obtain ⟨rfl, rfl⟩ := H
    go_enter Try.func40, Try.ntmps40
    go_wp2
    go_ret2
    exact ⟨_, by first | rfl | (simp [errW_none, errW_some] <;> rfl) | (simp [*, errW_none, errW_some] <;> rfl), by first | exact Kd.R_nil _ _ _ _ _ | exact Kd.N_nil _ _ _ _ _ | exact Kd.V_nil _ _ _ _ _ | exact Kd.Q_nil _ _ _ _ _ | exact Kd.S_nil _ _ _ _ _, by repeat (first | (with_reducible first | exact HB.out | apply below_alloc | apply pw_below_drewN | apply below_drew1) | exact HB.out)⟩
  · rw [if_neg c2] at H
    have c2b0 : decide (1024 < (l0.length : Int)) = false := decide_eq_false c2
    have c2b1 : decide (1024 < l0.length) = false := decide_eq_false (by omega)
    clear c2
    replace H := Option.bind_eq_some_iff.mp H
    obtain ⟨⟨t143, t144, t145⟩, A30, H⟩ := H
    replace H : (if t145 = 0 then (soft_Weights.l0 k t144 ([] : List Int) l0 (l0.length : Int) 0) else (some (([] : List Int), t145))) = some (r1, r2) := H
    have A3 := Aside0.mk A30
    clear A30
    by_cases c4 : t145 = 0
    · rw [if_pos c4] at H
      have c4b0 : (t145 == 0) = true := beq_iff_eq.mpr c4
      have c4b1 : (t145 != 0) = false := bne_eq_false_iff_eq.mpr c4
      clear c4
      have H' := Aside0.mk H
      clear H
      go_enter Try.func40, Try.ntmps40
      go_wp2_with (first | ((with_reducible refine gate_callee (f := 63) rfl ?_); refine goesL_ (some 15) rfl rfl Try.func63 (by kernel_rfl) rfl #[.slice A0 l0.length c0] rfl (by (try simp only [List.map_toArray, List.map_cons, List.map_nil]); first | done | rfl | (simp only [List.length_drop, List.length_take]; rfl)) ?_; (with_reducible refine (dot_Top.calls k _ _ l0 t143 t144 t145 _ ?side1 ?side2 A3.out).mono ?_); (case side1 => repeat (first | exact HR0.out | (with_reducible refine Kd.C_alloc ?_ _) | (with_reducible refine Kd.C_drewN ?_ _) | (with_reducible refine Kd.C_drew ?_))); (case side2 => exact HC0.out); rintro e w5 ⟨rfl, hb⟩; refine ⟨_, rfl, ?_⟩; have n0_ := Aside0.mk (below_step (by repeat (first | (with_reducible first | exact HB.out | apply below_alloc | apply pw_below_drewN | apply below_drew1) | exact HB.out)) hb); clear HB; have HB := n0_; clear n0_; (try clear hb); (try clear hb2); (try clear hk); (try clear hi)))
      go_loopg [7, 24] k (fun kq v7 v24 w' => ∃ (x7_1 : List Int) (x24_1 : Int), v24 = .int .i64 x24_1 ∧ Aside0 (soft_Weights.l0 kq t144 x7_1 l0 (l0.length : Int) x24_1 = some (r1, r2)) ∧ Aside0 (kq ≤ k) ∧ Aside0 (Kd.R (Kd.int .i64) 3 w' w.heap.size (fun _ => True) v7 x7_1) ∧ Aside0 (Below w.heap.size w w'))
      case atStart => exact ⟨(([] : List Int)), (0), (by first | rfl | (simp; done) | (simp [*]; done)), H', ⟨Nat.le_refl _⟩, ⟨by first | exact Kd.R_nil _ _ _ _ _ | exact Kd.N_nil _ _ _ _ _ | exact Kd.V_nil _ _ _ _ _ | exact Kd.Q_nil _ _ _ _ _ | exact Kd.S_nil _ _ _ _ _⟩, ⟨by repeat (first | (with_reducible first | exact HB.out | apply below_alloc | apply pw_below_drewN | apply below_drew1) | exact HB.out)⟩⟩
      case round =>
        clear H'
        try clear c2
        try clear c2b0
        try clear c2b1
        try clear p2
        try clear c4
        try clear c4b0
        try clear c4b1
        obtain ⟨x7_1, x24_1, rfl, HA, HK1, HO_7, HB⟩ := hrel
        cases gk with
        | zero => exact absurd HA.out (by simp [soft_Weights.l0])
        | succ k1 =>
          have H := HA.out
          clear HA
          simp only [soft_Weights.l0] at H
          by_cases c6 : x24_1 < (l0.length : Int)
          · rw [if_pos c6] at H
            have c6b0 : decide (x24_1 < (l0.length : Int)) = true := decide_eq_true c6
            clear c6
            by_cases c7 : 0 ≤ x24_1
            · rw [if_pos c7] at H
              have c7b0 : decide (0 ≤ x24_1) = true := decide_eq_true c7
              clear c7
              by_cases c8 : x24_1 < (l0.length : Int)
              · rw [if_pos c8] at H
                have c8b0 : decide (x24_1 < (l0.length : Int)) = true := decide_eq_true c8
                clear c8
                replace H := Option.bind_eq_some_iff.mp H
                obtain ⟨t147, A90, H⟩ := H
                replace H : ((expo_Exp.f t147).bind fun t148 => (if x7_1.length < 17592186044416 then (soft_Weights.l0 k1 t144 (x7_1 ++ [t148]) l0 (l0.length : Int) (wrap64 (x24_1 + 1))) else (none))) = some (r1, r2) := H
                have A9 := Aside0.mk A90
                clear A90
                replace H := Option.bind_eq_some_iff.mp H
                obtain ⟨t148, A100, H⟩ := H
                replace H : (if x7_1.length < 17592186044416 then (soft_Weights.l0 k1 t144 (x7_1 ++ [t148]) l0 (l0.length : Int) (wrap64 (x24_1 + 1))) else (none)) = some (r1, r2) := H
                have A10 := Aside0.mk A100
                clear A100
                by_cases c11 : x7_1.length < 17592186044416
                · rw [if_pos c11] at H
                  have LMc11 := Aside0.mk c11
                  clear c11
                  obtain ⟨y149, hy149⟩ : ∃ y_ : List Int, y_ = (x7_1 ++ [t148]) := ⟨_, rfl⟩
                  replace H : (soft_Weights.l0 k1 t144 y149 l0 (l0.length : Int) (wrap64 (x24_1 + 1))) = some (r1, r2) := by first | (rw [hy149]; with_reducible exact H) | (have H2_ := (Option.bind_some _ _).symm.trans H; rw [hy149]; with_reducible exact H2_) | (have H2_ := (Option.bind_some _ _).symm.trans H; with_reducible exact H2_) | with_reducible exact H | (rw [hy149]; exact H) | exact H
                  have Ny149 := Aside0.mk hy149
                  clear hy149
                  have H' := Aside0.mk H
                  clear H
                  have p146 : 0 ≤ (x24_1 : Int) := of_decide_eq_true (by first | (with_reducible assumption) | assumption)
                  have q146 : x24_1 < (l0.length : Int) := of_decide_eq_true (by first | (with_reducible assumption) | assumption)
                  obtain ⟨ad146, e146, hx146_0⟩ := Kd.at_int HR0.out x24_1 p146 q146
                  cases e146
                  replace hx146_0 := (HB.out.cell (World.block_lt_of_cell? w _ hx146_0)).trans hx146_0
                  replace p146 := eq_true p146
                  replace q146 := eq_true q146
                  go_wp2_with (first | ((with_reducible refine gate_callee (f := 65) rfl ?_); refine goesL_ (some 31) rfl rfl Try.func65 (by kernel_rfl) rfl #[.int .i32 (rd l0 x24_1), .int .i32 t144] rfl (by (try simp only [List.map_toArray, List.map_cons, List.map_nil]); first | done | rfl | (simp only [List.length_drop, List.length_take]; rfl)) ?_; (with_reducible refine (fix_Sub.calls (rd l0 x24_1) t144 t147 _ A9.out).mono ?_); rintro e w12 ⟨rfl, hb⟩; refine ⟨_, rfl, ?_⟩; have n0_ := Aside0.mk (Kd.R_below (by (with_reducible repeat (first | apply Kd.R_alloc | apply Kd.R_drewN | apply Kd.R_drew)); exact HO_7.out) hb); have n1_ := Aside0.mk (below_step (by repeat (first | (with_reducible first | exact HB.out | apply below_alloc | apply pw_below_drewN | apply below_drew1) | exact HB.out)) hb); clear HO_7; clear HB; have HO_7 := n0_; have HB := n1_; clear n0_ n1_; (try clear hb); (try clear hb2); (try clear hk); (try clear hi)) | ((with_reducible refine gate_callee (f := 64) rfl ?_); refine goesL_ (some 32) rfl rfl Try.func64 (by kernel_rfl) rfl #[.int .i32 t147] rfl (by (try simp only [List.map_toArray, List.map_cons, List.map_nil]); first | done | rfl | (simp only [List.length_drop, List.length_take]; rfl)) ?_; (with_reducible refine (expo_Exp.calls t147 t148 _ A10.out).mono ?_); rintro e w13 ⟨rfl, hb⟩; refine ⟨_, rfl, ?_⟩; have n0_ := Aside0.mk (Kd.R_below (by (with_reducible repeat (first | apply Kd.R_alloc | apply Kd.R_drewN | apply Kd.R_drew)); exact HO_7.out) hb); have n1_ := Aside0.mk (below_step (by repeat (first | (with_reducible first | exact HB.out | apply below_alloc | apply pw_below_drewN | apply below_drew1) | exact HB.out)) hb); clear HO_7; clear HB; have HO_7 := n0_; have HB := n1_; clear n0_ n1_; (try clear hb); (try clear hb2); (try clear hk); (try clear hi)) | ((with_reducible refine gate_builtin (b := .append) (xs := #[.tmp 28, .tmp 33]) rfl ?_); at_builtin; refine Kd.R_append (Kd.int .i64) (w0 := w) w.heap.size rfl (.tmp 28) (.tmp 33) 66 3 (.int .i64 0) 8 rfl Try.underlying66 info3 rfl (by decide) (by omega) u7 x7_1 t148 [.int .i64 t148] (fun _ => True) (fun _ => False) rfl rfl ?aP (fun _ hk => hk.elim) ?aF ?aO ?aB ?aS ?aL ?_; (case aP => exact rfl); (case aB => exact (by repeat (first | (with_reducible first | exact HB.out | apply below_alloc | apply pw_below_drewN | apply below_drew1) | exact HB.out))); (case aF => exact (fun _ _ => trivial)); (case aO => exact (by (with_reducible repeat (first | apply Kd.R_alloc | apply Kd.R_drewN | apply Kd.R_drew)); exact HO_7.out)); (case aS => exact (below_size (by repeat (first | (with_reducible first | exact HB.out | apply below_alloc | apply pw_below_drewN | apply below_drew1) | exact HB.out)))); (case aL => have := LMc11.out; omega); intro v150 w14 ho hb hg hat; rw [← Ny149.out] at ho; have n0_ := Aside0.mk (hb); have n1_ := Aside0.mk (ho); clear HB; clear HO_7; have HB := n0_; have HO151 := n1_; clear n0_ n1_; clear ho hb hg hat))
                  go_roundg k1
                  case measure => have := HK1.out; omega
                  case rel => exact ⟨(y149), (wrap64 (x24_1 + 1)), (by first | rfl | (simp; done) | (simp [*]; done)), H', ⟨by have := HK1.out; omega⟩, ⟨by (with_reducible repeat (first | apply Kd.R_alloc | apply Kd.R_drewN | apply Kd.R_drew)); exact HO151.out⟩, ⟨by repeat (first | (with_reducible first | exact HB.out | apply below_alloc | apply pw_below_drewN | apply below_drew1) | exact HB.out)⟩⟩
                · rw [if_neg c11] at H
                  exact absurd H (by simp)
              · rw [if_neg c8] at H
                exact absurd H (by simp)
            · rw [if_neg c7] at H
              exact absurd H (by simp)
          · rw [if_neg c6] at H
            have c6b0 : decide (x24_1 < (l0.length : Int)) = false := decide_eq_false c6
            clear c6
            simp only [Option.some.injEq, Prod.mk.injEq] at H
            obtain ⟨rfl, rfl⟩ := H
            go_wp2
            go_ret2
            exact ⟨_, by first | rfl | (simp [errW_none, errW_some] <;> rfl) | (simp [*, errW_none, errW_some] <;> rfl), by (with_reducible repeat (first | apply Kd.R_alloc | apply Kd.R_drewN | apply Kd.R_drew)); exact HO_7.out, by repeat (first | (with_reducible first | exact HB.out | apply below_alloc | apply pw_below_drewN | apply below_drew1) | exact HB.out)⟩
    · rw [if_neg c4] at H
      have c4b0 : (t145 == 0) = false := beq_eq_false_iff_ne.mpr c4
      have c4b1 : (t145 != 0) = true := bne_iff_ne.mpr c4
      simp only [Option.some.injEq, Prod.mk.injEq] at H
      obtain ⟨rfl, rfl⟩ := H
      go_enter Try.func40, Try.ntmps40
      go_wp2_with (first | ((with_reducible refine gate_callee (f := 63) rfl ?_); refine goesL_ (some 15) rfl rfl Try.func63 (by kernel_rfl) rfl #[.slice A0 l0.length c0] rfl (by (try simp only [List.map_toArray, List.map_cons, List.map_nil]); first | done | rfl | (simp only [List.length_drop, List.length_take]; rfl)) ?_; (with_reducible refine (dot_Top.calls k _ _ l0 t143 t144 t145 _ ?side1 ?side2 A3.out).mono ?_); (case side1 => repeat (first | exact HR0.out | (with_reducible refine Kd.C_alloc ?_ _) | (with_reducible refine Kd.C_drewN ?_ _) | (with_reducible refine Kd.C_drew ?_))); (case side2 => exact HC0.out); rintro e w15 ⟨rfl, hb⟩; refine ⟨_, rfl, ?_⟩; have n0_ := Aside0.mk (below_step (by repeat (first | (with_reducible first | exact HB.out | apply below_alloc | apply pw_below_drewN | apply below_drew1) | exact HB.out)) hb); clear HB; have HB := n0_; clear n0_; (try clear hb); (try clear hb2); (try clear hk); (try clear hi)))
      go_ret2
      exact ⟨_, by first | rfl | (simp [errW_none, errW_some] <;> rfl) | (simp [*, errW_none, errW_some] <;> rfl), by first | exact Kd.R_nil _ _ _ _ _ | exact Kd.N_nil _ _ _ _ _ | exact Kd.V_nil _ _ _ _ _ | exact Kd.Q_nil _ _ _ _ _ | exact Kd.S_nil _ _ _ _ _, by repeat (first | (with_reducible first | exact HB.out | apply below_alloc | apply pw_below_drewN | apply below_drew1) | exact HB.out)⟩

end Go.Proofs.Yteflolamihhmdaa.Q

namespace Go.Proofs.Yteflolamihhmdaa.Q
open Go.RowKit Go.Proofs.YteflolamihhmdaaW.PrintWords Go.Proofs.YteflolamihhmdaaW.PrintLast Go.Proofs.YteflolamihhmdaaW.PrintMore
attribute [local go_sem] max2_int min2_int max_two min_two max_three min_three max_four min_four   -- for this text's walks alone
set_option linter.unusedVariables false
set_option linter.unusedSimpArgs false

/-! ### credenzaref03_Top: function 54 -/
def credenzaref03_Top.l0 : Nat → List Int → Int → Int → Option (Int)
  | 0, _, _, _ => none
  | k + 1, x0, x3, x4 => if x4 < (x0.length : Int) then (if 0 ≤ x4 then (if 0 ≤ x3 then (if x3 < (x0.length : Int) then (if (rd x0 x4) > (rd x0 x3) then (credenzaref03_Top.l0 k x0 x4 (wrap64 (x4 + 1))) else (credenzaref03_Top.l0 k x0 x3 (wrap64 (x4 + 1)))) else (none)) else (none)) else (none)) else (some x3)
def credenzaref03_Top.f (k : Nat) (l0 : List Int) : Option (Int) := credenzaref03_Top.l0 k l0 0 0
theorem credenzaref03_Top.mono_l : ∀ k, (∀ y0 y1 y2, LeO (credenzaref03_Top.l0 k y0 y1 y2) (credenzaref03_Top.l0 (k + 1) y0 y1 y2))
  | 0 => fun _ _ _ r h => by simp [credenzaref03_Top.l0] at h
  | k + 1 => by
    have ih0 := credenzaref03_Top.mono_l k
    · intro y0 y1 y2
      unfold credenzaref03_Top.l0
      repeat' first
      | (with_reducible exact ih0 _ _ _)
      | (with_reducible exact LeO.refl _)
      | (with_reducible exact LeO.none _)
      | (with_reducible refine LeO.ite ?_ ?_)
      | (with_reducible refine LeO.bind ?_ (fun _ => ?_))
      | exact ih0 _ _ _
      | exact LeO.none _
      | refine LeO.ite ?_ ?_
      | refine LeO.bind ?_ (fun _ => ?_)
theorem credenzaref03_Top.mono : ∀ a0 k, LeO (credenzaref03_Top.f k a0) (credenzaref03_Top.f (k + 1) a0) := by
  intro a0 k
  have ih0 := credenzaref03_Top.mono_l k
  unfold credenzaref03_Top.f
  repeat' first
      | (with_reducible exact ih0 _ _ _)
      | (with_reducible exact LeO.refl _)
      | (with_reducible exact LeO.none _)
      | (with_reducible refine LeO.ite ?_ ?_)
      | (with_reducible refine LeO.bind ?_ (fun _ => ?_))
      | exact ih0 _ _ _
      | exact LeO.none _
      | refine LeO.ite ?_ ?_
      | refine LeO.bind ?_ (fun _ => ?_)
set_option maxHeartbeats 8000000 in
set_option maxRecDepth 100000 in
theorem credenzaref03_Top.calls (k : Nat) (A0 : Option Addr) (c0 : Nat) (l0 : List Int) (r : Int) (w : World) (hr0 : Kd.C (Kd.int .i32) w A0 l0.length l0) (hc0 : l0.length ≤ c0) (h : credenzaref03_Top.f k l0 = some r) :
    Calls Try.prog 54 #[.slice A0 l0.length c0] w fun e w' => e = .returned (.int .i64 r) ∧ Drawn0 w w' := by
  have HR0 := Aside0.mk hr0
  have HC0 := Aside0.mk hc0
  clear hr0 hc0
  have H : (credenzaref03_Top.l0 k l0 0 0) = some r := h
  clear h
  have H' := Aside0.mk H
  clear H
  go_enter Try.func54, Try.ntmps54
  go_wp2
  repeat (go_quiet (fail); try go_wp2)
  go_loopg [3, 4] k (fun kq v3 v4 w' => ∃ (x3_1 : Int) (x4_1 : Int), v3 = .int .i64 x3_1 ∧ v4 = .int .i64 x4_1 ∧ Aside0 (credenzaref03_Top.l0 kq l0 x3_1 x4_1 = some r) ∧ Aside0 (kq ≤ k) ∧ Drawn0 w w')
  case atStart => exact ⟨(0), (0), (by first | rfl | (simp; done) | (simp [*]; done)), (by first | rfl | (simp; done) | (simp [*]; done)), H', ⟨Nat.le_refl _⟩, by repeat (first | exact Drawn0.refl _ | apply Drawn0.step)⟩
  case round =>
    clear H'
    obtain ⟨x3_1, x4_1, rfl, rfl, HA, HK1, ⟨m1, rfl⟩⟩ := hrel
    cases gk with
    | zero => exact absurd HA.out (by simp [credenzaref03_Top.l0])
    | succ k1 =>
      have H := HA.out
      clear HA
      simp only [credenzaref03_Top.l0] at H
      by_cases c2 : x4_1 < (l0.length : Int)
      · rw [if_pos c2] at H
        have c2b0 : decide (x4_1 < (l0.length : Int)) = true := decide_eq_true c2
        clear c2
        by_cases c3 : 0 ≤ x4_1
        · rw [if_pos c3] at H
          have c3b0 : decide (0 ≤ x4_1) = true := decide_eq_true c3
          clear c3
          by_cases c4 : 0 ≤ x3_1
          · rw [if_pos c4] at H
            have c4b0 : decide (0 ≤ x3_1) = true := decide_eq_true c4
            clear c4
            by_cases c5 : x3_1 < (l0.length : Int)
            · rw [if_pos c5] at H
              have c5b0 : decide (x3_1 < (l0.length : Int)) = true := decide_eq_true c5
              clear c5
              by_cases c6 : (rd l0 x4_1) > (rd l0 x3_1)
              · rw [if_pos c6] at H
                have c6b0 : decide ((rd l0 x3_1) < (rd l0 x4_1)) = true := decide_eq_true c6
                clear c6
                have H' := Aside0.mk H
                clear H
                have p242 : 0 ≤ (x4_1 : Int) := of_decide_eq_true (by first | (with_reducible assumption) | assumption)
                have q242 : x4_1 < (l0.length : Int) := of_decide_eq_true (by first | (with_reducible assumption) | assumption)
                obtain ⟨ad242, e242, hx242_0⟩ := Kd.at_int HR0.out x4_1 p242 q242
                cases e242
                replace p242 := eq_true p242
                replace q242 := eq_true q242
                have p243 : 0 ≤ (x3_1 : Int) := of_decide_eq_true (by first | (with_reducible assumption) | assumption)
                have q243 : x3_1 < (l0.length : Int) := of_decide_eq_true (by first | (with_reducible assumption) | assumption)
                obtain ⟨ad243, e243, hx243_0⟩ := Kd.at_int HR0.out x3_1 p243 q243
                obtain rfl : ad242 = ad243 := (by injection e243)
                replace p243 := eq_true p243
                replace q243 := eq_true q243
                go_wp2
                repeat (go_quiet (fail); try go_wp2)
                go_roundg k1
                case measure => have := HK1.out; omega
                case rel => exact ⟨(x4_1), (wrap64 (x4_1 + 1)), (by first | rfl | (simp; done) | (simp [*]; done)), (by first | rfl | (simp; done) | (simp [*]; done)), H', ⟨by have := HK1.out; omega⟩, by repeat (first | exact Drawn0.refl _ | apply Drawn0.step)⟩
              · rw [if_neg c6] at H
                have c6b0 : decide ((rd l0 x3_1) < (rd l0 x4_1)) = false := decide_eq_false c6
                clear c6
                have H' := Aside0.mk H
                clear H
                have p242 : 0 ≤ (x4_1 : Int) := of_decide_eq_true (by first | (with_reducible assumption) | assumption)
                have q242 : x4_1 < (l0.length : Int) := of_decide_eq_true (by first | (with_reducible assumption) | assumption)
                obtain ⟨ad242, e242, hx242_0⟩ := Kd.at_int HR0.out x4_1 p242 q242
                cases e242
                replace p242 := eq_true p242
                replace q242 := eq_true q242
                have p243 : 0 ≤ (x3_1 : Int) := of_decide_eq_true (by first | (with_reducible assumption) | assumption)
                have q243 : x3_1 < (l0.length : Int) := of_decide_eq_true (by first | (with_reducible assumption) | assumption)
                obtain ⟨ad243, e243, hx243_0⟩ := Kd.at_int HR0.out x3_1 p243 q243
                obtain rfl : ad242 = ad243 := (by injection e243)
                replace p243 := eq_true p243
                replace q243 := eq_true q243
                go_wp2
                repeat (go_quiet (fail); try go_wp2)
                go_roundg k1
                case measure => have := HK1.out; omega
                case rel => exact ⟨(x3_1), (wrap64 (x4_1 + 1)), (by first | rfl | (simp; done) | (simp [*]; done)), (by first | rfl | (simp; done) | (simp [*]; done)), H', ⟨by have := HK1.out; omega⟩, by repeat (first | exact Drawn0.refl _ | apply Drawn0.step)⟩
            · rw [if_neg c5] at H
              exact absurd H (by simp)
          · rw [if_neg c4] at H
            exact absurd H (by simp)
        · rw [if_neg c3] at H
          exact absurd H (by simp)
      · rw [if_neg c2] at H
        have c2b0 : decide (x4_1 < (l0.length : Int)) = false := decide_eq_false c2
        clear c2
        obtain rfl := Option.some.inj H
        go_wp2
        repeat (go_quiet (fail); try go_wp2)
        go_ret
        exact ⟨by first | rfl | (simp; done) | (simp [*]; done), by repeat (first | exact Drawn0.refl _ | apply Drawn0.step)⟩

end Go.Proofs.Yteflolamihhmdaa.Q

namespace Go.Proofs.Yteflolamihhmdaa.Q
open Go.RowKit Go.Proofs.YteflolamihhmdaaW.PrintWords Go.Proofs.YteflolamihhmdaaW.PrintLast Go.Proofs.YteflolamihhmdaaW.PrintMore
attribute [local go_sem] max2_int min2_int max_two min_two max_three min_three max_four min_four   -- for this text's walks alone
set_option linter.unusedVariables false
set_option linter.unusedSimpArgs false

/-! ### credenzaref02_Exp: function 55 -/
def credenzaref02_Exp.j0 : Nat → Int → Option (Int)
  | 0, _ => none
  | k + 1, x0 => (credenzaref01_Ratio.f (wrap64 ((wrap64 (x0)) * 94548)) 65536).bind fun t247 => ((credenzaref01_Floor.f t247 65536).bind fun t248 => (if (wrap64 (-t248)) > 62 then (some 0) else ((credenzaref01_Half.f k (wrap64 (65536 + (wrap64 (Int.tdiv (wrap64 ((wrap64 (t247 - (wrap64 (t248 * 65536)))) * (wrap64 (45613 + (wrap64 (Int.tdiv (wrap64 ((wrap64 (t247 - (wrap64 (t248 * 65536)))) * (wrap64 (14743 + (wrap64 (Int.tdiv (wrap64 ((wrap64 (t247 - (wrap64 (t248 * 65536)))) * 5180)) 65536)))))) 65536)))))) 65536)))) (wrap64 (-t248))).bind fun t249 => (some t249))))
def credenzaref02_Exp.f (k : Nat) (a0 : Int) : Option (Int) := if a0 > 0 then (credenzaref02_Exp.j0 k 0) else (credenzaref02_Exp.j0 k a0)
theorem credenzaref02_Exp.mono_l : ∀ k, (∀ y0, LeO (credenzaref02_Exp.j0 k y0) (credenzaref02_Exp.j0 (k + 1) y0))
  | 0 => fun _ r h => by simp [credenzaref02_Exp.j0] at h
  | k + 1 => by
    have ih0 := credenzaref02_Exp.mono_l k
    · intro y0
      unfold credenzaref02_Exp.j0
      repeat' first
      | (with_reducible exact ih0 _)
      | (with_reducible exact credenzaref01_Half.mono _ _ _)
      | (with_reducible exact LeO.refl _)
      | (with_reducible exact LeO.none _)
      | (with_reducible refine LeO.ite ?_ ?_)
      | (with_reducible refine LeO.bind ?_ (fun _ => ?_))
      | exact ih0 _
      | exact credenzaref01_Half.mono _ _ _
      | exact LeO.none _
      | refine LeO.ite ?_ ?_
      | refine LeO.bind ?_ (fun _ => ?_)
theorem credenzaref02_Exp.mono : ∀ a0 k, LeO (credenzaref02_Exp.f k a0) (credenzaref02_Exp.f (k + 1) a0) := by
  intro a0 k
  have ih0 := credenzaref02_Exp.mono_l k
  unfold credenzaref02_Exp.f
  repeat' first
      | (with_reducible exact ih0 _)
      | (with_reducible exact credenzaref01_Half.mono _ _ _)
      | (with_reducible exact LeO.refl _)
      | (with_reducible exact LeO.none _)
      | (with_reducible refine LeO.ite ?_ ?_)
      | (with_reducible refine LeO.bind ?_ (fun _ => ?_))
      | exact ih0 _
      | exact credenzaref01_Half.mono _ _ _
      | exact LeO.none _
      | refine LeO.ite ?_ ?_
      | refine LeO.bind ?_ (fun _ => ?_)
set_option maxHeartbeats 8000000 in
set_option maxRecDepth 100000 in
theorem credenzaref02_Exp.calls (k : Nat) (a0 : Int) (r : Int) (w : World) (h : credenzaref02_Exp.f k a0 = some r) :
    Calls Try.prog 55 #[.int .i32 a0] w fun e w' => e = .returned (.int .i64 r) ∧ Drawn0 w w' := by
  have H : (if a0 > 0 then (credenzaref02_Exp.j0 k 0) else (credenzaref02_Exp.j0 k a0)) = some r := h
  clear h
  have HC2 := Aside0.mk H
  clear H
  go_enter Try.func55, Try.ntmps55
  go_upto_if 8 with (fail)
  go_cut [0] (fun v0 wc => ∃ (kq : Nat) (x0_1 : Int), v0 = .int .i32 x0_1 ∧ Aside0 (credenzaref02_Exp.j0 kq x0_1 = some r) ∧ Aside0 (kq ≤ k) ∧ Drawn0 w wc)
  case first =>
    have H := HC2.out
    clear HC2
    by_cases c3 : a0 > 0
    · rw [if_pos c3] at H
      have c3b0 : decide (0 < a0) = true := decide_eq_true c3
      clear c3
      (first | rw [c3b0] | (simp only [i64_w, i32_w]; rw [c3b0]) | skip)
      have H' := Aside0.mk H
      clear H
      go_wp2
      go_meet
      case rel => exact ⟨_, (0), (by first | rfl | (simp; done) | (simp [*]; done)), H', ⟨by first | omega | exact Nat.le_refl _⟩, by repeat (first | exact Drawn0.refl _ | apply Drawn0.step)⟩
    · rw [if_neg c3] at H
      have c3b0 : decide (0 < a0) = false := decide_eq_false c3
      clear c3
      (first | rw [c3b0] | (simp only [i64_w, i32_w]; rw [c3b0]) | skip)
      have H' := Aside0.mk H
      clear H
      go_wp2
      go_meet
      case rel => exact ⟨_, (a0), (by first | rfl | (simp; done) | (simp [*]; done)), H', ⟨by first | omega | exact Nat.le_refl _⟩, by repeat (first | exact Drawn0.refl _ | apply Drawn0.step)⟩
  case rest =>
    clear HC2
    try clear p2
    try clear c3
    try clear c3b0
    obtain ⟨kq, x0_1, rfl, HA, HJ1, ⟨mc1, rfl⟩⟩ := hcut
    cases kq with
    | zero => exact absurd HA.out (by simp [credenzaref02_Exp.j0])
    | succ kj1 =>
      have H := HA.out
      clear HA
      simp only [credenzaref02_Exp.j0] at H
      replace H := Option.bind_eq_some_iff.mp H
      obtain ⟨t247, A40, H⟩ := H
      replace H : ((credenzaref01_Floor.f t247 65536).bind fun t248 => (if (wrap64 (-t248)) > 62 then (some 0) else ((credenzaref01_Half.f kj1 (wrap64 (65536 + (wrap64 (Int.tdiv (wrap64 ((wrap64 (t247 - (wrap64 (t248 * 65536)))) * (wrap64 (45613 + (wrap64 (Int.tdiv (wrap64 ((wrap64 (t247 - (wrap64 (t248 * 65536)))) * (wrap64 (14743 + (wrap64 (Int.tdiv (wrap64 ((wrap64 (t247 - (wrap64 (t248 * 65536)))) * 5180)) 65536)))))) 65536)))))) 65536)))) (wrap64 (-t248))).bind fun t249 => (some t249)))) = some r := H
      have A4 := Aside0.mk A40
      clear A40
      replace H := Option.bind_eq_some_iff.mp H
      obtain ⟨t248, A50, H⟩ := H
      replace H : (if (wrap64 (-t248)) > 62 then (some 0) else ((credenzaref01_Half.f kj1 (wrap64 (65536 + (wrap64 (Int.tdiv (wrap64 ((wrap64 (t247 - (wrap64 (t248 * 65536)))) * (wrap64 (45613 + (wrap64 (Int.tdiv (wrap64 ((wrap64 (t247 - (wrap64 (t248 * 65536)))) * (wrap64 (14743 + (wrap64 (Int.tdiv (wrap64 ((wrap64 (t247 - (wrap64 (t248 * 65536)))) * 5180)) 65536)))))) 65536)))))) 65536)))) (wrap64 (-t248))).bind fun t249 => (some t249))) = some r := H
      have A5 := Aside0.mk A50
      clear A50
      by_cases c6 : (wrap64 (-t248)) > 62
      · rw [if_pos c6] at H
        have c6b0 : decide (62 < (wrap64 (-t248))) = true := decide_eq_true c6
        clear c6
        obtain rfl := Option.some.inj H
        go_wp2_with (first | ((with_reducible refine gate_callee (f := 29) rfl ?_); refine goesL_ (some 12) rfl rfl Try.func29 (by kernel_rfl) rfl #[.int .i64 (wrap64 ((wrap64 (x0_1)) * 94548)), .int .i64 65536] rfl (by (try simp only [List.map_toArray, List.map_cons, List.map_nil]); first | done | rfl | (simp only [List.length_drop, List.length_take]; rfl)) ?_; (with_reducible refine (credenzaref01_Ratio.calls (wrap64 ((wrap64 (x0_1)) * 94548)) 65536 t247 _ A4.out).mono ?_); rintro e w' ⟨rfl, ⟨nd, rfl⟩⟩; refine ⟨_, rfl, ?_⟩) | ((with_reducible refine gate_callee (f := 51) rfl ?_); refine goesL_ (some 14) rfl rfl Try.func51 (by kernel_rfl) rfl #[.int .i64 t247, .int .i64 65536] rfl (by (try simp only [List.map_toArray, List.map_cons, List.map_nil]); first | done | rfl | (simp only [List.length_drop, List.length_take]; rfl)) ?_; (with_reducible refine (credenzaref01_Floor.calls t247 65536 t248 _ A5.out).mono ?_); rintro e w' ⟨rfl, ⟨nd, rfl⟩⟩; refine ⟨_, rfl, ?_⟩))
        go_ret
        exact ⟨by first | rfl | (simp; done) | (simp [*]; done), by repeat (first | exact Drawn0.refl _ | apply Drawn0.step)⟩
      · rw [if_neg c6] at H
        have c6b0 : decide (62 < (wrap64 (-t248))) = false := decide_eq_false c6
        clear c6
        replace H := Option.bind_eq_some_iff.mp H
        obtain ⟨t249, A70, H⟩ := H
        replace H : (some t249) = some r := H
        have A7 := Aside0.mk A70
        clear A70
        obtain rfl := Option.some.inj H
        go_wp2_with (first | ((with_reducible refine gate_callee (f := 29) rfl ?_); refine goesL_ (some 12) rfl rfl Try.func29 (by kernel_rfl) rfl #[.int .i64 (wrap64 ((wrap64 (x0_1)) * 94548)), .int .i64 65536] rfl (by (try simp only [List.map_toArray, List.map_cons, List.map_nil]); first | done | rfl | (simp only [List.length_drop, List.length_take]; rfl)) ?_; (with_reducible refine (credenzaref01_Ratio.calls (wrap64 ((wrap64 (x0_1)) * 94548)) 65536 t247 _ A4.out).mono ?_); rintro e w' ⟨rfl, ⟨nd, rfl⟩⟩; refine ⟨_, rfl, ?_⟩) | ((with_reducible refine gate_callee (f := 51) rfl ?_); refine goesL_ (some 14) rfl rfl Try.func51 (by kernel_rfl) rfl #[.int .i64 t247, .int .i64 65536] rfl (by (try simp only [List.map_toArray, List.map_cons, List.map_nil]); first | done | rfl | (simp only [List.length_drop, List.length_take]; rfl)) ?_; (with_reducible refine (credenzaref01_Floor.calls t247 65536 t248 _ A5.out).mono ?_); rintro e w' ⟨rfl, ⟨nd, rfl⟩⟩; refine ⟨_, rfl, ?_⟩) | ((with_reducible refine gate_callee (f := 73) rfl ?_); refine goesL_ (some 37) rfl rfl Try.func73 (by kernel_rfl) rfl #[.int .i64 (wrap64 (65536 + (wrap64 (Int.tdiv (wrap64 ((wrap64 (t247 - (wrap64 (t248 * 65536)))) * (wrap64 (45613 + (wrap64 (Int.tdiv (wrap64 ((wrap64 (t247 - (wrap64 (t248 * 65536)))) * (wrap64 (14743 + (wrap64 (Int.tdiv (wrap64 ((wrap64 (t247 - (wrap64 (t248 * 65536)))) * 5180)) 65536)))))) 65536)))))) 65536)))), .int .i64 (wrap64 (-t248))] rfl (by (try simp only [List.map_toArray, List.map_cons, List.map_nil]); first | done | rfl | (simp only [List.length_drop, List.length_take]; rfl)) ?_; (with_reducible refine (credenzaref01_Half.calls kj1 (wrap64 (65536 + (wrap64 (Int.tdiv (wrap64 ((wrap64 (t247 - (wrap64 (t248 * 65536)))) * (wrap64 (45613 + (wrap64 (Int.tdiv (wrap64 ((wrap64 (t247 - (wrap64 (t248 * 65536)))) * (wrap64 (14743 + (wrap64 (Int.tdiv (wrap64 ((wrap64 (t247 - (wrap64 (t248 * 65536)))) * 5180)) 65536)))))) 65536)))))) 65536)))) (wrap64 (-t248)) t249 _ A7.out).mono ?_); rintro e w' ⟨rfl, ⟨nd, rfl⟩⟩; refine ⟨_, rfl, ?_⟩))
        go_ret
        exact ⟨by first | rfl | (simp; done) | (simp [*]; done), by repeat (first | exact Drawn0.refl _ | apply Drawn0.step)⟩

end Go.Proofs.Yteflolamihhmdaa.Q

namespace Go.Proofs.Yteflolamihhmdaa.Q
open Go.RowKit Go.Proofs.YteflolamihhmdaaW.PrintWords Go.Proofs.YteflolamihhmdaaW.PrintLast Go.Proofs.YteflolamihhmdaaW.PrintMore
attribute [local go_sem] max2_int min2_int max_two min_two max_three min_three max_four min_four   -- for this text's walks alone
set_option linter.unusedVariables false
set_option linter.unusedSimpArgs false

/-! ### credenzaref04_Weights: function 33 -/
def credenzaref04_Weights.l0 : Nat → List Int → Int → List Int → Int → Option (List Int)
  | 0, _, _, _, _ => none
  | k + 1, x0, x3, x4, x5 => if x5 < (x0.length : Int) then (if 0 ≤ x5 then ((credenzaref01_Wide.f (wrap64 ((wrap64 (rd x0 x5)) - (wrap64 (x3))))).bind fun t253 => ((credenzaref02_Exp.f k t253).bind fun t254 => (if x4.length < 17592186044416 then (credenzaref04_Weights.l0 k x0 x3 (x4 ++ [t254]) (wrap64 (x5 + 1))) else (none)))) else (none)) else (some x4)
def credenzaref04_Weights.f (k : Nat) (l0 : List Int) : Option (List Int) := (credenzaref03_Top.f k l0).bind fun t250 => (if 0 ≤ t250 then (if t250 < (l0.length : Int) then (credenzaref04_Weights.l0 k l0 (rd l0 t250) ([] : List Int) 0) else (none)) else (none))
theorem credenzaref04_Weights.mono_l : ∀ k, (∀ y0 y1 y2 y3, LeO (credenzaref04_Weights.l0 k y0 y1 y2 y3) (credenzaref04_Weights.l0 (k + 1) y0 y1 y2 y3))
  | 0 => fun _ _ _ _ r h => by simp [credenzaref04_Weights.l0] at h
  | k + 1 => by
    have ih0 := credenzaref04_Weights.mono_l k
    · intro y0 y1 y2 y3
      unfold credenzaref04_Weights.l0
      repeat' first
      | (with_reducible exact ih0 _ _ _ _)
      | (with_reducible exact credenzaref02_Exp.mono _ _)
      | (with_reducible exact credenzaref03_Top.mono _ _)
      | (with_reducible exact LeO.refl _)
      | (with_reducible exact LeO.none _)
      | (with_reducible refine LeO.ite ?_ ?_)
      | (with_reducible refine LeO.bind ?_ (fun _ => ?_))
      | exact ih0 _ _ _ _
      | exact credenzaref02_Exp.mono _ _
      | exact credenzaref03_Top.mono _ _
      | exact LeO.none _
      | refine LeO.ite ?_ ?_
      | refine LeO.bind ?_ (fun _ => ?_)
theorem credenzaref04_Weights.mono : ∀ a0 k, LeO (credenzaref04_Weights.f k a0) (credenzaref04_Weights.f (k + 1) a0) := by
  intro a0 k
  have ih0 := credenzaref04_Weights.mono_l k
  unfold credenzaref04_Weights.f
  repeat' first
      | (with_reducible exact ih0 _ _ _ _)
      | (with_reducible exact credenzaref02_Exp.mono _ _)
      | (with_reducible exact credenzaref03_Top.mono _ _)
      | (with_reducible exact LeO.refl _)
      | (with_reducible exact LeO.none _)
      | (with_reducible refine LeO.ite ?_ ?_)
      | (with_reducible refine LeO.bind ?_ (fun _ => ?_))
      | exact ih0 _ _ _ _
      | exact credenzaref02_Exp.mono _ _
      | exact credenzaref03_Top.mono _ _
      | exact LeO.none _
      | refine LeO.ite ?_ ?_
      | refine LeO.bind ?_ (fun _ => ?_)
set_option maxHeartbeats 8000000 in
set_option maxRecDepth 100000 in
theorem credenzaref04_Weights.calls (k : Nat) (A0 : Option Addr) (c0 : Nat) (l0 : List Int) (r : List Int) (w : World) (hr0 : Kd.C (Kd.int .i32) w A0 l0.length l0) (hc0 : l0.length ≤ c0) (h : credenzaref04_Weights.f k l0 = some r) :
    Calls Try.prog 33 #[.slice A0 l0.length c0] w fun e w' => ∃ v0_ : Value, e = .returned (v0_) ∧ Kd.R (Kd.int .i64) 3 w' w.heap.size (fun _ => True) v0_ r ∧ Below w.heap.size w w' := by
  have HR0 := Aside0.mk hr0
  have HC0 := Aside0.mk hc0
  clear hr0 hc0
  have HB := Aside0.mk (Below.refl w.heap.size w)
  have H : ((credenzaref03_Top.f k l0).bind fun t250 => (if 0 ≤ t250 then (if t250 < (l0.length : Int) then (credenzaref04_Weights.l0 k l0 (rd l0 t250) ([] : List Int) 0) else (none)) else (none))) = some r := h
  clear h
  replace H := Option.bind_eq_some_iff.mp H
  obtain ⟨t250, A20, H⟩ := H
  replace H : (if 0 ≤ t250 then (if t250 < (l0.length : Int) then (credenzaref04_Weights.l0 k l0 (rd l0 t250) ([] : List Int) 0) else (none)) else (none)) = some r := H
  have A2 := Aside0.mk A20
  clear A20
  by_cases c3 : 0 ≤ t250
  · rw [if_pos c3] at H
    have c3b0 : decide (0 ≤ t250) = true := decide_eq_true c3
    clear c3
    by_cases c4 : t250 < (l0.length : Int)
    · rw [if_pos c4] at H
      have c4b0 : decide (t250 < (l0.length : Int)) = true := decide_eq_true c4
      clear c4
      have H' := Aside0.mk H
      clear H
      go_enter Try.func33, Try.ntmps33
      go_wp2_with (first | ((with_reducible refine gate_callee (f := 54) rfl ?_); refine goesL_ (some 8) rfl rfl Try.func54 (by kernel_rfl) rfl #[.slice A0 l0.length c0] rfl (by (try simp only [List.map_toArray, List.map_cons, List.map_nil]); first | done | rfl | (simp only [List.length_drop, List.length_take]; rfl)) ?_; (with_reducible refine (credenzaref03_Top.calls k _ _ l0 t250 _ ?side1 ?side2 A2.out).mono ?_); (case side1 => repeat (first | exact HR0.out | (with_reducible refine Kd.C_alloc ?_ _) | (with_reducible refine Kd.C_drewN ?_ _) | (with_reducible refine Kd.C_drew ?_))); (case side2 => exact HC0.out); rintro e w' ⟨rfl, ⟨nd, rfl⟩⟩; refine ⟨_, rfl, ?_⟩; have p251 : 0 ≤ (t250 : Int) := of_decide_eq_true (by first | (with_reducible assumption) | assumption); have q251 : t250 < (l0.length : Int) := of_decide_eq_true (by first | (with_reducible assumption) | assumption); obtain ⟨ad251, e251, hx251_0⟩ := Kd.at_int HR0.out t250 p251 q251; cases e251; replace p251 := eq_true p251; replace q251 := eq_true q251))
      go_loopg [4, 5] k (fun kq v4 v5 w' => ∃ (x4_1 : List Int) (x5_1 : Int), v5 = .int .i64 x5_1 ∧ Aside0 (credenzaref04_Weights.l0 kq l0 (rd l0 t250) x4_1 x5_1 = some r) ∧ Aside0 (kq ≤ k) ∧ Aside0 (Kd.R (Kd.int .i64) 3 w' w.heap.size (fun _ => True) v4 x4_1) ∧ Aside0 (Below w.heap.size w w'))
      case atStart => exact ⟨(([] : List Int)), (0), (by first | rfl | (simp; done) | (simp [*]; done)), H', ⟨Nat.le_refl _⟩, ⟨by first | exact Kd.R_nil _ _ _ _ _ | exact Kd.N_nil _ _ _ _ _ | exact Kd.V_nil _ _ _ _ _ | exact Kd.Q_nil _ _ _ _ _ | exact Kd.S_nil _ _ _ _ _⟩, ⟨by repeat (first | (with_reducible first | exact HB.out | apply below_alloc | apply pw_below_drewN | apply below_drew1) | exact HB.out)⟩⟩
      case round =>
        clear H'
        try clear p2
        try clear q2
        try clear hx2
        try clear c3
        try clear c3b0
        try clear c4
        try clear c4b0
        try clear hx251_0
        try clear p251
        try clear q251
        obtain ⟨x4_1, x5_1, rfl, HA, HK1, HO_4, HB⟩ := hrel
        cases gk with
        | zero => exact absurd HA.out (by simp [credenzaref04_Weights.l0])
        | succ k1 =>
          have H := HA.out
          clear HA
          simp only [credenzaref04_Weights.l0] at H
          by_cases c5 : x5_1 < (l0.length : Int)
          · rw [if_pos c5] at H
            have c5b0 : decide (x5_1 < (l0.length : Int)) = true := decide_eq_true c5
            clear c5
            by_cases c6 : 0 ≤ x5_1
            · rw [if_pos c6] at H
              have c6b0 : decide (0 ≤ x5_1) = true := decide_eq_true c6
              clear c6
              replace H := Option.bind_eq_some_iff.mp H
              obtain ⟨t253, A70, H⟩ := H
              replace H : ((credenzaref02_Exp.f k1 t253).bind fun t254 => (if x4_1.length < 17592186044416 then (credenzaref04_Weights.l0 k1 l0 (rd l0 t250) (x4_1 ++ [t254]) (wrap64 (x5_1 + 1))) else (none))) = some r := H
              have A7 := Aside0.mk A70
              clear A70
              replace H := Option.bind_eq_some_iff.mp H
              obtain ⟨t254, A80, H⟩ := H
              replace H : (if x4_1.length < 17592186044416 then (credenzaref04_Weights.l0 k1 l0 (rd l0 t250) (x4_1 ++ [t254]) (wrap64 (x5_1 + 1))) else (none)) = some r := H
              have A8 := Aside0.mk A80
              clear A80
              by_cases c9 : x4_1.length < 17592186044416
              · rw [if_pos c9] at H
                have LMc9 := Aside0.mk c9
                clear c9
                obtain ⟨y255, hy255⟩ : ∃ y_ : List Int, y_ = (x4_1 ++ [t254]) := ⟨_, rfl⟩
                replace H : (credenzaref04_Weights.l0 k1 l0 (rd l0 t250) y255 (wrap64 (x5_1 + 1))) = some r := by first | (rw [hy255]; with_reducible exact H) | (have H2_ := (Option.bind_some _ _).symm.trans H; rw [hy255]; with_reducible exact H2_) | (have H2_ := (Option.bind_some _ _).symm.trans H; with_reducible exact H2_) | with_reducible exact H | (rw [hy255]; exact H) | exact H
                have Ny255 := Aside0.mk hy255
                clear hy255
                have H' := Aside0.mk H
                clear H
                have p252 : 0 ≤ (x5_1 : Int) := of_decide_eq_true (by first | (with_reducible assumption) | assumption)
                have q252 : x5_1 < (l0.length : Int) := of_decide_eq_true (by first | (with_reducible assumption) | assumption)
                obtain ⟨ad252, e252, hx252_0⟩ := Kd.at_int HR0.out x5_1 p252 q252
                obtain rfl : ad251 = ad252 := (by injection e252)
                replace hx252_0 := (HB.out.cell (World.block_lt_of_cell? w _ hx252_0)).trans hx252_0
                replace p252 := eq_true p252
                replace q252 := eq_true q252
                go_wp2_with (first | ((with_reducible refine gate_callee (f := 28) rfl ?_); refine goesL_ (some 26) rfl rfl Try.func28 (by kernel_rfl) rfl #[.int .i64 (wrap64 ((wrap64 (rd l0 x5_1)) - (wrap64 ((rd l0 t250)))))] rfl (by (try simp only [List.map_toArray, List.map_cons, List.map_nil]); first | done | rfl | (simp only [List.length_drop, List.length_take]; rfl)) ?_; (with_reducible refine (credenzaref01_Wide.calls (wrap64 ((wrap64 (rd l0 x5_1)) - (wrap64 ((rd l0 t250))))) t253 _ A7.out).mono ?_); rintro e w' ⟨rfl, ⟨nd, rfl⟩⟩; refine ⟨_, rfl, ?_⟩) | ((with_reducible refine gate_callee (f := 55) rfl ?_); refine goesL_ (some 27) rfl rfl Try.func55 (by kernel_rfl) rfl #[.int .i32 t253] rfl (by (try simp only [List.map_toArray, List.map_cons, List.map_nil]); first | done | rfl | (simp only [List.length_drop, List.length_take]; rfl)) ?_; (with_reducible refine (credenzaref02_Exp.calls k1 t253 t254 _ A8.out).mono ?_); rintro e w' ⟨rfl, ⟨nd, rfl⟩⟩; refine ⟨_, rfl, ?_⟩) | ((with_reducible refine gate_builtin (b := .append) (xs := #[.tmp 17, .tmp 28]) rfl ?_); at_builtin; refine Kd.R_append (Kd.int .i64) (w0 := w) w.heap.size rfl (.tmp 17) (.tmp 28) 66 3 (.int .i64 0) 8 rfl Try.underlying66 info3 rfl (by decide) (by omega) u4 x4_1 t254 [.int .i64 t254] (fun _ => True) (fun _ => False) rfl rfl ?aP (fun _ hk => hk.elim) ?aF ?aO ?aB ?aS ?aL ?_; (case aP => exact rfl); (case aB => exact (by repeat (first | (with_reducible first | exact HB.out | apply below_alloc | apply pw_below_drewN | apply below_drew1) | exact HB.out))); (case aF => exact (fun _ _ => trivial)); (case aO => exact (by (with_reducible repeat (first | apply Kd.R_alloc | apply Kd.R_drewN | apply Kd.R_drew)); exact HO_4.out)); (case aS => exact (below_size (by repeat (first | (with_reducible first | exact HB.out | apply below_alloc | apply pw_below_drewN | apply below_drew1) | exact HB.out)))); (case aL => have := LMc9.out; omega); intro v256 w10 ho hb hg hat; rw [← Ny255.out] at ho; have n0_ := Aside0.mk (hb); have n1_ := Aside0.mk (ho); clear HB; clear HO_4; have HB := n0_; have HO257 := n1_; clear n0_ n1_; clear ho hb hg hat))
                go_roundg k1
                case measure => have := HK1.out; omega
                case rel => exact ⟨(y255), (wrap64 (x5_1 + 1)), (by first | rfl | (simp; done) | (simp [*]; done)), H', ⟨by have := HK1.out; omega⟩, ⟨by (with_reducible repeat (first | apply Kd.R_alloc | apply Kd.R_drewN | apply Kd.R_drew)); exact HO257.out⟩, ⟨by repeat (first | (with_reducible first | exact HB.out | apply below_alloc | apply pw_below_drewN | apply below_drew1) | exact HB.out)⟩⟩
              · rw [if_neg c9] at H
                exact absurd H (by simp)
            · rw [if_neg c6] at H
              exact absurd H (by simp)
          · rw [if_neg c5] at H
            have c5b0 : decide (x5_1 < (l0.length : Int)) = false := decide_eq_false c5
            clear c5
            obtain rfl := Option.some.inj H
            go_wp2
            go_ret
            exact ⟨_, by first | rfl | (simp [errW_none, errW_some] <;> rfl) | (simp [*, errW_none, errW_some] <;> rfl), by (with_reducible repeat (first | apply Kd.R_alloc | apply Kd.R_drewN | apply Kd.R_drew)); exact HO_4.out, by repeat (first | (with_reducible first | exact HB.out | apply below_alloc | apply pw_below_drewN | apply below_drew1) | exact HB.out)⟩
    · rw [if_neg c4] at H
      exact absurd H (by simp)
  · rw [if_neg c3] at H
    exact absurd H (by simp)

end Go.Proofs.Yteflolamihhmdaa.Q

namespace Go.Proofs.Yteflolamihhmdaa.Pure
open Go.RowKit Go.Proofs.Yteflolamihhmdaa.Q Go.Proofs.YteflolamihhmdaaW.PrintWords Go.Proofs.YteflolamihhmdaaW.PrintLast

def of2R (f : Int) : Int := 65536 + f * (45613 + f * (14743 + f * 5180 / 65536) / 65536) / 65536
theorem of2_bd {f : Int} (h1 : 0 ≤ f) (h2 : f ≤ 65535) : 0 ≤ f * 5180 / 65536 ∧ f * 5180 / 65536 ≤ 5180 ∧ 0 ≤ f * (14743 + f * 5180 / 65536) ∧ f * (14743 + f * 5180 / 65536) ≤ 1305653805 ∧ 0 ≤ f * (14743 + f * 5180 / 65536) / 65536 ∧ f * (14743 + f * 5180 / 65536) / 65536 ≤ 19923 ∧
    0 ≤ f * (45613 + f * (14743 + f * 5180 / 65536) / 65536) ∧ f * (45613 + f * (14743 + f * 5180 / 65536) / 65536) ≤ 4294901760 ∧ 65536 ≤ of2R f ∧ of2R f ≤ 131071 := by
  have a1 : 0 ≤ f * 5180 / 65536 ∧ f * 5180 / 65536 ≤ 5180 := by omega
  unfold of2R
  generalize f * 5180 / 65536 = u at *
  have a2 : 0 ≤ f * (14743 + u) ∧ f * (14743 + u) ≤ 65535 * (14743 + 5180) := ⟨Int.mul_nonneg (by omega) (by omega), Int.mul_le_mul (by omega) (by omega) (by omega) (by omega)⟩
  generalize f * (14743 + u) = v at *
  have a3 : 0 ≤ v / 65536 ∧ v / 65536 ≤ 19923 := by omega
  generalize v / 65536 = z at *
  have a4 : 0 ≤ f * (45613 + z) ∧ f * (45613 + z) ≤ 65535 * (45613 + 19923) := ⟨Int.mul_nonneg (by omega) (by omega), Int.mul_le_mul (by omega) (by omega) (by omega) (by omega)⟩
  generalize f * (45613 + z) = y at *
  omega
/-- e to a number that isn't above 0 -/
def expT (x : Int) : Int := rnd ((if x < 0 then x else 0) * 94548) 65536
def expR (x : Int) : Int := if 62 < -(expT x / 65536) then 0 else rnd (of2R (expT x % 65536)) (2 ^ (-(expT x / 65536)).toNat)
theorem expT_bd {x : Int} (hx : I32 x) : -4611686018427387904 ≤ (if x < 0 then x else 0) * 94548 ∧ (if x < 0 then x else 0) * 94548 ≤ 0 ∧ -4000000000 ≤ expT x ∧ expT x ≤ 0 := by
  unfold I32 at hx
  unfold expT rnd
  generalize hm : (if x < 0 then x else 0) = m
  have h1 : -2147483648 ≤ m ∧ m ≤ 0 := by rw [← hm]; split <;> omega
  refine ⟨by omega, by omega, ?_, ?_⟩ <;> split <;> omega
theorem emod_eq (t : Int) : t - t / 65536 * 65536 = t % 65536 := by omega
theorem expo_of2_some {f : Int} (h1 : 0 ≤ f) (h2 : f ≤ 65535) : expo_of2.f f = some (of2R f) := by
  obtain ⟨a1, a2, a3, a4, a5, a6, a7, a8, a9, a10⟩ := of2_bd h1 h2
  have e1 : wrap64 (f * 5180) = f * 5180 := w64 (by omega) (by omega)
  have e2 : wrap64 (14743 + f * 5180 / 65536) = 14743 + f * 5180 / 65536 := w64 (by omega) (by omega)
  have e3 : wrap64 (f * (14743 + f * 5180 / 65536)) = f * (14743 + f * 5180 / 65536) := w64 (by omega) (by omega)
  have e4 : wrap64 (45613 + f * (14743 + f * 5180 / 65536) / 65536) = 45613 + f * (14743 + f * 5180 / 65536) / 65536 := w64 (by omega) (by omega)
  have e5 : wrap64 (f * (45613 + f * (14743 + f * 5180 / 65536) / 65536)) = f * (45613 + f * (14743 + f * 5180 / 65536) / 65536) := w64 (by omega) (by omega)
  have e6 : wrap64 (of2R f) = of2R f := w64 (by omega) (by omega)
  unfold expo_of2.f
  rw [e1, e2, e3, e4, e5]
  exact congrArg some e6
theorem expo_Exp_some {x : Int} (hx : I32 x) : expo_Exp.f x = some (expR x) := by
  obtain ⟨b1, b2, b3, b4⟩ := expT_bd hx
  unfold I32 at hx
  have e0 : mn x 0 = (if x < 0 then x else 0) := by unfold mn; split <;> split <;> omega
  have e1 : wrap64 (if x < 0 then x else 0) = (if x < 0 then x else 0) := by split <;> exact w64 (by omega) (by omega)
  have e2 : wrap64 ((if x < 0 then x else 0) * 94548) = (if x < 0 then x else 0) * 94548 := w64 (by omega) (by omega)
  have e3 : fix_Half.f ((if x < 0 then x else 0) * 94548) 16 = some (expT x) := fix_Half_16 b1 (by omega)
  have e4 : wrap64 (-(expT x / 65536)) = -(expT x / 65536) := w64 (by omega) (by omega)
  have e5 : wrap64 (expT x / 65536 * 65536) = expT x / 65536 * 65536 := w64 (by omega) (by omega)
  have e6 : wrap64 (expT x - expT x / 65536 * 65536) = expT x % 65536 := by rw [w64 (by omega) (by omega), emod_eq]
  have e7 := expo_of2_some (f := expT x % 65536) (by omega) (by omega)
  have hof := (of2_bd (f := expT x % 65536) (by omega) (by omega)).2.2.2.2.2.2.2.2
  rw [expo_Exp.f, e0, e1, e2, e3, Option.bind_some, e4, expR]
  by_cases c : -(expT x / 65536) > 62
  · rw [if_pos c, if_pos c]
  · have e8 := fix_Half_some (a := of2R (expT x % 65536)) (n := (-(expT x / 65536)).toNat) (by omega) (by omega) (by omega)
    rw [Int.toNat_of_nonneg (by omega)] at e8
    rw [if_neg c, if_neg c, e5, e6, e7, Option.bind_some, e8, Option.bind_some]
theorem power_loop (n : Nat) (hn : n ≤ 62) : ∀ (d k p : Nat), p + d = n → d < k → credenzaref01_Power.l0 k (n : Int) (2 ^ p) (p : Int) = some (2 ^ n) := by
  intro d
  induction d with
  | zero =>
    intro k p hp hk
    obtain ⟨k, rfl⟩ : ∃ m, k = m + 1 := ⟨k - 1, by omega⟩
    obtain rfl : p = n := by omega
    rw [credenzaref01_Power.l0, if_neg (by omega)]
  | succ d ih =>
    intro k p hp hk
    obtain ⟨k, rfl⟩ : ∃ m, k = m + 1 := ⟨k - 1, by omega⟩
    have hb := pow2_bd (n := p + 1) (by omega)
    have e : wrap64 ((2 : Int) ^ p * 2) = 2 ^ (p + 1) := by rw [← Int.pow_succ]; exact w64 (by omega) (by omega)
    rw [credenzaref01_Power.l0, if_pos (by omega), e, wnext (show p < n by omega) (by omega)]
    exact ih k (p + 1) (by omega) (by omega)
theorem ref_Half_some {a : Int} {n : Nat} (hn : n ≤ 62) (ha1 : -4611686018427387904 ≤ a) (ha2 : a ≤ 4611686018427387904) {k : Nat} (hk : 63 ≤ k) : credenzaref01_Half.f k a (n : Int) = some (rnd a (2 ^ n)) := by
  obtain ⟨hp1, hp2⟩ := pow2_bd hn
  have e1 : cutR (n : Int) 0 62 = (n : Int) := by unfold cutR; rw [if_neg (by omega), if_neg (by omega)]
  have e2 : credenzaref01_Power.f k (n : Int) = some (2 ^ n) := power_loop n hn n k 0 (by omega) (by omega)
  have e3 := ref_Ratio_some (a := a) (b := 2 ^ n) (by omega) ha1 ha2 hp2
  rw [credenzaref01_Half.f, ref_Cut_some, Option.bind_some, e1, e2, Option.bind_some, e3, Option.bind_some]
theorem tdiv65536 {a : Int} (h : 0 ≤ a) : Int.tdiv a 65536 = a / 65536 := Int.tdiv_eq_ediv_of_nonneg h
theorem exp_j0 {y : Int} (hy : -2147483648 ≤ y) (hy2 : y ≤ 0) {k : Nat} (hk : 64 ≤ k) : credenzaref02_Exp.j0 k y = some (expR y) := by
  obtain ⟨k, rfl⟩ : ∃ m, k = m + 1 := ⟨k - 1, by omega⟩
  have hif : (if y < 0 then y else 0) = y := by split <;> omega
  obtain ⟨b1, b2, b3, b4⟩ := expT_bd (x := y) ⟨by omega, by omega⟩
  rw [hif] at b1 b2
  have hT : expT y = rnd (y * 94548) 65536 := by unfold expT; rw [hif]
  have e1 : wrap64 y = y := w64 (by omega) (by omega)
  have e2 : wrap64 (y * 94548) = y * 94548 := w64 (by omega) (by omega)
  have e3 : credenzaref01_Ratio.f (y * 94548) 65536 = some (expT y) := by rw [hT]; exact ref_Ratio_some (by omega) (by omega) (by omega) (by omega)
  have e3' : credenzaref01_Floor.f (expT y) 65536 = some (expT y / 65536) := ref_Floor_some (by omega) (by omega) (by omega) (by omega)
  have e4 : wrap64 (-(expT y / 65536)) = -(expT y / 65536) := w64 (by omega) (by omega)
  have e5 : wrap64 (expT y / 65536 * 65536) = expT y / 65536 * 65536 := w64 (by omega) (by omega)
  have e6 : wrap64 (expT y - expT y / 65536 * 65536) = expT y % 65536 := by rw [w64 (by omega) (by omega), emod_eq]
  have hf1 : 0 ≤ expT y % 65536 := by omega
  have hf2 : expT y % 65536 ≤ 65535 := by omega
  obtain ⟨a1, a2, a3, a4, a5, a6, a7, a8, a9, a10⟩ := of2_bd hf1 hf2
  rw [credenzaref02_Exp.j0, e1, e2, e3, Option.bind_some, e3', Option.bind_some, e4, expR]
  by_cases c : -(expT y / 65536) > 62
  · rw [if_pos c, if_pos c]
  · have e8 := ref_Half_some (a := of2R (expT y % 65536)) (n := (-(expT y / 65536)).toNat) (by omega) (by omega) (by omega) (k := k) (by omega)
    rw [Int.toNat_of_nonneg (by omega)] at e8
    rw [if_neg c, if_neg c, e5, e6]
    generalize expT y % 65536 = f at *
    have g1 : wrap64 (f * 5180) = f * 5180 := w64 (by omega) (by omega)
    have g2 : wrap64 (f * 5180 / 65536) = f * 5180 / 65536 := w64 (by omega) (by omega)
    have g2' : wrap64 (14743 + f * 5180 / 65536) = 14743 + f * 5180 / 65536 := w64 (by omega) (by omega)
    have g3 : wrap64 (f * (14743 + f * 5180 / 65536)) = f * (14743 + f * 5180 / 65536) := w64 (by omega) (by omega)
    have g4 : wrap64 (f * (14743 + f * 5180 / 65536) / 65536) = f * (14743 + f * 5180 / 65536) / 65536 := w64 (by omega) (by omega)
    have g4' : wrap64 (45613 + f * (14743 + f * 5180 / 65536) / 65536) = 45613 + f * (14743 + f * 5180 / 65536) / 65536 := w64 (by omega) (by omega)
    have g5 : wrap64 (f * (45613 + f * (14743 + f * 5180 / 65536) / 65536)) = f * (45613 + f * (14743 + f * 5180 / 65536) / 65536) := w64 (by omega) (by omega)
    have g6 : wrap64 (f * (45613 + f * (14743 + f * 5180 / 65536) / 65536) / 65536) = f * (45613 + f * (14743 + f * 5180 / 65536) / 65536) / 65536 := w64 (by omega) (by omega)
    have g7 : wrap64 (65536 + f * (45613 + f * (14743 + f * 5180 / 65536) / 65536) / 65536) = of2R f := w64 (by unfold of2R at a9; omega) (by unfold of2R at a10; omega)
    rw [g1, tdiv65536 (a := f * 5180) (by omega), g2, g2', g3, tdiv65536 a3, g4, g4', g5, tdiv65536 a7, g6, g7, e8, Option.bind_some]
theorem expR_pos {x : Int} (h : 0 ≤ x) : expR x = expR 0 := by
  have : expT x = expT 0 := by unfold expT; rw [if_neg (by omega), if_neg (by omega)]
  unfold expR
  rw [this]
theorem ref_Exp_some {x : Int} (hx : I32 x) {k : Nat} (hk : 64 ≤ k) : credenzaref02_Exp.f k x = some (expR x) := by
  unfold I32 at hx
  rw [credenzaref02_Exp.f]
  by_cases c : x > 0
  · rw [if_pos c, exp_j0 (by omega) (by omega) hk, expR_pos (x := x) (by omega)]
  · rw [if_neg c, exp_j0 (by omega) (by omega) hk]
theorem expR_0 : expR 0 = 65536 := by decide +kernel
theorem expR_bd {x : Int} (hx : I32 x) : 0 ≤ expR x ∧ expR x ≤ 131072 := by
  obtain ⟨b1, b2, b3, b4⟩ := expT_bd hx
  unfold expR
  split
  · omega
  · have hof := (of2_bd (f := expT x % 65536) (by omega) (by omega)).2.2.2.2.2.2.2.2
    obtain ⟨hp1, hp2⟩ := pow2_bd (n := (-(expT x / 65536)).toNat) (by omega)
    generalize (2 : Int) ^ (-(expT x / 65536)).toNat = b at *
    generalize of2R (expT x % 65536) = a at *
    have h1 := div_bd (a := a) (b := b) (by omega) 131071 (by omega) (by omega)
    have h2 : 0 ≤ a / b := Int.ediv_nonneg (by omega) (by omega)
    unfold rnd
    split <;> omega

/-- the greatest one -/
def topR : List Int → Int
  | [] => 0
  | x :: xs => xs.foldl (fun a b => if a < b then b else a) x
theorem mx_eq (a b : Int) : mx a b = if a < b then b else a := rfl
theorem fold_take {l : List Int} {p : Nat} (h : p < l.length) (h0 : 0 < p) : topR (l.take (p + 1)) = if topR (l.take p) < rd l (p : Int) then rd l (p : Int) else topR (l.take p) := by
  rw [take_rd h]
  cases hl : l.take p with
  | nil =>
    have h3 : (l.take p).length = 0 := by rw [hl]; rfl
    rw [List.length_take] at h3
    omega
  | cons x xs =>
    simp only [topR, List.cons_append, List.foldl_append, List.foldl_cons, List.foldl_nil]
    exact ite_congr rfl (fun _ => rfl) (fun _ => rfl)
theorem max_loop (l : List Int) (hl : l.length ≤ 1000000) : ∀ (d k p : Nat), p + d = l.length → d < k → 0 < p → slices_Max_int32_int32.l0 k l (topR (l.take p)) (p : Int) = some (topR l) := by
  intro d
  induction d with
  | zero =>
    intro k p hp hk h0
    obtain ⟨k, rfl⟩ : ∃ m, k = m + 1 := ⟨k - 1, by omega⟩
    rw [slices_Max_int32_int32.l0, if_neg (by omega), List.take_of_length_le (by omega)]
  | succ d ih =>
    intro k p hp hk h0
    obtain ⟨k, rfl⟩ : ∃ m, k = m + 1 := ⟨k - 1, by omega⟩
    have hlt : p < l.length := by omega
    rw [slices_Max_int32_int32.l0, if_pos (by omega), if_pos (by omega), mx_eq, ← fold_take hlt h0, wnext hlt (by omega)]
    exact ih k (p + 1) (by omega) (by omega) (by omega)
theorem take_one {l : List Int} (h : 0 < l.length) : topR (l.take 1) = rd l 0 := by
  cases l with
  | nil => simp at h
  | cons x xs => simp [topR, rd]
theorem max_some {l : List Int} (h : 0 < l.length) (hl : l.length ≤ 1000000) {k : Nat} (hk : l.length < k) : slices_Max_int32_int32.f k l = some (topR l) := by
  rw [slices_Max_int32_int32.f, if_neg (by omega), if_pos (by omega), ← take_one h]
  exact max_loop l hl (l.length - 1) k 1 (by omega) (by omega) (by omega)
theorem index_some (l : List Int) (a : Int) (hl : l.length ≤ 1000000) : ∀ (d k p : Nat), p + d = l.length → d < k → ∃ r, slices_Index_int32_int32.l0 k l a (l.length : Int) (p : Int) = some r := by
  intro d
  induction d with
  | zero =>
    intro k p hp hk
    obtain ⟨k, rfl⟩ : ∃ m, k = m + 1 := ⟨k - 1, by omega⟩
    exact ⟨_, by rw [slices_Index_int32_int32.l0, if_neg (by omega)]⟩
  | succ d ih =>
    intro k p hp hk
    obtain ⟨k, rfl⟩ : ∃ m, k = m + 1 := ⟨k - 1, by omega⟩
    have hlt : p < l.length := by omega
    rw [slices_Index_int32_int32.l0, if_pos (by omega), if_pos (by omega), if_pos (by omega)]
    by_cases c : a = rd l (p : Int)
    · exact ⟨_, by rw [if_pos c]⟩
    · rw [if_neg c, wnext hlt (by omega)]
      exact ih k (p + 1) (by omega) (by omega)
theorem dot_Top_some {l : List Int} (h : 0 < l.length) (hl : l.length ≤ 1000000) {k : Nat} (hk : l.length < k) : ∃ r, dot_Top.f k l = some (r, topR l, 0) := by
  obtain ⟨r, hr⟩ := index_some l (topR l) hl l.length k 0 (by omega) hk
  have hr' : slices_Index_int32_int32.f k l (topR l) = some r := hr
  exact ⟨r, by rw [dot_Top.f, if_neg (by omega), max_some h hl hk, Option.bind_some, hr', Option.bind_some]⟩
theorem ref_top_loop (l : List Int) (hl : l.length ≤ 1000000) : ∀ (d k p q : Nat), p + d = l.length → d < k → 0 < p → q < p → rd l (q : Int) = topR (l.take p) → ∃ r : Nat, r < l.length ∧ credenzaref03_Top.l0 k l (q : Int) (p : Int) = some (r : Int) ∧ rd l (r : Int) = topR l := by
  intro d
  induction d with
  | zero =>
    intro k p q hp hk h0 hq h
    obtain ⟨k, rfl⟩ : ∃ m, k = m + 1 := ⟨k - 1, by omega⟩
    exact ⟨q, by omega, by rw [credenzaref03_Top.l0, if_neg (by omega)], by rw [h, List.take_of_length_le (by omega)]⟩
  | succ d ih =>
    intro k p q hp hk h0 hq h
    obtain ⟨k, rfl⟩ : ∃ m, k = m + 1 := ⟨k - 1, by omega⟩
    have hlt : p < l.length := by omega
    have hf := fold_take hlt h0
    rw [credenzaref03_Top.l0, if_pos (by omega), if_pos (by omega), if_pos (by omega), if_pos (by omega), wnext hlt (by omega)]
    by_cases c : rd l (p : Int) > rd l (q : Int)
    · rw [if_pos c]
      exact ih k (p + 1) p (by omega) (by omega) (by omega) (by omega) (by rw [hf, if_pos (by omega)])
    · rw [if_neg c]
      exact ih k (p + 1) q (by omega) (by omega) (by omega) (by omega) (by rw [hf, if_neg (by omega), h])
theorem ref_Top_some {l : List Int} (h : 0 < l.length) (hl : l.length ≤ 1000000) {k : Nat} (hk : l.length < k) : ∃ r : Nat, r < l.length ∧ credenzaref03_Top.f k l = some (r : Int) ∧ rd l (r : Int) = topR l := by
  obtain ⟨k, rfl⟩ : ∃ m, k = m + 1 := ⟨k - 1, by omega⟩
  have := ref_top_loop l hl (l.length - 1) k 1 0 (by omega) (by omega) (by omega) (by omega) (take_one h).symm
  rw [credenzaref03_Top.f, credenzaref03_Top.l0, if_pos (by omega), if_pos (by omega), if_pos (by omega), if_pos (by omega), if_neg (by simp), show wrap64 ((0 : Int) + 1) = ((1 : Nat) : Int) from w64 (by omega) (by omega)]
  exact this
/-- weights of scores -/
def wR (top x : Int) : Int := expR (wideR (x - top))
def weightsR (l : List Int) : List Int := l.map (wR (topR l))
theorem topR_key {l : List Int} (hh : 0 < l.length) : ∀ p : Nat, 0 < p → p ≤ l.length → ∃ r : Nat, r < p ∧ rd l (r : Int) = topR (l.take p) := by
  intro p
  induction p with
  | zero => intro h0; omega
  | succ p ih =>
    intro _ hp
    by_cases c : p = 0
    · subst c
      exact ⟨0, by omega, (take_one hh).symm⟩
    · obtain ⟨r, hr, e⟩ := ih (by omega) (by omega)
      have hf := fold_take (l := l) (p := p) (by omega) (by omega)
      by_cases c2 : topR (l.take p) < rd l (p : Int)
      · exact ⟨p, by omega, by rw [hf, if_pos c2]⟩
      · exact ⟨r, by omega, by rw [hf, if_neg c2, e]⟩
theorem topR_mem {l : List Int} (h : 0 < l.length) : topR l ∈ l := by
  obtain ⟨r, hr, e⟩ := topR_key h l.length h (Nat.le_refl _)
  rw [List.take_length] at e
  rw [← e]
  exact rd_mem hr
theorem w_loop (l : List Int) (top : Int) (ht : I32 top) (hl : l.length ≤ 1000000) (hw : A32 l) : ∀ (d k p : Nat), p + d = l.length → d < k → soft_Weights.l0 k top ((l.take p).map (wR top)) l (l.length : Int) (p : Int) = some (l.map (wR top), 0) := by
  intro d
  unfold I32 at ht
  induction d with
  | zero =>
    intro k p hp hk
    obtain ⟨k, rfl⟩ : ∃ m, k = m + 1 := ⟨k - 1, by omega⟩
    rw [soft_Weights.l0, if_neg (by omega), List.take_of_length_le (by omega)]
  | succ d ih =>
    intro k p hp hk
    obtain ⟨k, rfl⟩ : ∃ m, k = m + 1 := ⟨k - 1, by omega⟩
    have hlt : p < l.length := by omega
    have hx := hw _ (rd_mem hlt)
    unfold I32 at hx
    have hwd := wideR_bd (rd l (p : Int) - top)
    have e1 : fix_Sub.f (rd l (p : Int)) top = some (wideR (rd l (p : Int) - top)) := by
      rw [fix_Sub.f, w64 (x := rd l (p : Int)) (by omega) (by omega), w64 (x := top) (by omega) (by omega), w64 (x := rd l (p : Int) - top) (by omega) (by omega), fix_Wide_some, Option.bind_some]
    have e2 := expo_Exp_some (x := wideR (rd l (p : Int) - top)) hwd
    have e3 : (l.take p).map (wR top) ++ [expR (wideR (rd l (p : Int) - top))] = (l.take (p + 1)).map (wR top) := by rw [take_rd hlt]; simp [wR]
    rw [soft_Weights.l0, if_pos (by omega), if_pos (by omega), if_pos (by omega), e1, Option.bind_some, e2, Option.bind_some, if_pos (by simp; omega), e3, wnext hlt (by omega)]
    exact ih k (p + 1) (by omega) (by omega)
theorem soft_Weights_some {l : List Int} (h : 0 < l.length) (hl : l.length ≤ 1024) (hw : A32 l) {k : Nat} (hk : l.length < k) : soft_Weights.f k l = some (weightsR l, 0) := by
  obtain ⟨r, hr⟩ := dot_Top_some h (by omega) hk
  rw [soft_Weights.f, if_neg (by omega), hr, Option.bind_some, if_pos rfl]
  exact w_loop l (topR l) (hw _ (topR_mem h)) (by omega) hw l.length k 0 (by omega) hk
theorem ref_w_loop (l : List Int) (top : Int) (ht : I32 top) (hl : l.length ≤ 1000000) (hw : A32 l) : ∀ (d k p : Nat), p + d = l.length → d + 64 < k → credenzaref04_Weights.l0 k l top ((l.take p).map (wR top)) (p : Int) = some (l.map (wR top)) := by
  intro d
  unfold I32 at ht
  induction d with
  | zero =>
    intro k p hp hk
    obtain ⟨k, rfl⟩ : ∃ m, k = m + 1 := ⟨k - 1, by omega⟩
    rw [credenzaref04_Weights.l0, if_neg (by omega), List.take_of_length_le (by omega)]
  | succ d ih =>
    intro k p hp hk
    obtain ⟨k, rfl⟩ : ∃ m, k = m + 1 := ⟨k - 1, by omega⟩
    have hlt : p < l.length := by omega
    have hx := hw _ (rd_mem hlt)
    unfold I32 at hx
    have hwd := wideR_bd (rd l (p : Int) - top)
    have e2 := ref_Exp_some (x := wideR (rd l (p : Int) - top)) hwd (k := k) (by omega)
    have e3 : (l.take p).map (wR top) ++ [expR (wideR (rd l (p : Int) - top))] = (l.take (p + 1)).map (wR top) := by rw [take_rd hlt]; simp [wR]
    rw [credenzaref04_Weights.l0, if_pos (by omega), if_pos (by omega), w64 (x := rd l (p : Int)) (by omega) (by omega), w64 (x := top) (by omega) (by omega), w64 (x := rd l (p : Int) - top) (by omega) (by omega), ref_Wide_some, Option.bind_some, e2, Option.bind_some, if_pos (by simp; omega), e3, wnext hlt (by omega)]
    exact ih k (p + 1) (by omega) (by omega)
theorem ref_Weights_some {l : List Int} (h : 0 < l.length) (hl : l.length ≤ 1024) (hw : A32 l) {k : Nat} (hk : l.length + 64 < k) : credenzaref04_Weights.f k l = some (weightsR l) := by
  obtain ⟨r, hr, e, e2⟩ := ref_Top_some h (by omega) (k := k) (by omega)
  rw [credenzaref04_Weights.f, e, Option.bind_some, if_pos (by omega), if_pos (by omega), e2]
  exact ref_w_loop l (topR l) (hw _ (topR_mem h)) (by omega) hw l.length k 0 (by omega) (by omega)
end Go.Proofs.Yteflolamihhmdaa.Pure

namespace Go.Proofs.Yteflolamihhmdaa.Q
open Go.RowKit Go.Proofs.YteflolamihhmdaaW.PrintWords Go.Proofs.YteflolamihhmdaaW.PrintLast Go.Proofs.YteflolamihhmdaaW.PrintMore
attribute [local go_sem] max2_int min2_int max_two min_two max_three min_three max_four min_four   -- for this text's walks alone
set_option linter.unusedVariables false
set_option linter.unusedSimpArgs false

/-! ### attn_shaped: function 62 -/
def attn_shaped.l0 : Nat → Int → List (List Int) → Int → Int → Option (Bool)
  | 0, _, _, _, _ => none
  | k + 1, x1, x7, x8, x9 => if x9 < x8 then (if 0 ≤ x9 then (if x9 < (x7.length : Int) then (if ((rd_L8 x7 x9).length : Int) = x1 then (attn_shaped.l0 k x1 x7 x8 (wrap64 (x9 + 1))) else (some false)) else (none)) else (none)) else (some true)
def attn_shaped.f (k : Nat) (l0 : List (List Int)) (a1 : Int) : Option (Bool) := attn_shaped.l0 k a1 l0 (l0.length : Int) 0
theorem attn_shaped.mono_l : ∀ k, (∀ y0 y1 y2 y3, LeO (attn_shaped.l0 k y0 y1 y2 y3) (attn_shaped.l0 (k + 1) y0 y1 y2 y3))
  | 0 => fun _ _ _ _ r h => by simp [attn_shaped.l0] at h
  | k + 1 => by
    have ih0 := attn_shaped.mono_l k
    · intro y0 y1 y2 y3
      unfold attn_shaped.l0
      repeat' first
      | (with_reducible exact ih0 _ _ _ _)
      | (with_reducible exact LeO.refl _)
      | (with_reducible exact LeO.none _)
      | (with_reducible refine LeO.ite ?_ ?_)
      | (with_reducible refine LeO.bind ?_ (fun _ => ?_))
      | exact ih0 _ _ _ _
      | exact LeO.none _
      | refine LeO.ite ?_ ?_
      | refine LeO.bind ?_ (fun _ => ?_)
theorem attn_shaped.mono : ∀ a0 a1 k, LeO (attn_shaped.f k a0 a1) (attn_shaped.f (k + 1) a0 a1) := by
  intro a0 a1 k
  have ih0 := attn_shaped.mono_l k
  unfold attn_shaped.f
  repeat' first
      | (with_reducible exact ih0 _ _ _ _)
      | (with_reducible exact LeO.refl _)
      | (with_reducible exact LeO.none _)
      | (with_reducible refine LeO.ite ?_ ?_)
      | (with_reducible refine LeO.bind ?_ (fun _ => ?_))
      | exact ih0 _ _ _ _
      | exact LeO.none _
      | refine LeO.ite ?_ ?_
      | refine LeO.bind ?_ (fun _ => ?_)
set_option maxHeartbeats 8000000 in
set_option maxRecDepth 100000 in
theorem attn_shaped.calls (k : Nat) (A0 : Option Addr) (c0 : Nat) (l0 : List (List Int)) (a1 : Int) (r : Bool) (w : World) (hr0 : Kd.C (Kd.slice 21 (Kd.int .i32)) w A0 l0.length l0) (hc0 : l0.length ≤ c0) (h : attn_shaped.f k l0 a1 = some r) :
    Calls Try.prog 62 #[.slice A0 l0.length c0, .int .i64 a1] w fun e w' => e = .returned (.bool r) ∧ Drawn0 w w' := by
  have HR0 := Aside0.mk hr0
  have HC0 := Aside0.mk hc0
  clear hr0 hc0
  have H : (attn_shaped.l0 k a1 l0 (l0.length : Int) 0) = some r := h
  clear h
  have H' := Aside0.mk H
  clear H
  go_enter Try.func62, Try.ntmps62
  go_wp2
  go_loopg [9] k (fun kq v9 w' => ∃ (x9_1 : Int), v9 = .int .i64 x9_1 ∧ Aside0 (attn_shaped.l0 kq a1 l0 (l0.length : Int) x9_1 = some r) ∧ Aside0 (kq ≤ k) ∧ Drawn0 w w')
  case atStart => exact ⟨(0), (by first | rfl | (simp; done) | (simp [*]; done)), H', ⟨Nat.le_refl _⟩, by repeat (first | exact Drawn0.refl _ | apply Drawn0.step)⟩
  case round =>
    clear H'
    try clear p2
    obtain ⟨x9_1, rfl, HA, HK1, ⟨m1, rfl⟩⟩ := hrel
    cases gk with
    | zero => exact absurd HA.out (by simp [attn_shaped.l0])
    | succ k1 =>
      have H := HA.out
      clear HA
      simp only [attn_shaped.l0] at H
      by_cases c3 : x9_1 < (l0.length : Int)
      · rw [if_pos c3] at H
        have c3b0 : decide (x9_1 < (l0.length : Int)) = true := decide_eq_true c3
        clear c3
        by_cases c4 : 0 ≤ x9_1
        · rw [if_pos c4] at H
          have c4b0 : decide (0 ≤ x9_1) = true := decide_eq_true c4
          clear c4
          by_cases c5 : x9_1 < (l0.length : Int)
          · rw [if_pos c5] at H
            have c5b0 : decide (x9_1 < (l0.length : Int)) = true := decide_eq_true c5
            clear c5
            by_cases c6 : ((rd_L8 l0 x9_1).length : Int) = a1
            · rw [if_pos c6] at H
              have c6b0 : (((rd_L8 l0 x9_1).length : Int) == a1) = true := beq_iff_eq.mpr c6
              have c6b1 : (((rd_L8 l0 x9_1).length : Int) != a1) = false := bne_eq_false_iff_eq.mpr c6
              clear c6
              have H' := Aside0.mk H
              clear H
              have p133 : 0 ≤ (x9_1 : Int) := of_decide_eq_true (by first | (with_reducible assumption) | assumption)
              have q133 : x9_1 < (l0.length : Int) := of_decide_eq_true (by first | (with_reducible assumption) | assumption)
              obtain ⟨ad133, A133_0, c133_0, e133, hx133_0, hl133_0, hi133_0⟩ := at_L8 HR0.out x9_1 p133 q133
              cases e133
              have HR133_0 := Aside0.mk hi133_0
              have HC133_0 := Aside0.mk hl133_0
              clear hi133_0 hl133_0
              replace p133 := eq_true p133
              replace q133 := eq_true q133
              go_wp2
              go_roundg k1
              case measure => have := HK1.out; omega
              case rel => exact ⟨(wrap64 (x9_1 + 1)), (by first | rfl | (simp; done) | (simp [*]; done)), H', ⟨by have := HK1.out; omega⟩, by repeat (first | exact Drawn0.refl _ | apply Drawn0.step)⟩
            · rw [if_neg c6] at H
              have c6b0 : (((rd_L8 l0 x9_1).length : Int) == a1) = false := beq_eq_false_iff_ne.mpr c6
              have c6b1 : (((rd_L8 l0 x9_1).length : Int) != a1) = true := bne_iff_ne.mpr c6
              obtain rfl := Option.some.inj H
              have p133 : 0 ≤ (x9_1 : Int) := of_decide_eq_true (by first | (with_reducible assumption) | assumption)
              have q133 : x9_1 < (l0.length : Int) := of_decide_eq_true (by first | (with_reducible assumption) | assumption)
              obtain ⟨ad133, A133_0, c133_0, e133, hx133_0, hl133_0, hi133_0⟩ := at_L8 HR0.out x9_1 p133 q133
              cases e133
              have HR133_0 := Aside0.mk hi133_0
              have HC133_0 := Aside0.mk hl133_0
              clear hi133_0 hl133_0
              replace p133 := eq_true p133
              replace q133 := eq_true q133
              go_wp2
              go_ret
              exact ⟨by first | rfl | (simp; done) | (simp [*]; done), by repeat (first | exact Drawn0.refl _ | apply Drawn0.step)⟩
          · rw [if_neg c5] at H
            exact absurd H (by simp)
        · rw [if_neg c4] at H
          exact absurd H (by simp)
      · rw [if_neg c3] at H
        have c3b0 : decide (x9_1 < (l0.length : Int)) = false := decide_eq_false c3
        clear c3
        obtain rfl := Option.some.inj H
        go_wp2
        go_ret
        exact ⟨by first | rfl | (simp; done) | (simp [*]; done), by repeat (first | exact Drawn0.refl _ | apply Drawn0.step)⟩

end Go.Proofs.Yteflolamihhmdaa.Q

namespace Go.Proofs.Yteflolamihhmdaa.Q
open Go.RowKit Go.Proofs.YteflolamihhmdaaW.PrintWords Go.Proofs.YteflolamihhmdaaW.PrintLast Go.Proofs.YteflolamihhmdaaW.PrintMore
attribute [local go_sem] max2_int min2_int max_two min_two max_three min_three max_four min_four   -- for this text's walks alone
set_option linter.unusedVariables false
set_option linter.unusedSimpArgs false

/-! ### attn_right: function 39 -/
/-- can a query gather of lists? an error's number -/
def attn_right.f (k : Nat) (q : List Int) (keys vals : List (List Int)) : Option Int :=
  if keys.length = 0 then some 14 else if 1024 < keys.length then some 12 else
  if keys.length = vals.length then (attn_sized.f ((keys.getD 0 []).length : Int)).bind fun b => if b = true then
    (if q.length = (keys.getD 0 []).length then (attn_shaped.f k keys ((keys.getD 0 []).length : Int)).bind fun b2 => if b2 = true then
      (attn_shaped.f k vals ((keys.getD 0 []).length : Int)).bind fun b3 => if b3 = true then some 0 else some 25
    else some 25 else some 25) else some 25
  else some 25
theorem attn_row_at {w : World} {A : Option Addr} {n : Nat} {xs : List (List Int)} (h : Kd.C (Kd.slice 21 (Kd.int .i32)) w A n xs) (t : Nat) (ht : t < n) : ∃ ad A0 c0, A = some ad ∧ w.cell? (ad.add t) = some (.slice A0 (xs.getD t []).length c0) ∧ (xs.getD t []).length ≤ c0 ∧ Kd.C (Kd.int .i32) w A0 (xs.getD t []).length (xs.getD t []) := by
  obtain ⟨ad, c, e, hc, ⟨A0, c0, rfl, hl, hr⟩, hcell⟩ := Kd.C_get h [] (t : Int) (by omega) (by omega)
  simp only [Int.toNat_natCast] at hl hr hcell
  refine ⟨ad, A0, c0, e, ?_, hl, hr⟩
  have := hcell 0 (.slice A0 (xs.getD t []).length c0) (by simp)
  simpa [Kd.slice] using this
set_option maxRecDepth 100000 in
set_option maxHeartbeats 8000000 in
theorem attn_right.calls (k : Nat) (Aq : Option Addr) (cq : Nat) (q : List Int) (Ak : Option Addr) (ck : Nat) (keys : List (List Int)) (Av : Option Addr) (cv : Nat) (vals : List (List Int)) (r : Int) (w : World)
    (hk : Kd.C (Kd.slice 21 (Kd.int .i32)) w Ak keys.length keys) (hck : keys.length ≤ ck) (hv : Kd.C (Kd.slice 21 (Kd.int .i32)) w Av vals.length vals) (hcv : vals.length ≤ cv)
    (h : attn_right.f k q keys vals = some r) :
    Calls Try.prog 39 #[.slice Aq q.length cq, .slice none 0 0, .slice Ak keys.length ck, .slice Av vals.length cv] w fun e w' => e = .returned (.int .i64 r) ∧ Below w.heap.size w w' := by
  have HK := Aside0.mk hk
  have HV := Aside0.mk hv
  have HCK := Aside0.mk hck
  have HCV := Aside0.mk hcv
  have hkl : keys.length ≤ 9223372036854775807 := hk.2.1
  clear hk hv hck hcv
  unfold attn_right.f at h
  by_cases c1 : keys.length = 0
  · rw [if_pos c1] at h
    obtain rfl := Option.some.inj h
    clear h
    have c1b : ((keys.length : Int) == 0) = true := by rw [beq_iff_eq]; omega
    clear c1
    go_enter Try.func39, Try.ntmps39
    go_wp2
    go_loop [9, 19] (fun t i => t = .int .i64 (keys.length : Int) ∧ i = .int .i64 0) (fun _ _ => 0)
    case atStart => exact ⟨rfl, rfl⟩
    case round =>
      obtain ⟨rfl, rfl⟩ := hrel
      go_wp2
      go_ret
      exact ⟨rfl, by repeat (first | exact Below.refl _ _ | apply below_alloc | apply pw_below_drewN | apply below_drew1)⟩
  · rw [if_neg c1] at h
    have c1b : ((keys.length : Int) == 0) = false := by rw [beq_eq_false_iff_ne]; omega
    have hk0 := attn_row_at HK.out 0 (by omega)
    obtain ⟨adk, A0, c0, rfl, hc0, hl0, hr0⟩ := hk0
    have HR0 := Aside0.mk hr0
    have hc00 : w.cell? adk = some (.slice A0 (keys.getD 0 []).length c0) := by simpa [Addr.add] using hc0
    generalize hrow : keys.getD 0 [] = row at hc0 hc00 hl0 HR0 h
    clear hrow hr0
    have hrl : row.length ≤ 9223372036854775807 := HR0.out.2.1
    by_cases c2 : 1024 < keys.length
    · rw [if_pos c2] at h
      obtain rfl := Option.some.inj h
      clear h
      have c2b : decide (1024 < (keys.length : Int)) = true := decide_eq_true (by omega)
      clear c1 c2
      go_enter Try.func39, Try.ntmps39
      go_wp2
      go_loop [9, 19] (fun t i => t = .int .i64 (keys.length : Int) ∧ i = .int .i64 0) (fun _ _ => 0)
      case atStart => exact ⟨rfl, rfl⟩
      case round =>
        obtain ⟨rfl, rfl⟩ := hrel
        go_wp2
        go_ret
        exact ⟨rfl, by repeat (first | exact Below.refl _ _ | apply below_alloc | apply pw_below_drewN | apply below_drew1)⟩
    · rw [if_neg c2] at h
      have c2b : decide (1024 < (keys.length : Int)) = false := decide_eq_false (by omega)
      have hkpos : 0 < keys.length := by omega
      have hkposi : (0 : Int) < (keys.length : Int) := by omega
      by_cases c3 : keys.length = vals.length
      · rw [if_pos c3] at h
        have c3b : ((keys.length : Int) != (vals.length : Int)) = false := by rw [bne_eq_false_iff_eq]; omega
        obtain ⟨b, hb, h⟩ := Option.bind_eq_some_iff.1 h
        have H1 := Aside0.mk hb
        clear hb
        clear c1 c2 c3
        cases b with
        | false =>
          rw [if_neg (by simp)] at h
          obtain rfl := Option.some.inj h
          clear h
          go_enter Try.func39, Try.ntmps39
          go_wp2
          go_loop [9, 19] (fun t i => t = .int .i64 (keys.length : Int) ∧ i = .int .i64 0) (fun _ _ => 0)
          case atStart => exact ⟨rfl, rfl⟩
          case round =>
            obtain ⟨rfl, rfl⟩ := hrel
            go_wp2
            go_loop [50] (fun i => i = .int .i64 0) (fun _ => 0)
            case atStart => rfl
            case round =>
              obtain rfl := hrel
              go_wp2_with (go_at_call 23; (with_reducible refine (attn_sized.calls _ false _ H1.out).mono ?_); rintro e w2 ⟨rfl, ⟨nd, rfl⟩⟩)
              go_ret
              exact ⟨rfl, by repeat (first | exact Below.refl _ _ | apply below_alloc | apply pw_below_drewN | apply below_drew1)⟩
        | true =>
          rw [if_pos rfl] at h
          by_cases c4 : q.length = row.length
          · rw [if_pos c4] at h
            have c4b : ((q.length : Int) != (row.length : Int)) = false := by rw [bne_eq_false_iff_eq]; omega
            obtain ⟨b, hb, h⟩ := Option.bind_eq_some_iff.1 h
            have H2 := Aside0.mk hb
            clear hb c4
            cases b with
            | false =>
              rw [if_neg (by simp)] at h
              obtain rfl := Option.some.inj h
              clear h
              go_enter Try.func39, Try.ntmps39
              go_wp2
              go_loop [9, 19] (fun t i => t = .int .i64 (keys.length : Int) ∧ i = .int .i64 0) (fun _ _ => 0)
              case atStart => exact ⟨rfl, rfl⟩
              case round =>
                obtain ⟨rfl, rfl⟩ := hrel
                go_wp2
                go_loop [50] (fun i => i = .int .i64 0) (fun _ => 0)
                case atStart => rfl
                case round =>
                  obtain rfl := hrel
                  go_wp2_with (first
                    | (go_at_call 23; (with_reducible refine (attn_sized.calls _ true _ H1.out).mono ?_); rintro e w2 ⟨rfl, ⟨nd, rfl⟩⟩)
                    | (go_at_call 62; (with_reducible refine (attn_shaped.calls k _ _ keys _ false _ (by first | exact HK.out | exact Kd.C_drewN HK.out _) HCK.out H2.out).mono ?_); rintro e w2 ⟨rfl, ⟨nd2, rfl⟩⟩))
                  go_ret
                  exact ⟨rfl, by repeat (first | exact Below.refl _ _ | apply below_alloc | apply pw_below_drewN | apply below_drew1)⟩
            | true =>
              rw [if_pos rfl] at h
              obtain ⟨b, hb, h⟩ := Option.bind_eq_some_iff.1 h
              have H3 := Aside0.mk hb
              clear hb
              cases b with
              | false =>
                rw [if_neg (by simp)] at h
                obtain rfl := Option.some.inj h
                clear h
                go_enter Try.func39, Try.ntmps39
                go_wp2
                go_loop [9, 19] (fun t i => t = .int .i64 (keys.length : Int) ∧ i = .int .i64 0) (fun _ _ => 0)
                case atStart => exact ⟨rfl, rfl⟩
                case round =>
                  obtain ⟨rfl, rfl⟩ := hrel
                  go_wp2
                  go_loop [50] (fun i => i = .int .i64 0) (fun _ => 0)
                  case atStart => rfl
                  case round =>
                    obtain rfl := hrel
                    go_wp2_with (first
                      | (go_at_call 23; (with_reducible refine (attn_sized.calls _ true _ H1.out).mono ?_); rintro e w2 ⟨rfl, ⟨nd, rfl⟩⟩)
                      | (go_at_call 62; (with_reducible refine (attn_shaped.calls k _ _ keys _ true _ (by first | exact HK.out | exact Kd.C_drewN HK.out _) HCK.out H2.out).mono ?_); rintro e w2 ⟨rfl, ⟨nd2, rfl⟩⟩)
                      | (go_at_call 62; (with_reducible refine (attn_shaped.calls k _ _ vals _ false _ (by first | exact HV.out | exact Kd.C_drewN HV.out _) HCV.out H3.out).mono ?_); rintro e w2 ⟨rfl, ⟨nd3, rfl⟩⟩))
                    go_ret
                    exact ⟨rfl, by repeat (first | exact Below.refl _ _ | apply below_alloc | apply pw_below_drewN | apply below_drew1)⟩
              | true =>
                rw [if_pos rfl] at h
                obtain rfl := Option.some.inj h
                clear h
                go_enter Try.func39, Try.ntmps39
                go_wp2
                go_loop [9, 19] (fun t i => t = .int .i64 (keys.length : Int) ∧ i = .int .i64 0) (fun _ _ => 0)
                case atStart => exact ⟨rfl, rfl⟩
                case round =>
                  obtain ⟨rfl, rfl⟩ := hrel
                  go_wp2
                  go_loop [50] (fun i => i = .int .i64 0) (fun _ => 0)
                  case atStart => rfl
                  case round =>
                    obtain rfl := hrel
                    go_wp2_with (first
                      | (go_at_call 23; (with_reducible refine (attn_sized.calls _ true _ H1.out).mono ?_); rintro e w2 ⟨rfl, ⟨nd, rfl⟩⟩)
                      | (go_at_call 62; (with_reducible refine (attn_shaped.calls k _ _ keys _ true _ (by first | exact HK.out | exact Kd.C_drewN HK.out _) HCK.out H2.out).mono ?_); rintro e w2 ⟨rfl, ⟨nd2, rfl⟩⟩)
                      | (go_at_call 62; (with_reducible refine (attn_shaped.calls k _ _ vals _ true _ (by first | exact HV.out | exact Kd.C_drewN HV.out _) HCV.out H3.out).mono ?_); rintro e w2 ⟨rfl, ⟨nd3, rfl⟩⟩))
                    go_ret
                    exact ⟨rfl, by repeat (first | exact Below.refl _ _ | apply below_alloc | apply pw_below_drewN | apply below_drew1)⟩
          · rw [if_neg c4] at h
            obtain rfl := Option.some.inj h
            clear h
            have c4b : ((q.length : Int) != (row.length : Int)) = true := by rw [bne_iff_ne]; omega
            clear c4
            go_enter Try.func39, Try.ntmps39
            go_wp2
            go_loop [9, 19] (fun t i => t = .int .i64 (keys.length : Int) ∧ i = .int .i64 0) (fun _ _ => 0)
            case atStart => exact ⟨rfl, rfl⟩
            case round =>
              obtain ⟨rfl, rfl⟩ := hrel
              go_wp2
              go_loop [50] (fun i => i = .int .i64 0) (fun _ => 0)
              case atStart => rfl
              case round =>
                obtain rfl := hrel
                go_wp2_with (go_at_call 23; (with_reducible refine (attn_sized.calls _ true _ H1.out).mono ?_); rintro e w2 ⟨rfl, ⟨nd, rfl⟩⟩)
                go_ret
                exact ⟨rfl, by repeat (first | exact Below.refl _ _ | apply below_alloc | apply pw_below_drewN | apply below_drew1)⟩
      · rw [if_neg c3] at h
        obtain rfl := Option.some.inj h
        clear h
        have c3b : ((keys.length : Int) != (vals.length : Int)) = true := by rw [bne_iff_ne]; omega
        clear c1 c2 c3
        go_enter Try.func39, Try.ntmps39
        go_wp2
        go_loop [9, 19] (fun t i => t = .int .i64 (keys.length : Int) ∧ i = .int .i64 0) (fun _ _ => 0)
        case atStart => exact ⟨rfl, rfl⟩
        case round =>
          obtain ⟨rfl, rfl⟩ := hrel
          go_wp2
          go_loop [50] (fun i => i = .int .i64 0) (fun _ => 0)
          case atStart => rfl
          case round =>
            obtain rfl := hrel
            go_wp2
            go_ret
            exact ⟨rfl, by repeat (first | exact Below.refl _ _ | apply below_alloc | apply pw_below_drewN | apply below_drew1)⟩

end Go.Proofs.Yteflolamihhmdaa.Q

namespace Go.Proofs.Yteflolamihhmdaa.Q
open Go.RowKit Go.Proofs.YteflolamihhmdaaW.PrintWords Go.Proofs.YteflolamihhmdaaW.PrintLast Go.Proofs.YteflolamihhmdaaW.PrintMore
attribute [local go_sem] max2_int min2_int max_two min_two max_three min_three max_four min_four   -- for this text's walks alone
set_option linter.unusedVariables false
set_option linter.unusedSimpArgs false

/-! ### attn_plain_value: function 121 -/
def attn_plain_value.f (l0_0 : List (List Int)) (l0_1 : List (List Int)) (a1 : Int) (a2 : Int) : Option (Int) := if 0 ≤ a1 then (if a1 < (l0_1.length : Int) then (if 0 ≤ a2 then (if a2 < ((rd_L8 l0_1 a1).length : Int) then (some (rd (rd_L8 l0_1 a1) a2)) else (none)) else (none)) else (none)) else (none)
set_option maxHeartbeats 8000000 in
set_option maxRecDepth 100000 in
theorem attn_plain_value.calls (A0_0 : Option Addr) (c0_0 : Nat) (l0_0 : List (List Int)) (A0_1 : Option Addr) (c0_1 : Nat) (l0_1 : List (List Int)) (a1 : Int) (a2 : Int) (r : Int) (w : World) (hr0_0 : Kd.C (Kd.slice 21 (Kd.int .i32)) w A0_0 l0_0.length l0_0) (hc0_0 : l0_0.length ≤ c0_0) (hr0_1 : Kd.C (Kd.slice 21 (Kd.int .i32)) w A0_1 l0_1.length l0_1) (hc0_1 : l0_1.length ≤ c0_1) (h : attn_plain_value.f l0_0 l0_1 a1 a2 = some r) :
    Calls Try.prog 121 #[.agg #[.slice A0_0 l0_0.length c0_0, .slice A0_1 l0_1.length c0_1], .int .i64 a1, .int .i64 a2] w fun e w' => e = .returned (.int .i32 r) ∧ Below w.heap.size w w' := by
  have hu81 := Try.underlying81
  have HR0_0 := Aside0.mk hr0_0
  have HC0_0 := Aside0.mk hc0_0
  clear hr0_0 hc0_0
  have HR0_1 := Aside0.mk hr0_1
  have HC0_1 := Aside0.mk hc0_1
  clear hr0_1 hc0_1
  have HB := Aside0.mk (Below.refl w.heap.size w)
  have H : (if 0 ≤ a1 then (if a1 < (l0_1.length : Int) then (if 0 ≤ a2 then (if a2 < ((rd_L8 l0_1 a1).length : Int) then (some (rd (rd_L8 l0_1 a1) a2)) else (none)) else (none)) else (none)) else (none)) = some r := h
  clear h
  by_cases c4 : 0 ≤ a1
  · rw [if_pos c4] at H
    have c4b0 : decide (0 ≤ a1) = true := decide_eq_true c4
    clear c4
    by_cases c5 : a1 < (l0_1.length : Int)
    · rw [if_pos c5] at H
      have c5b0 : decide (a1 < (l0_1.length : Int)) = true := decide_eq_true c5
      clear c5
      by_cases c6 : 0 ≤ a2
      · rw [if_pos c6] at H
        have c6b0 : decide (0 ≤ a2) = true := decide_eq_true c6
        clear c6
        by_cases c7 : a2 < ((rd_L8 l0_1 a1).length : Int)
        · rw [if_pos c7] at H
          have c7b0 : decide (a2 < ((rd_L8 l0_1 a1).length : Int)) = true := decide_eq_true c7
          clear c7
          obtain rfl := Option.some.inj H
          go_enter Try.func121, Try.ntmps121
          go_wp2_with (first | ((with_reducible refine gate_dst (N := 3) rfl ?_); refine box_event ?hg (N := 3) ?hd (cs := #[.slice A0_0 l0_0.length c0_0, .slice A0_1 l0_1.length c0_1]) (t := 81) ?hr ?_; (case hd => rfl); (case hg => rfl); (case hr => first | (go_simp; done) | (go_simp; rfl)); intro gb408 hg w8 hbox hb; have n0_ := Aside0.mk (below_step (by repeat (first | (with_reducible first | exact HB.out | apply below_alloc | apply pw_below_drewN | apply below_drew1) | exact HB.out)) hb); have n1_ := Aside0.mk (hbox); have n2_ := Aside0.mk ((by rw [hg]; exact (below_size (by repeat (first | (with_reducible first | exact HB.out | apply below_alloc | apply pw_below_drewN | apply below_drew1) | exact HB.out))) : w.heap.size ≤ gb408)); have n3_ := Aside0.mk ((by rw [hg]; exact (below_size (by repeat (first | (with_reducible first | exact HB.out | apply below_alloc | apply pw_below_drewN | apply below_drew1) | exact HB.out))) : w.heap.size ≤ gb408)); clear HB; have HB := n0_; have BK408 := n1_; have GW408 := n2_; have GE408 := n3_; clear n0_ n1_ n2_ n3_; clear hb hbox hg; have hcz9_0 : w8.cell? ⟨gb408, 0, none⟩ = some (.slice A0_0 l0_0.length c0_0) := (blk_cell BK408.out 0).trans rfl; have hcz9_1 : w8.cell? ⟨gb408, 1, none⟩ = some (.slice A0_1 l0_1.length c0_1) := (blk_cell BK408.out 1).trans rfl; have hfz9_0 := blk_frozen BK408.out 0; have hfz9_1 := blk_frozen BK408.out 1; have p409 : 0 ≤ (a1 : Int) := of_decide_eq_true (by first | (with_reducible assumption) | assumption); have q409 : a1 < (l0_1.length : Int) := of_decide_eq_true (by first | (with_reducible assumption) | assumption); obtain ⟨ad409, A409_0, c409_0, e409, hx409_0, hl409_0, hi409_0⟩ := at_L8 HR0_1.out a1 p409 q409; cases e409; replace hx409_0 := (HB.out.cell (World.block_lt_of_cell? w _ hx409_0)).trans hx409_0; have HR409_0 := Aside0.mk hi409_0; have HC409_0 := Aside0.mk hl409_0; clear hi409_0 hl409_0; replace p409 := eq_true p409; replace q409 := eq_true q409; have p410 : 0 ≤ (a2 : Int) := of_decide_eq_true (by first | (with_reducible assumption) | assumption); have q410 : a2 < ((rd_L8 l0_1 a1).length : Int) := of_decide_eq_true (by first | (with_reducible assumption) | assumption); obtain ⟨ad410, e410, hx410_0⟩ := Kd.at_int HR409_0.out a2 p410 q410; cases e410; replace hx410_0 := (HB.out.cell (World.block_lt_of_cell? w _ hx410_0)).trans hx410_0; replace p410 := eq_true p410; replace q410 := eq_true q410))
          go_ret
          exact ⟨by first | rfl | (simp [errW_none, errW_some] <;> rfl) | (simp [*, errW_none, errW_some] <;> rfl), by repeat (first | (with_reducible first | exact HB.out | apply below_alloc | apply pw_below_drewN | apply below_drew1 | refine below_set ?_ GE408.out) | exact HB.out)⟩
        · rw [if_neg c7] at H
          exact absurd H (by simp)
      · rw [if_neg c6] at H
        exact absurd H (by simp)
    · rw [if_neg c5] at H
      exact absurd H (by simp)
  · rw [if_neg c4] at H
    exact absurd H (by simp)

end Go.Proofs.Yteflolamihhmdaa.Q

namespace Go.Proofs.Yteflolamihhmdaa.Q
open Go.RowKit Go.Proofs.YteflolamihhmdaaW.PrintWords Go.Proofs.YteflolamihhmdaaW.PrintLast Go.Proofs.YteflolamihhmdaaW.PrintMore
attribute [local go_sem] max2_int min2_int max_two min_two max_three min_three max_four min_four   -- for this text's walks alone
set_option linter.unusedVariables false
set_option linter.unusedSimpArgs false

/-! ### soft_Sum: function 68 -/
def soft_Sum.l0 : Nat → Int → List Int → Int → Int → Option (Int)
  | 0, _, _, _, _ => none
  | k + 1, x3, x6, x7, x8 => if x8 < x7 then (if 0 ≤ x8 then (if x8 < (x6.length : Int) then (soft_Sum.l0 k (wrap64 (x3 + (rd x6 x8))) x6 x7 (wrap64 (x8 + 1))) else (none)) else (none)) else (some x3)
def soft_Sum.f (k : Nat) (l0 : List Int) : Option (Int) := soft_Sum.l0 k 0 l0 (l0.length : Int) 0
theorem soft_Sum.mono_l : ∀ k, (∀ y0 y1 y2 y3, LeO (soft_Sum.l0 k y0 y1 y2 y3) (soft_Sum.l0 (k + 1) y0 y1 y2 y3))
  | 0 => fun _ _ _ _ r h => by simp [soft_Sum.l0] at h
  | k + 1 => by
    have ih0 := soft_Sum.mono_l k
    · intro y0 y1 y2 y3
      unfold soft_Sum.l0
      repeat' first
      | (with_reducible exact ih0 _ _ _ _)
      | (with_reducible exact LeO.refl _)
      | (with_reducible exact LeO.none _)
      | (with_reducible refine LeO.ite ?_ ?_)
      | (with_reducible refine LeO.bind ?_ (fun _ => ?_))
      | exact ih0 _ _ _ _
      | exact LeO.none _
      | refine LeO.ite ?_ ?_
      | refine LeO.bind ?_ (fun _ => ?_)
theorem soft_Sum.mono : ∀ a0 k, LeO (soft_Sum.f k a0) (soft_Sum.f (k + 1) a0) := by
  intro a0 k
  have ih0 := soft_Sum.mono_l k
  unfold soft_Sum.f
  repeat' first
      | (with_reducible exact ih0 _ _ _ _)
      | (with_reducible exact LeO.refl _)
      | (with_reducible exact LeO.none _)
      | (with_reducible refine LeO.ite ?_ ?_)
      | (with_reducible refine LeO.bind ?_ (fun _ => ?_))
      | exact ih0 _ _ _ _
      | exact LeO.none _
      | refine LeO.ite ?_ ?_
      | refine LeO.bind ?_ (fun _ => ?_)
set_option maxHeartbeats 8000000 in
set_option maxRecDepth 100000 in
theorem soft_Sum.calls (k : Nat) (A0 : Option Addr) (c0 : Nat) (l0 : List Int) (r : Int) (w : World) (hr0 : Kd.C (Kd.int .i64) w A0 l0.length l0) (hc0 : l0.length ≤ c0) (h : soft_Sum.f k l0 = some r) :
    Calls Try.prog 68 #[.slice A0 l0.length c0] w fun e w' => e = .returned (.int .i64 r) ∧ Drawn0 w w' := by
  have HR0 := Aside0.mk hr0
  have HC0 := Aside0.mk hc0
  clear hr0 hc0
  have H : (soft_Sum.l0 k 0 l0 (l0.length : Int) 0) = some r := h
  clear h
  have H' := Aside0.mk H
  clear H
  go_enter Try.func68, Try.ntmps68
  go_wp2
  go_loopg [3, 8] k (fun kq v3 v8 w' => ∃ (x3_1 : Int) (x8_1 : Int), v3 = .int .i64 x3_1 ∧ v8 = .int .i64 x8_1 ∧ Aside0 (soft_Sum.l0 kq x3_1 l0 (l0.length : Int) x8_1 = some r) ∧ Aside0 (kq ≤ k) ∧ Drawn0 w w')
  case atStart => exact ⟨(0), (0), (by first | rfl | (simp; done) | (simp [*]; done)), (by first | rfl | (simp; done) | (simp [*]; done)), H', ⟨Nat.le_refl _⟩, by repeat (first | exact Drawn0.refl _ | apply Drawn0.step)⟩
  case round =>
    clear H'
    obtain ⟨x3_1, x8_1, rfl, rfl, HA, HK1, ⟨m1, rfl⟩⟩ := hrel
    cases gk with
    | zero => exact absurd HA.out (by simp [soft_Sum.l0])
    | succ k1 =>
      have H := HA.out
      clear HA
      simp only [soft_Sum.l0] at H
      by_cases c2 : x8_1 < (l0.length : Int)
      · rw [if_pos c2] at H
        have c2b0 : decide (x8_1 < (l0.length : Int)) = true := decide_eq_true c2
        clear c2
        by_cases c3 : 0 ≤ x8_1
        · rw [if_pos c3] at H
          have c3b0 : decide (0 ≤ x8_1) = true := decide_eq_true c3
          clear c3
          by_cases c4 : x8_1 < (l0.length : Int)
          · rw [if_pos c4] at H
            have c4b0 : decide (x8_1 < (l0.length : Int)) = true := decide_eq_true c4
            clear c4
            have H' := Aside0.mk H
            clear H
            have p152 : 0 ≤ (x8_1 : Int) := of_decide_eq_true (by first | (with_reducible assumption) | assumption)
            have q152 : x8_1 < (l0.length : Int) := of_decide_eq_true (by first | (with_reducible assumption) | assumption)
            obtain ⟨ad152, e152, hx152_0⟩ := Kd.at_int HR0.out x8_1 p152 q152
            cases e152
            replace p152 := eq_true p152
            replace q152 := eq_true q152
            go_wp2
            go_roundg k1
            case measure => have := HK1.out; omega
            case rel => exact ⟨(wrap64 (x3_1 + (rd l0 x8_1))), (wrap64 (x8_1 + 1)), (by first | rfl | (simp; done) | (simp [*]; done)), (by first | rfl | (simp; done) | (simp [*]; done)), H', ⟨by have := HK1.out; omega⟩, by repeat (first | exact Drawn0.refl _ | apply Drawn0.step)⟩
          · rw [if_neg c4] at H
            exact absurd H (by simp)
        · rw [if_neg c3] at H
          exact absurd H (by simp)
      · rw [if_neg c2] at H
        have c2b0 : decide (x8_1 < (l0.length : Int)) = false := decide_eq_false c2
        clear c2
        obtain rfl := Option.some.inj H
        go_wp2
        go_ret
        exact ⟨by first | rfl | (simp; done) | (simp [*]; done), by repeat (first | exact Drawn0.refl _ | apply Drawn0.step)⟩

end Go.Proofs.Yteflolamihhmdaa.Q

namespace Go.Proofs.Yteflolamihhmdaa.Q
open Go.RowKit Go.Proofs.YteflolamihhmdaaW.PrintWords Go.Proofs.YteflolamihhmdaaW.PrintLast Go.Proofs.YteflolamihhmdaaW.PrintMore
attribute [local go_sem] max2_int min2_int max_two min_two max_three min_three max_four min_four   -- for this text's walks alone
set_option linter.unusedVariables false
set_option linter.unusedSimpArgs false

/-! ### attn_gather: function 42 -/
attribute [local go_sem ↓] Go.wp_at_zero Go.wp_at_succ
theorem attn_gather.info64 : (Try.prog.info? 2).map (fun i => (i.zero, i.size, i.bytes)) = some (some (.int .i64 0), 1, 8) := by kernel_rfl
/-- a token's values, so much each, put to the sums from place p on, d places -/
def attn_gadd.l (wt : Int) (v : List Int) : Nat → Nat → List Int → Option (List Int)
  | 0, _, sums => some sums
  | d + 1, p, sums => if p < v.length then ((attn_narrow.f (rd v (p : Int))).bind fun t => attn_gadd.l wt v d (p + 1) (sums.set p (wrap64 (rd sums (p : Int) + wrap64 (wt * t))))) else none
/-- all tokens' values, by their weights from number a on -/
def attn_gsum.l (ws : List Int) : List (List Int) → Nat → List Int → Option (List Int)
  | [], _, sums => some sums
  | v :: vs, a, sums => if a < ws.length then ((attn_gadd.l (rd ws (a : Int)) v sums.length 0 sums).bind fun s => attn_gsum.l ws vs (a + 1) s) else none
/-- each sum by the weights' sum -/
def attn_gout.l (k : Nat) (ws : List Int) : List Int → Nat → List Int → Option (List Int)
  | [], _, out => some out
  | x :: xs, p, out => (soft_Sum.f k ws).bind fun s => (fix_Ratio.f x s).bind fun y => (fix_Narrow.f y).bind fun z => attn_gout.l k ws xs (p + 1) (out.set p z)
def attn_gather.l (k : Nat) (ws : List Int) (vals : List (List Int)) (wide : Nat) : Option (List Int) :=
  (attn_gsum.l ws vals 0 (List.replicate wide 0)).bind fun sums => attn_gout.l k ws sums 0 (List.replicate wide 0)
theorem attn_gadd.len {wt : Int} {v : List Int} : ∀ {d p : Nat} {sums r : List Int}, attn_gadd.l wt v d p sums = some r → r.length = sums.length
  | 0, p, sums, r, h => by simp only [attn_gadd.l] at h; rw [← Option.some.inj h]
  | d + 1, p, sums, r, h => by
    simp only [attn_gadd.l] at h
    split at h
    · obtain ⟨t, _, h⟩ := Option.bind_eq_some_iff.1 h
      rw [attn_gadd.len h, List.length_set]
    · exact absurd h (by simp)
theorem attn_gsum.len {ws : List Int} : ∀ {vs : List (List Int)} {a : Nat} {sums r : List Int}, attn_gsum.l ws vs a sums = some r → r.length = sums.length
  | [], a, sums, r, h => by simp only [attn_gsum.l] at h; rw [← Option.some.inj h]
  | v :: vs, a, sums, r, h => by
    simp only [attn_gsum.l] at h
    split at h
    · obtain ⟨t, ht, h⟩ := Option.bind_eq_some_iff.1 h
      rw [attn_gsum.len h, attn_gadd.len ht]
    · exact absurd h (by simp)
theorem attn_plain_value.at_ {l0 l1 : List (List Int)} {t p : Nat} (h1 : t < l1.length) (h2 : p < (l1.getD t []).length) : attn_plain_value.f l0 l1 (t : Int) (p : Int) = some (rd (l1.getD t []) (p : Int)) := by
  unfold attn_plain_value.f
  rw [if_pos (by omega), if_pos (by omega), if_pos (by omega), if_pos (by simpa [rd_L8] using h2)]
  simp [rd_L8]
theorem attn_keep_row {α : Type} {d : Kd α} {e t : Nat} {w w1 : World} {base g : Nat} {v : Value} {xs : List α} {cs : Array Value} (h : d.R e w base (fun _ => True) v xs) (hb : w.heap[g]? = some (.cells cs t (0, 0))) (ht : ∀ q, q ∈ e :: d.E → q ≠ t) (hg : w.grownBy w1 (some g)) : d.R e w1 base (fun _ => True) v xs :=
  Kd.R_mono (Kd.R_grown (Kd.R_types h hb ht) hg (fun k hk e => hk.2 (Option.some.inj e))) (fun _ _ => trivial)

set_option maxRecDepth 100000 in
set_option maxHeartbeats 8000000 in
theorem attn_gather.calls (k : Nat) (Aw : Option Addr) (cw : Nat) (ws : List Int) (A : Option Addr) (c : Nat) (ss : List attn_Src) (wide : Nat) (r : List Int) (w : World)
    (hw : Kd.C (Kd.int .i64) w Aw ws.length ws) (hcw : ws.length ≤ cw) (hs : attn_Srcs w A ss) (hsame : ∀ s ∈ ss, s.keys.length = s.vals.length) (hn1 : ss.length ≤ 1000000) (hw1 : 1 ≤ wide) (hw2 : wide ≤ 1000000)
    (h : attn_gather.l k ws (attn_vals ss) wide = some r) :
    Calls Try.prog 42 #[.slice Aw ws.length cw, .slice A ss.length c, .int .i64 wide] w fun e w' => ∃ v0_ : Value, e = .returned (v0_) ∧ Kd.R (Kd.int .i32) 21 w' w.heap.size (fun _ => True) v0_ r ∧ Below w.heap.size w w' := by
  obtain ⟨sm, hsm, hout⟩ := Option.bind_eq_some_iff.1 h
  have hsl : sm.length = wide := by rw [attn_gsum.len hsm, List.length_replicate]
  have HSL := Aside0.mk hsl
  have hn2 : ws.length ≤ 9223372036854775807 := hw.2.1
  have HWS := Aside0.mk hw
  have HCW := Aside0.mk hcw
  have HS := Aside0.mk hs
  have HSAME := Aside0.mk hsame
  have HSM := Aside0.mk hsm
  have HOUT := Aside0.mk hout
  clear hw hs hsm hout h hsl hsame hcw
  go_enter Try.func42, Try.ntmps42
  go_wp2_with ((with_reducible refine gate_dst (N := 17) rfl ?_); refine Kd.R_make (Kd.int .i64) w.heap.size 2 rfl (N := 17) rfl 113 _ _ rfl (wide : Int) rfl rfl Try.underlying113 (.int .i64 0) 8 attn_gather.info64 rfl (by decide) (by omega) 0 (ok := fun _ => True) (okp := fun _ => True) rfl (fun _ hk => hk) trivial (by omega) (by omega) (Below.refl _ _) (Nat.le_refl _) ?_; intro v7 w4 ho5 hb hg_ hnew_; clear hg_ hnew_; rw [Int.toNat_natCast] at ho5)
  have hform := Kd.R_form ho5 (by rw [List.length_replicate]; omega)
  rw [List.length_replicate] at hform
  obtain ⟨g7, c7, rfl, hg7, -, -⟩ := hform
  have HO5 := Aside0.mk ho5
  have HB4 := Aside0.mk hb
  clear ho5 hb
  go_loopw [8, 20] (fun v i wr => ∃ (j a : Nat) (sums : List Int), j ≤ ss.length ∧ i = .int .i64 j ∧ v = .int .i64 a ∧ sums.length = wide ∧ Aside0 (attn_gsum.l ws (attn_vals (ss.drop j)) a sums = some sm) ∧ Aside0 (Kd.R (Kd.int .i64) 2 wr w.heap.size (fun _ => True) (.slice (some ⟨g7, 0, none⟩) wide c7) sums) ∧ Aside0 (Below w.heap.size w wr)) (fun _ i _ => ss.length - (intOf i).toNat)
  case atStart => exact ⟨0, 0, _, Nat.zero_le _, rfl, rfl, List.length_replicate, HSM, HO5, HB4⟩
  case round =>
    clear HSM HO5 HB4
    obtain ⟨j, a, sums, hj, rfl, rfl, hsl, HA, HO, HB⟩ := hrel
    by_cases hlt : j < ss.length
    · obtain ⟨ad, v, rfl, hc, hv⟩ := HS.out.at_ j hlt
      have hst := attn_vals_step hlt
      have hsm2 := HSAME.out (ss.getD j ⟨[], []⟩) (by rw [List.getD_eq_getElem?_getD, List.getElem?_eq_getElem hlt]; exact List.getElem_mem hlt)
      generalize ss.getD j ⟨[], []⟩ = s at hv hst hsm2
      have HA2 := HA.out
      rw [hst] at HA2
      have HA3 := Aside0.mk HA2
      clear HA2 hst HA
      replace hc := pw_cell_below HB.out hc
      obtain ⟨Ak, ck, Av, cv, rfl, hck, hcv, hk, hvv⟩ := hv
      have HK := Aside0.mk hk
      have HV := Aside0.mk hvv
      have HKV := Aside0.mk hsm2
      clear hk hvv hsm2
      obtain ⟨wo, rfl⟩ : ∃ wo : World, wo = wr := ⟨_, rfl⟩
      have N1 := attn_plain.nil_count
      have M1 := attn_plain.m_count
      go_wp2_with (go_at_call 119; (with_reducible refine (attn_plain_count.calls Ak ck s.keys Av cv s.vals (s.keys.length : Int) _ (Kd.C_below HK.out HB.out) hck (Kd.C_below HV.out HB.out) hcv rfl).mono ?_); rintro e w1 ⟨rfl, hb1⟩)
      have hkl : s.keys.length ≤ 9223372036854775807 := HK.out.2.1
      clear N1 M1
      have N1 := attn_plain.nil_value
      have M1 := attn_plain.m_value
      have hb0 := HB.out.trans (hb1.mono HB.out.size)
      have HB1 := Aside0.mk hb0
      have HO1 := Aside0.mk (Kd.R_below HO.out hb1)
      clear hb1 hb0 HO hc HB
      go_loopw [8, 26] (fun v i wr => ∃ (t a : Nat) (sums : List Int), t ≤ s.keys.length ∧ i = .int .i64 t ∧ v = .int .i64 a ∧ sums.length = wide ∧ Aside0 (attn_gsum.l ws (s.vals.drop t ++ attn_vals (ss.drop (j + 1))) a sums = some sm) ∧ Aside0 (Kd.R (Kd.int .i64) 2 wr w.heap.size (fun _ => True) (.slice (some ⟨g7, 0, none⟩) wide c7) sums) ∧ Aside0 (Below w.heap.size w wr)) (fun _ i _ => s.keys.length - (intOf i).toNat)
      case atStart => exact ⟨0, a, sums, Nat.zero_le _, rfl, rfl, hsl, HA3, HO1, HB1⟩
      case round =>
        clear HA3 HO1 HB1 hsl
        obtain ⟨t, a, sums, ht, rfl, rfl, hsl, HA, HO, HB⟩ := hrel
        by_cases htl : t < s.keys.length
        · have htv : t < s.vals.length := by have := HKV.out; omega
          have HA2 := HA.out
          rw [attn_drop_row htv, List.cons_append] at HA2
          simp only [attn_gsum.l] at HA2
          by_cases haw : a < ws.length
          · rw [if_pos haw, hsl] at HA2
            obtain ⟨s2, hs2, HA2⟩ := Option.bind_eq_some_iff.1 HA2
            have HS2 := Aside0.mk hs2
            have hs2l : s2.length = wide := by rw [attn_gadd.len hs2]; exact hsl
            have HA4 := Aside0.mk HA2
            clear HA hs2 HA2
            have HVAL := Aside0.mk (fun p => attn_plain_value.at_ (l0 := s.keys) (p := p) htv)
            generalize s.vals.getD t [] = val at HS2 HVAL
            obtain ⟨wo, rfl⟩ : ∃ wo : World, wo = wr := ⟨_, rfl⟩
            obtain ⟨adw, rfl, hcw0⟩ := Kd.at_int HWS.out (a : Int) (by omega) (by omega)
            simp only [Int.toNat_natCast] at hcw0
            generalize rd ws (a : Int) = wt at HS2 hcw0
            have HCWC := Aside0.mk hcw0
            clear hcw0
            go_wp2
            go_loopw [31] (fun i wr => ∃ (p : Nat) (sums : List Int), p ≤ wide ∧ i = .int .i64 p ∧ sums.length = wide ∧ Aside0 (attn_gadd.l wt val (wide - p) p sums = some s2) ∧ Aside0 (Kd.R (Kd.int .i64) 2 wr w.heap.size (fun _ => True) (.slice (some ⟨g7, 0, none⟩) wide c7) sums) ∧ Aside0 (Below w.heap.size w wr)) (fun i _ => wide - (intOf i).toNat)
            case atStart => exact ⟨0, sums, Nat.zero_le _, rfl, hsl, HS2, HO, HB⟩
            case round =>
              clear HS2 HO HB hsl
              obtain ⟨p, sums, hp, rfl, hsl, HG, HO, HB⟩ := hrel
              by_cases hpl : p < wide
              · have HG2 := HG.out
                rw [show wide - p = (wide - (p + 1)) + 1 by omega] at HG2
                simp only [attn_gadd.l] at HG2
                by_cases hpv : p < val.length
                · rw [if_pos hpv] at HG2
                  obtain ⟨tt, htt, HG2⟩ := Option.bind_eq_some_iff.1 HG2
                  have HTT := Aside0.mk htt
                  have HG4 := Aside0.mk HG2
                  have HV2 := Aside0.mk (HVAL.out p hpv)
                  clear HG2 htt HG hpv
                  obtain ⟨hcs, hfs⟩ := Kd.R_celln 0 HO.out (p : Int) (by omega) (by omega)
                  simp only [Int.toNat_natCast] at hcs hfs
                  have hput := fun W (hb : Below wr.heap.size wr W) (x : Int) => Kd.R_putg (Kd.R_below HO.out hb) (p : Int) x
                  simp only [Int.toNat_natCast] at hput
                  have HPUT := Aside0.mk hput
                  clear hput
                  have hcw1 := pw_cell_below HB.out HCWC.out
                  change wr.cell? ⟨g7, p, none⟩ = some (.int .i64 (rd sums (p : Int))) at hcs
                  generalize hz0 : rd sums (p : Int) = z0 at hcs HG4
                  clear hz0
                  go_wp2_with fail
                  go_region_with (first
                    | (go_at_call 121; (with_reducible refine (attn_plain_value.calls Ak ck s.keys Av cv s.vals (t : Int) (p : Int) _ _ (by first | exact Kd.C_below HK.out HB.out | exact Kd.C_below HK.out (below_drew HB.out) | exact Kd.C_below HK.out (pw_below_drewN HB.out _)) hck (by first | exact Kd.C_below HV.out HB.out | exact Kd.C_below HV.out (below_drew HB.out) | exact Kd.C_below HV.out (pw_below_drewN HB.out _)) hcv HV2.out).mono ?_); rintro e w2 ⟨rfl, hb2'⟩; have hb2 : Below wr.heap.size wr w2 := ⟨hb2'.os, hb2'.tape, hb2'.output, hb2'.size, hb2'.block⟩; have hcs2 := pw_cell_below hb2 hcs; have hcw2 := pw_cell_below hb2 hcw1; have hfs2 := (hb2.frozen (p := ⟨g7, p, none⟩) (World.block_lt_of_cell? wr _ hcs)).trans hfs; clear hb2')
                    | (go_at_call 45; (with_reducible refine (attn_narrow.calls (rd val (p : Int)) tt _ HTT.out).mono ?_); rintro e w3 ⟨rfl, hb3'⟩; have hb3 : Below w2.heap.size w2 w3 := ⟨hb3'.os, hb3'.tape, hb3'.output, hb3'.size, hb3'.block⟩; have hcs3 := pw_cell_below hb3 hcs2; have hcw3 := pw_cell_below hb3 hcw2; have hfs3 := (hb3.frozen (p := ⟨g7, p, none⟩) (World.block_lt_of_cell? w2 _ hcs2)).trans hfs2; clear hb3'))
                  all_goals go_wp2_with fail
                  all_goals (have hbb := hb2.trans (hb3.mono hb2.size))
                  all_goals exact ⟨⟨p + 1, sums.set p (wrap64 (z0 + wrap64 (wt * tt))), by omega, by go_num, by rw [List.length_set]; exact hsl, HG4, ⟨(HPUT.out w3 hbb _).1⟩, ⟨below_set (HB.out.trans (hbb.mono HB.out.size)) hg7⟩⟩, by simp [intOf]; omega⟩
                · rw [if_neg hpv] at HG2
                  exact absurd HG2 (by simp)
              · obtain rfl : p = wide := by omega
                have HG2 := HG.out
                rw [Nat.sub_self] at HG2
                obtain rfl := Option.some.inj HG2
                clear HG2 HG
                go_wp2
                go_roundw
                case rel => exact ⟨t + 1, a + 1, sums, by omega, by go_num, by go_num, hsl, HA4, HO, HB⟩
                case measure => simp [intOf]; omega
          · rw [if_neg haw] at HA2
            exact absurd HA2 (by simp)
        · obtain rfl : t = s.keys.length := by omega
          have HA2 := HA.out
          rw [List.drop_eq_nil_of_le (by have := HKV.out; omega), List.nil_append] at HA2
          have HA4 := Aside0.mk HA2
          clear HA2 HA
          go_wp2
          go_roundw
          case rel => exact ⟨j + 1, a, sums, by omega, by go_num, rfl, hsl, HA4, HO, HB⟩
          case measure => simp [intOf]; omega
    · obtain rfl : j = ss.length := by omega
      have HA2 := HA.out
      rw [List.drop_length] at HA2
      obtain rfl := Option.some.inj HA2
      clear HA2 HA
      go_wp2_with ((with_reducible refine gate_dst (N := 56) rfl ?_); refine Kd.R_make (Kd.int .i32) w.heap.size 21 rfl (N := 56) rfl 22 _ _ rfl (wide : Int) rfl rfl Try.underlying22 (.int .i32 0) 4 info21 rfl (by decide) (by omega) 0 (ok := fun _ => True) (okp := fun _ => True) rfl (fun _ hk => hk) trivial (by omega) (by omega) HB.out HB.out.size ?_; intro v13 w5 ho6 hb6 hg6 hnew6; rw [Int.toNat_natCast] at ho6)
      have hform := Kd.R_form ho6 (by rw [List.length_replicate]; omega)
      rw [List.length_replicate] at hform
      obtain ⟨g13, c13, rfl, hg13, -, -⟩ := hform
      have HO6 := Aside0.mk ho6
      have HB6 := Aside0.mk hb6
      have HO7 := Aside0.mk (Kd.R_grown HO.out hg6 (fun _ _ => by simp))
      clear ho6 hb6 hg6 HO HB hnew6
      go_loopw [59] (fun i wr => ∃ (p : Nat) (out : List Int), p ≤ wide ∧ i = .int .i64 p ∧ out.length = wide ∧ Aside0 (attn_gout.l k ws (sums.drop p) p out = some r) ∧ Aside0 (Kd.R (Kd.int .i64) 2 wr w.heap.size (fun _ => True) (.slice (some ⟨g7, 0, none⟩) wide c7) sums) ∧ Aside0 (Kd.R (Kd.int .i32) 21 wr w.heap.size (fun _ => True) (.slice (some ⟨g13, 0, none⟩) wide c13) out) ∧ Aside0 (Below w.heap.size w wr)) (fun i _ => wide - (intOf i).toNat)
      case atStart => exact ⟨0, _, Nat.zero_le _, rfl, List.length_replicate, HOUT, HO7, HO6, HB6⟩
      case round =>
        clear HOUT HO7 HO6 HB6
        obtain ⟨p, out, hp, rfl, hol, HG, HO, HOO, HB⟩ := hrel
        by_cases hpl : p < wide
        · have HG2 := HG.out
          rw [attn_drop_num (by omega)] at HG2
          simp only [attn_gout.l] at HG2
          obtain ⟨s, hs, HG2⟩ := Option.bind_eq_some_iff.1 HG2
          obtain ⟨y, hy, HG2⟩ := Option.bind_eq_some_iff.1 HG2
          obtain ⟨z, hz, HG2⟩ := Option.bind_eq_some_iff.1 HG2
          have H1 := Aside0.mk hs
          have H2 := Aside0.mk hy
          have H3 := Aside0.mk hz
          have H4 := Aside0.mk HG2
          clear hs hy hz HG2 HG
          obtain ⟨hcs, hfs⟩ := Kd.R_celln 0 HO.out (p : Int) (by omega) (by omega)
          obtain ⟨hco, hfo⟩ := Kd.R_celln 0 HOO.out (p : Int) (by omega) (by omega)
          simp only [Int.toNat_natCast] at hcs hfs hco hfo
          change wr.cell? ⟨g7, p, none⟩ = some (.int .i64 (rd sums (p : Int))) at hcs
          have hput := fun W (hb : Below wr.heap.size wr W) (x : Int) => Kd.R_putg (Kd.R_below HOO.out hb) (p : Int) x
          simp only [Int.toNat_natCast] at hput
          have HPUT := Aside0.mk hput
          have hown := fun W (hb : Below wr.heap.size wr W) => Kd.R_form (Kd.R_below HOO.out hb) (by omega)
          have HOWN := Aside0.mk hown
          clear hput hown
          go_wp2_with (first
            | (go_at_call 68; (with_reducible refine (soft_Sum.calls k (Aw) cw ws s _ (by first | exact Kd.C_below HWS.out HB.out | exact Kd.C_below HWS.out (below_drew HB.out) | exact Kd.C_below HWS.out (pw_below_drewN HB.out _)) HCW.out H1.out).mono ?_); rintro e w2 ⟨rfl, ⟨nd, rfl⟩⟩)
            | (go_at_call 67; (with_reducible refine (fix_Ratio.calls _ _ y _ H2.out).mono ?_); rintro e w2 ⟨rfl, ⟨nd2, rfl⟩⟩)
            | (go_at_call 66; (with_reducible refine (fix_Narrow.calls y z _ H3.out).mono ?_); rintro e w3 ⟨rfl, hb3'⟩; have hb3 : Below wr.heap.size wr w3 := ⟨hb3'.os, hb3'.tape, hb3'.output, hb3'.size, hb3'.block⟩; have hco3 := pw_cell_below hb3 hco; have hfo3 := (hb3.frozen (p := ⟨g13, p, none⟩) (World.block_lt_of_cell? wr _ hco)).trans hfo; clear hb3'))
          go_roundw
          case rel =>
            refine ⟨p + 1, out.set p z, by omega, by go_num, by rw [List.length_set]; exact hol, H4, ⟨?_⟩, ⟨(HPUT.out w3 hb3 z).1⟩, ⟨below_set (HB.out.trans (hb3.mono HB.out.size)) hg13⟩⟩
            obtain ⟨g', cap', e', -, -, cells, hcells⟩ := HOWN.out w3 hb3
            obtain ⟨rfl⟩ : g13 = g' := by injection e' with e1; injection e1 with e1; injection e1
            exact attn_keep_row (Kd.R_below HO.out hb3) hcells (by intro q hq; simp [Kd.int, Kd.scalar] at hq; omega) (HPUT.out w3 hb3 z).2
          case measure => simp [intOf]; omega
        · obtain rfl : p = wide := by omega
          have HG2 := HG.out
          rw [List.drop_eq_nil_of_le (by omega)] at HG2
          obtain rfl := Option.some.inj HG2
          clear HG2 HG
          go_wp2
          go_ret
          exact ⟨_, rfl, by (with_reducible repeat (first | apply Kd.R_alloc | apply Kd.R_drewN | apply Kd.R_drew)); exact HOO.out, by repeat (first | (with_reducible first | exact HB.out | apply below_alloc | apply pw_below_drewN | apply below_drew1) | exact HB.out)⟩

theorem attn_gather.one (k : Nat) (Aw : Option Addr) (cw : Nat) (ws : List Int) (A : Option Addr) (c : Nat) (s : attn_Src) (wide : Nat) (r : List Int) (w : World)
    (hw : Kd.C (Kd.int .i64) w Aw ws.length ws) (hcw : ws.length ≤ cw) (hs : attn_Srcs w A [s]) (hsame : s.keys.length = s.vals.length) (hw1 : 1 ≤ wide) (hw2 : wide ≤ 1000000)
    (h : attn_gather.l k ws s.vals wide = some r) :
    Calls Try.prog 42 #[.slice Aw ws.length cw, .slice A 1 c, .int .i64 wide] w fun e w' => ∃ v0_ : Value, e = .returned (v0_) ∧ Kd.R (Kd.int .i32) 21 w' w.heap.size (fun _ => True) v0_ r ∧ Below w.heap.size w w' :=
  attn_gather.calls k Aw cw ws A c [s] wide r w hw hcw hs (by simpa using hsame) (by simp) hw1 hw2 (by simpa [attn_vals] using h)

end Go.Proofs.Yteflolamihhmdaa.Q

namespace Go.Proofs.Yteflolamihhmdaa.Q
open Go.RowKit Go.Proofs.YteflolamihhmdaaW.PrintWords Go.Proofs.YteflolamihhmdaaW.PrintLast Go.Proofs.YteflolamihhmdaaW.PrintMore
attribute [local go_sem] max2_int min2_int max_two min_two max_three min_three max_four min_four   -- for this text's walks alone
set_option linter.unusedVariables false
set_option linter.unusedSimpArgs false

/-! ### attn_Fused: function 22 -/
theorem attn_Fused.infoSrc : (Try.prog.info? 110).map (fun i => (i.zero, i.size, i.bytes)) = some (some .nilIface, 1, 16) := by kernel_rfl
theorem attn_right.zero {k : Nat} {q : List Int} {keys vals : List (List Int)} (h : attn_right.f k q keys vals = some 0) : 1 ≤ keys.length ∧ keys.length ≤ 1024 ∧ keys.length = vals.length ∧ 1 ≤ q.length ∧ q.length ≤ 16 := by
  unfold attn_right.f at h
  by_cases c1 : keys.length = 0
  · rw [if_pos c1] at h
    exact absurd h (by simp)
  rw [if_neg c1] at h
  by_cases c2 : 1024 < keys.length
  · rw [if_pos c2] at h
    exact absurd h (by simp)
  rw [if_neg c2] at h
  by_cases c3 : keys.length = vals.length
  · rw [if_pos c3] at h
    obtain ⟨b, hb, h⟩ := Option.bind_eq_some_iff.1 h
    cases b with
    | false => exact absurd h (by simp)
    | true =>
      rw [if_pos rfl] at h
      by_cases c4 : q.length = (keys.getD 0 []).length
      · unfold attn_sized.f at hb
        rw [← c4] at hb
        by_cases c5 : (q.length : Int) ≥ 1
        · rw [if_pos c5] at hb
          have := Option.some.inj hb
          simp at this
          exact ⟨by omega, by omega, c3, by omega, by omega⟩
        · rw [if_neg c5] at hb
          exact absurd hb (by simp)
      · rw [if_neg c4] at h
        exact absurd h (by simp)
  · rw [if_neg c3] at h
    exact absurd h (by simp)
/-- what a query gathers of lists, or an error's number -/
def attn_Fused.f (k : Nat) (q : List Int) (keys vals : List (List Int)) : Option (List Int × Int) :=
  (attn_right.f k q keys vals).bind fun e => if e = 0 then
    (attn_cut.f k q).bind fun q2 => (attn_scores.l k q2 keys []).bind fun sc => (soft_Weights.f k sc).bind fun we => if we.2 = 0 then
      (attn_gather.l k we.1 vals q.length).bind fun r => some (r, 0) else some ([], we.2)
  else some ([], e)
theorem attn_right.mono (q : List Int) (keys vals : List (List Int)) (k : Nat) : LeO (attn_right.f k q keys vals) (attn_right.f (k + 1) q keys vals) := by
  unfold attn_right.f
  repeat' first
      | (with_reducible exact attn_shaped.mono _ _ _)
      | (with_reducible exact LeO.refl _)
      | (with_reducible refine LeO.ite ?_ ?_)
      | (with_reducible refine LeO.bind ?_ (fun _ => ?_))
theorem attn_scores.mono_l (q : List Int) (k : Nat) : ∀ (ks : List (List Int)) (out : List Int), LeO (attn_scores.l k q ks out) (attn_scores.l (k + 1) q ks out)
  | [], out => LeO.refl _
  | key :: ks, out => by
    simp only [attn_scores.l]
    exact LeO.bind (LeO.refl _) (fun _ => LeO.bind (attn_scaled.mono _ _ _) (fun _ => attn_scores.mono_l q k ks _))
theorem attn_gout.mono_l (ws : List Int) (k : Nat) : ∀ (xs : List Int) (p : Nat) (out : List Int), LeO (attn_gout.l k ws xs p out) (attn_gout.l (k + 1) ws xs p out)
  | [], p, out => LeO.refl _
  | x :: xs, p, out => by
    simp only [attn_gout.l]
    exact LeO.bind (soft_Sum.mono _ _) (fun _ => LeO.bind (LeO.refl _) (fun _ => LeO.bind (LeO.refl _) (fun _ => attn_gout.mono_l ws k xs _ _)))
theorem attn_Fused.mono (q : List Int) (keys vals : List (List Int)) (k : Nat) : LeO (attn_Fused.f k q keys vals) (attn_Fused.f (k + 1) q keys vals) := by
  unfold attn_Fused.f
  refine LeO.bind (attn_right.mono _ _ _ _) (fun _ => LeO.ite ?_ (LeO.refl _))
  refine LeO.bind (attn_cut.mono _ _) (fun _ => LeO.bind (attn_scores.mono_l _ _ _ _) (fun _ => LeO.bind (soft_Weights.mono _ _) (fun _ => LeO.ite ?_ (LeO.refl _))))
  exact LeO.bind (LeO.bind (LeO.refl _) (fun _ => attn_gout.mono_l _ _ _ _ _)) (fun _ => LeO.refl _)
set_option maxRecDepth 100000 in
set_option maxHeartbeats 8000000 in
theorem attn_Fused.calls (k : Nat) (Aq : Option Addr) (cq : Nat) (q : List Int) (Ak : Option Addr) (ck : Nat) (keys : List (List Int)) (Av : Option Addr) (cv : Nat) (vals : List (List Int)) (r1 : List Int) (r2 : Int) (w : World)
    (hq : Kd.C (Kd.int .i32) w Aq q.length q) (hcq : q.length ≤ cq) (hk : Kd.C (Kd.slice 21 (Kd.int .i32)) w Ak keys.length keys) (hck : keys.length ≤ ck) (hv : Kd.C (Kd.slice 21 (Kd.int .i32)) w Av vals.length vals) (hcv : vals.length ≤ cv)
    (h : attn_Fused.f k q keys vals = some (r1, r2)) :
    Calls Try.prog 22 #[.slice Aq q.length cq, .slice none 0 0, .slice Ak keys.length ck, .slice Av vals.length cv] w fun e w' => ∃ v0_ : Value, e = .returned (.tuple #[v0_, .int .i64 r2]) ∧ Kd.R (Kd.int .i32) 21 w' w.heap.size (fun _ => True) v0_ r1 ∧ Below w.heap.size w w' := by
  obtain ⟨e, he, h⟩ := Option.bind_eq_some_iff.1 h
  have HQ := Aside0.mk hq
  have HCQ := Aside0.mk hcq
  have HK := Aside0.mk hk
  have HV := Aside0.mk hv
  have HCK := Aside0.mk hck
  have HCV := Aside0.mk hcv
  have HE := Aside0.mk he
  clear hq hcq hk hv hck hcv he
  by_cases c1 : e = 0
  · rw [if_pos c1] at h
    subst c1
    obtain ⟨hz1, hz2, hz3, hz4, hz5⟩ := attn_right.zero HE.out
    have HZ3 := Aside0.mk hz3
    clear hz3
    obtain ⟨q2, hq2, h⟩ := Option.bind_eq_some_iff.1 h
    obtain ⟨sc, hsc, h⟩ := Option.bind_eq_some_iff.1 h
    obtain ⟨⟨ws, e2⟩, hwe, h⟩ := Option.bind_eq_some_iff.1 h
    have H1 := Aside0.mk hq2
    have H2 := Aside0.mk hsc
    have H3 := Aside0.mk hwe
    have H4 := Aside0.mk h
    have HSL := Aside0.mk (attn_scores.len hsc)
    clear hq2 hsc hwe h
    go_enter Try.func22, Try.ntmps22
    go_wp2_with fail
    refine (attn_right.calls k Aq cq q Ak ck keys Av cv vals 0 _ HK.out HCK.out HV.out HCV.out HE.out).mono ?_
    rintro e' w1 ⟨rfl, hb1⟩
    go_wp2
    go_loop [11, 26] (fun v i => v = .slice none 0 0 ∧ i = .int .i64 0) (fun _ _ => 0)
    case atStart => exact ⟨rfl, rfl⟩
    case round =>
      obtain ⟨rfl, rfl⟩ := hrel
      go_wp2_with ((with_reducible refine gate_builtin (b := .append) rfl ?_); at_builtin; refine print_append (w0 := w) w.heap.size rfl _ _ 77 110 .nilIface 16 rfl Try.underlying77 attn_Fused.infoSrc rfl (by decide) (.slice none 0 0) [] (.iface 81 (.agg #[.slice Ak keys.length ck, .slice Av vals.length cv])) rfl rfl rfl (own_nil _ _ _ _) hb1 hb1.size (by simp) ?_; intro v11 w11 hown hb11 hg11 hat11)
      rw [List.nil_append] at hown
      obtain ⟨g11, c11, rfl, -, -⟩ := hown.form (by simp)
      have hsrc : ∀ W, Below w11.heap.size w11 W → attn_Srcs W (some ⟨g11, 0, none⟩) [⟨keys, vals⟩] := fun W hb => by
        have hbw : Below w.heap.size w W := hb11.trans (hb.mono hb11.size)
        refine ⟨[.iface 81 (.agg #[.slice Ak keys.length ck, .slice Av vals.length cv])], rfl, fun j hj => ?_, fun j hj => ?_⟩
        · obtain rfl : j = 0 := by simpa using hj
          exact ⟨_, rfl, pw_cell_below hb (hown.cells (g := g11) rfl 0 _ rfl)⟩
        · obtain rfl : j = 0 := by simpa using hj
          exact ⟨Ak, ck, Av, cv, rfl, HCK.out, HCV.out, Kd.C_below HK.out hbw, Kd.C_below HV.out hbw⟩
      have HSRC := Aside0.mk hsrc
      have HB11 := Aside0.mk hb11
      clear hsrc hown hb11 hg11 hat11 hb1
      refine (attn_cut.calls k Aq cq q q2 _ (Kd.C_below HQ.out HB11.out) HCQ.out H1.out).mono ?_
      rintro e' w12 ⟨vq, rfl, hRq, hb12⟩
      obtain ⟨Aq2, cq2, rfl, hlq2, hCq⟩ := Kd.R_reads hRq
      have HQ2 := Aside0.mk hCq
      have HB12 := Aside0.mk hb12
      clear hRq hCq hb12 hlq2
      go_wp2_with fail
      refine (attn_scores.one k Aq2 cq2 q2 (some ⟨g11, 0, none⟩) c11 ⟨keys, vals⟩ sc _ HQ2.out (HSRC.out _ HB12.out) (by have := HSL.out; simp at this; omega) H2.out).mono ?_
      rintro e' w13 ⟨vs, rfl, hRs, hb13⟩
      obtain ⟨As, cs, rfl, hls, hCs⟩ := Kd.R_reads hRs
      have HCs := Aside0.mk hCs
      have HLs := Aside0.mk hls
      have HB13 := Aside0.mk (HB12.out.trans (hb13.mono HB12.out.size))
      clear hRs hCs hb13 hls
      go_wp2_with fail
      refine (soft_Weights.calls k As cs sc ws e2 _ HCs.out HLs.out H3.out).mono ?_
      rintro e' w14 ⟨vw, rfl, hRw, hb14⟩
      obtain ⟨Aw, cw, rfl, hlw, hCw⟩ := Kd.R_reads hRw
      have HCw := Aside0.mk hCw
      have HLw := Aside0.mk hlw
      have HB14 := Aside0.mk (HB13.out.trans (hb14.mono HB13.out.size))
      clear hRw hCw hb14 hlw
      have HBA := Aside0.mk (HB11.out.trans (HB14.out.mono HB11.out.size))
      by_cases c2 : e2 = 0
      · subst c2
        have H5 := H4.out
        rw [if_pos rfl] at H5
        obtain ⟨r, hr, H5⟩ := Option.bind_eq_some_iff.1 H5
        obtain ⟨rfl, rfl⟩ := Prod.mk.inj (Option.some.inj H5)
        have HR := Aside0.mk hr
        clear hr H5 H4
        go_wp2_with fail
        refine (attn_gather.one k Aw cw ws (some ⟨g11, 0, none⟩) c11 ⟨keys, vals⟩ q.length r _ HCw.out HLw.out (HSRC.out _ HB14.out) HZ3.out hz4 (by omega) HR.out).mono ?_
        rintro e' w15 ⟨vr, rfl, hRr, hb15⟩
        have hRr2 := Kd.R_lower hRr HBA.out.size
        have hbz := HBA.out.trans (hb15.mono HBA.out.size)
        have HRR := Aside0.mk hRr2
        have HBZ := Aside0.mk hbz
        clear hRr hRr2 hbz hb15
        go_wp2
        go_ret2
        exact ⟨_, rfl, HRR.out, HBZ.out⟩
      · have H5 := H4.out
        rw [if_neg c2] at H5
        obtain ⟨rfl, rfl⟩ := Prod.mk.inj (Option.some.inj H5)
        clear H5 H4
        have c2b : (e2 != 0) = true := by rw [bne_iff_ne]; exact c2
        clear c2
        go_wp2
        go_ret2
        exact ⟨_, rfl, Kd.R_nil _ _ _ _ _, HBA.out⟩
  · rw [if_neg c1] at h
    obtain ⟨rfl, rfl⟩ := Prod.mk.inj (Option.some.inj h)
    have c1b : (e != 0) = true := by rw [bne_iff_ne]; exact c1
    clear c1 h
    go_enter Try.func22, Try.ntmps22
    go_wp2_with fail
    refine (attn_right.calls k Aq cq q Ak ck keys Av cv vals e _ HK.out HCK.out HV.out HCV.out HE.out).mono ?_
    rintro e' w1 ⟨rfl, hb1⟩
    have HB1 := Aside0.mk hb1
    clear hb1
    go_wp2
    go_ret2
    exact ⟨_, rfl, Kd.R_nil _ _ _ _ _, HB1.out⟩

end Go.Proofs.Yteflolamihhmdaa.Q

namespace Go.Proofs.Yteflolamihhmdaa.Q
open Go.RowKit Go.Proofs.YteflolamihhmdaaW.PrintWords Go.Proofs.YteflolamihhmdaaW.PrintLast Go.Proofs.YteflolamihhmdaaW.PrintMore
attribute [local go_sem] max2_int min2_int max_two min_two max_three min_three max_four min_four   -- for this text's walks alone
set_option linter.unusedVariables false
set_option linter.unusedSimpArgs false

/-! ### credenzaref04_Sum: function 53 -/
def credenzaref04_Sum.l0 : Nat → List Int → Int → Int → Option (Int)
  | 0, _, _, _ => none
  | k + 1, x0, x3, x4 => if x4 < (x0.length : Int) then (if 0 ≤ x4 then (credenzaref04_Sum.l0 k x0 (wrap64 (x3 + (rd x0 x4))) (wrap64 (x4 + 1))) else (none)) else (some x3)
def credenzaref04_Sum.f (k : Nat) (l0 : List Int) : Option (Int) := credenzaref04_Sum.l0 k l0 0 0
theorem credenzaref04_Sum.mono_l : ∀ k, (∀ y0 y1 y2, LeO (credenzaref04_Sum.l0 k y0 y1 y2) (credenzaref04_Sum.l0 (k + 1) y0 y1 y2))
  | 0 => fun _ _ _ r h => by simp [credenzaref04_Sum.l0] at h
  | k + 1 => by
    have ih0 := credenzaref04_Sum.mono_l k
    · intro y0 y1 y2
      unfold credenzaref04_Sum.l0
      repeat' first
      | (with_reducible exact ih0 _ _ _)
      | (with_reducible exact LeO.refl _)
      | (with_reducible exact LeO.none _)
      | (with_reducible refine LeO.ite ?_ ?_)
      | (with_reducible refine LeO.bind ?_ (fun _ => ?_))
      | exact ih0 _ _ _
      | exact LeO.none _
      | refine LeO.ite ?_ ?_
      | refine LeO.bind ?_ (fun _ => ?_)
theorem credenzaref04_Sum.mono : ∀ a0 k, LeO (credenzaref04_Sum.f k a0) (credenzaref04_Sum.f (k + 1) a0) := by
  intro a0 k
  have ih0 := credenzaref04_Sum.mono_l k
  unfold credenzaref04_Sum.f
  repeat' first
      | (with_reducible exact ih0 _ _ _)
      | (with_reducible exact LeO.refl _)
      | (with_reducible exact LeO.none _)
      | (with_reducible refine LeO.ite ?_ ?_)
      | (with_reducible refine LeO.bind ?_ (fun _ => ?_))
      | exact ih0 _ _ _
      | exact LeO.none _
      | refine LeO.ite ?_ ?_
      | refine LeO.bind ?_ (fun _ => ?_)
set_option maxHeartbeats 8000000 in
set_option maxRecDepth 100000 in
theorem credenzaref04_Sum.calls (k : Nat) (A0 : Option Addr) (c0 : Nat) (l0 : List Int) (r : Int) (w : World) (hr0 : Kd.C (Kd.int .i64) w A0 l0.length l0) (hc0 : l0.length ≤ c0) (h : credenzaref04_Sum.f k l0 = some r) :
    Calls Try.prog 53 #[.slice A0 l0.length c0] w fun e w' => e = .returned (.int .i64 r) ∧ Drawn0 w w' := by
  have HR0 := Aside0.mk hr0
  have HC0 := Aside0.mk hc0
  clear hr0 hc0
  have H : (credenzaref04_Sum.l0 k l0 0 0) = some r := h
  clear h
  have H' := Aside0.mk H
  clear H
  go_enter Try.func53, Try.ntmps53
  go_wp2
  go_loopg [3, 4] k (fun kq v3 v4 w' => ∃ (x3_1 : Int) (x4_1 : Int), v3 = .int .i64 x3_1 ∧ v4 = .int .i64 x4_1 ∧ Aside0 (credenzaref04_Sum.l0 kq l0 x3_1 x4_1 = some r) ∧ Aside0 (kq ≤ k) ∧ Drawn0 w w')
  case atStart => exact ⟨(0), (0), (by first | rfl | (simp; done) | (simp [*]; done)), (by first | rfl | (simp; done) | (simp [*]; done)), H', ⟨Nat.le_refl _⟩, by repeat (first | exact Drawn0.refl _ | apply Drawn0.step)⟩
  case round =>
    clear H'
    obtain ⟨x3_1, x4_1, rfl, rfl, HA, HK1, ⟨m1, rfl⟩⟩ := hrel
    cases gk with
    | zero => exact absurd HA.out (by simp [credenzaref04_Sum.l0])
    | succ k1 =>
      have H := HA.out
      clear HA
      simp only [credenzaref04_Sum.l0] at H
      by_cases c2 : x4_1 < (l0.length : Int)
      · rw [if_pos c2] at H
        have c2b0 : decide (x4_1 < (l0.length : Int)) = true := decide_eq_true c2
        clear c2
        by_cases c3 : 0 ≤ x4_1
        · rw [if_pos c3] at H
          have c3b0 : decide (0 ≤ x4_1) = true := decide_eq_true c3
          clear c3
          have H' := Aside0.mk H
          clear H
          have p231 : 0 ≤ (x4_1 : Int) := of_decide_eq_true (by first | (with_reducible assumption) | assumption)
          have q231 : x4_1 < (l0.length : Int) := of_decide_eq_true (by first | (with_reducible assumption) | assumption)
          obtain ⟨ad231, e231, hx231_0⟩ := Kd.at_int HR0.out x4_1 p231 q231
          cases e231
          replace p231 := eq_true p231
          replace q231 := eq_true q231
          go_wp2
          go_roundg k1
          case measure => have := HK1.out; omega
          case rel => exact ⟨(wrap64 (x3_1 + (rd l0 x4_1))), (wrap64 (x4_1 + 1)), (by first | rfl | (simp; done) | (simp [*]; done)), (by first | rfl | (simp; done) | (simp [*]; done)), H', ⟨by have := HK1.out; omega⟩, by repeat (first | exact Drawn0.refl _ | apply Drawn0.step)⟩
        · rw [if_neg c3] at H
          exact absurd H (by simp)
      · rw [if_neg c2] at H
        have c2b0 : decide (x4_1 < (l0.length : Int)) = false := decide_eq_false c2
        clear c2
        obtain rfl := Option.some.inj H
        go_wp2
        go_ret
        exact ⟨by first | rfl | (simp; done) | (simp [*]; done), by repeat (first | exact Drawn0.refl _ | apply Drawn0.step)⟩

end Go.Proofs.Yteflolamihhmdaa.Q

namespace Go.Proofs.Yteflolamihhmdaa.Q
open Go.RowKit Go.Proofs.YteflolamihhmdaaW.PrintWords Go.Proofs.YteflolamihhmdaaW.PrintLast Go.Proofs.YteflolamihhmdaaW.PrintMore
attribute [local go_sem] max2_int min2_int max_two min_two max_three min_three max_four min_four   -- for this text's walks alone
set_option linter.unusedVariables false
set_option linter.unusedSimpArgs false

/-! ### credenzaref04_Mix: function 32 -/
mutual
def credenzaref04_Mix.l0 : Nat → List Int → List (List Int) → List Int → Int → Option (List Int)
  | 0, _, _, _, _ => none
  | k + 1, x0, x1, x5, x6 => if 0 < (x1.length : Int) then (if x6 < ((rd_L8 x1 0).length : Int) then (credenzaref04_Mix.l1 k x0 x1 x5 x6 0 0) else (some x5)) else (none)
def credenzaref04_Mix.l1 : Nat → List Int → List (List Int) → List Int → Int → Int → Int → Option (List Int)
  | 0, _, _, _, _, _, _ => none
  | k + 1, x0, x1, x5, x6, x7, x8 => if x8 < (x1.length : Int) then (if 0 ≤ x8 then (if x8 < (x0.length : Int) then (if 0 ≤ x6 then (if x6 < ((rd_L8 x1 x8).length : Int) then (credenzaref04_Mix.l1 k x0 x1 x5 x6 (wrap64 (x7 + (wrap64 ((rd x0 x8) * (wrap64 (rd (rd_L8 x1 x8) x6)))))) (wrap64 (x8 + 1))) else (none)) else (none)) else (none)) else (none)) else ((credenzaref04_Sum.f k x0).bind fun t236 => ((credenzaref01_Ratio.f x7 t236).bind fun t237 => ((credenzaref01_Narrow.f t237).bind fun t238 => (if x5.length < 35184372088832 then (credenzaref04_Mix.l0 k x0 x1 (x5 ++ [t238]) (wrap64 (x6 + 1))) else (none)))))
end
def credenzaref04_Mix.f (k : Nat) (l0 : List Int) (l1 : List (List Int)) : Option (List Int) := credenzaref04_Mix.l0 k l0 l1 ([] : List Int) 0
theorem credenzaref04_Mix.mono_l : ∀ k, (∀ y0 y1 y2 y3, LeO (credenzaref04_Mix.l0 k y0 y1 y2 y3) (credenzaref04_Mix.l0 (k + 1) y0 y1 y2 y3)) ∧ (∀ y0 y1 y2 y3 y4 y5, LeO (credenzaref04_Mix.l1 k y0 y1 y2 y3 y4 y5) (credenzaref04_Mix.l1 (k + 1) y0 y1 y2 y3 y4 y5))
  | 0 => ⟨fun _ _ _ _ r h => by simp [credenzaref04_Mix.l0] at h, fun _ _ _ _ _ _ r h => by simp [credenzaref04_Mix.l1] at h⟩
  | k + 1 => by
    obtain ⟨ih0, ih1⟩ := credenzaref04_Mix.mono_l k
    refine ⟨?_, ?_⟩
    · intro y0 y1 y2 y3
      unfold credenzaref04_Mix.l0
      repeat' first
      | (with_reducible exact ih0 _ _ _ _)
      | (with_reducible exact ih1 _ _ _ _ _ _)
      | (with_reducible exact credenzaref04_Sum.mono _ _)
      | (with_reducible exact LeO.refl _)
      | (with_reducible exact LeO.none _)
      | (with_reducible refine LeO.ite ?_ ?_)
      | (with_reducible refine LeO.bind ?_ (fun _ => ?_))
      | exact ih0 _ _ _ _
      | exact ih1 _ _ _ _ _ _
      | exact credenzaref04_Sum.mono _ _
      | exact LeO.none _
      | refine LeO.ite ?_ ?_
      | refine LeO.bind ?_ (fun _ => ?_)
    · intro y0 y1 y2 y3 y4 y5
      unfold credenzaref04_Mix.l1
      repeat' first
      | (with_reducible exact ih0 _ _ _ _)
      | (with_reducible exact ih1 _ _ _ _ _ _)
      | (with_reducible exact credenzaref04_Sum.mono _ _)
      | (with_reducible exact LeO.refl _)
      | (with_reducible exact LeO.none _)
      | (with_reducible refine LeO.ite ?_ ?_)
      | (with_reducible refine LeO.bind ?_ (fun _ => ?_))
      | exact ih0 _ _ _ _
      | exact ih1 _ _ _ _ _ _
      | exact credenzaref04_Sum.mono _ _
      | exact LeO.none _
      | refine LeO.ite ?_ ?_
      | refine LeO.bind ?_ (fun _ => ?_)
theorem credenzaref04_Mix.mono : ∀ a0 a1 k, LeO (credenzaref04_Mix.f k a0 a1) (credenzaref04_Mix.f (k + 1) a0 a1) := by
  intro a0 a1 k
  obtain ⟨ih0, ih1⟩ := credenzaref04_Mix.mono_l k
  unfold credenzaref04_Mix.f
  repeat' first
      | (with_reducible exact ih0 _ _ _ _)
      | (with_reducible exact ih1 _ _ _ _ _ _)
      | (with_reducible exact credenzaref04_Sum.mono _ _)
      | (with_reducible exact LeO.refl _)
      | (with_reducible exact LeO.none _)
      | (with_reducible refine LeO.ite ?_ ?_)
      | (with_reducible refine LeO.bind ?_ (fun _ => ?_))
      | exact ih0 _ _ _ _
      | exact ih1 _ _ _ _ _ _
      | exact credenzaref04_Sum.mono _ _
      | exact LeO.none _
      | refine LeO.ite ?_ ?_
      | refine LeO.bind ?_ (fun _ => ?_)
set_option maxHeartbeats 8000000 in
set_option maxRecDepth 100000 in
theorem credenzaref04_Mix.calls (k : Nat) (A0 : Option Addr) (c0 : Nat) (l0 : List Int) (A1 : Option Addr) (c1 : Nat) (l1 : List (List Int)) (r : List Int) (w : World) (hr0 : Kd.C (Kd.int .i64) w A0 l0.length l0) (hc0 : l0.length ≤ c0) (hr1 : Kd.C (Kd.slice 21 (Kd.int .i32)) w A1 l1.length l1) (hc1 : l1.length ≤ c1) (h : credenzaref04_Mix.f k l0 l1 = some r) :
    Calls Try.prog 32 #[.slice A0 l0.length c0, .slice A1 l1.length c1] w fun e w' => ∃ v0_ : Value, e = .returned (v0_) ∧ Kd.R (Kd.int .i32) 21 w' w.heap.size (fun _ => True) v0_ r ∧ Below w.heap.size w w' := by
  have HR0 := Aside0.mk hr0
  have HC0 := Aside0.mk hc0
  clear hr0 hc0
  have HR1 := Aside0.mk hr1
  have HC1 := Aside0.mk hc1
  clear hr1 hc1
  have HB := Aside0.mk (Below.refl w.heap.size w)
  have H : (credenzaref04_Mix.l0 k l0 l1 ([] : List Int) 0) = some r := h
  clear h
  have H' := Aside0.mk H
  clear H
  go_enter Try.func32, Try.ntmps32
  go_wp2
  repeat (go_quiet (fail); try go_wp2)
  go_loopg [5, 6] k (fun kq v5 v6 w' => ∃ (x5_1 : List Int) (x6_1 : Int), v6 = .int .i64 x6_1 ∧ Aside0 (credenzaref04_Mix.l0 kq l0 l1 x5_1 x6_1 = some r) ∧ Aside0 (kq ≤ k) ∧ Aside0 (Kd.R (Kd.int .i32) 21 w' w.heap.size (fun _ => True) v5 x5_1) ∧ Aside0 (Below w.heap.size w w'))
  case atStart => exact ⟨(([] : List Int)), (0), (by first | rfl | (simp; done) | (simp [*]; done)), H', ⟨Nat.le_refl _⟩, ⟨by first | exact Kd.R_nil _ _ _ _ _ | exact Kd.N_nil _ _ _ _ _ | exact Kd.V_nil _ _ _ _ _ | exact Kd.Q_nil _ _ _ _ _ | exact Kd.S_nil _ _ _ _ _⟩, ⟨by repeat (first | (with_reducible first | exact HB.out | apply below_alloc | apply pw_below_drewN | apply below_drew1) | exact HB.out)⟩⟩
  case round =>
    clear H'
    try clear c1
    try clear p2
    obtain ⟨x5_1, x6_1, rfl, HA, HK1, HO_5, HB⟩ := hrel
    cases gk with
    | zero => exact absurd HA.out (by simp [credenzaref04_Mix.l0])
    | succ k1 =>
      have H := HA.out
      clear HA
      simp only [credenzaref04_Mix.l0] at H
      by_cases c3 : 0 < (l1.length : Int)
      · rw [if_pos c3] at H
        have c3b0 : decide (0 < (l1.length : Int)) = true := decide_eq_true c3
        have c3b1 : decide (0 < l1.length) = true := decide_eq_true (by omega)
        clear c3
        by_cases c4 : x6_1 < ((rd_L8 l1 0).length : Int)
        · rw [if_pos c4] at H
          have c4b0 : decide (x6_1 < ((rd_L8 l1 0).length : Int)) = true := decide_eq_true c4
          clear c4
          have H' := Aside0.mk H
          clear H
          have p232 : 0 ≤ (0 : Int) := (by omega)
          have q232 : 0 < (l1.length : Int) := of_decide_eq_true (by first | (with_reducible assumption) | assumption)
          obtain ⟨ad232, A232_0, c232_0, e232, hx232_0, hl232_0, hi232_0⟩ := at_L8 HR1.out 0 p232 q232
          cases e232
          have qi232 : (0 < l1.length) = True := eq_true (by omega)
          (try rw [show ((0 : Int)).toNat = 0 from rfl] at hx232_0)
          (try rw [Addr.add_zero'] at hx232_0)
          replace hx232_0 := (HB.out.cell (World.block_lt_of_cell? w _ hx232_0)).trans hx232_0
          have HR232_0 := Aside0.mk hi232_0
          have HC232_0 := Aside0.mk hl232_0
          clear hi232_0 hl232_0
          replace p232 := eq_true p232
          replace q232 := eq_true q232
          go_wp2
          repeat (go_quiet (fail); try go_wp2)
          go_loopg [7, 8] k1 (fun kq v7 v8 w' => ∃ (x7_2 : Int) (x8_2 : Int), v7 = .int .i64 x7_2 ∧ v8 = .int .i64 x8_2 ∧ Aside0 (credenzaref04_Mix.l1 kq l0 l1 x5_1 x6_1 x7_2 x8_2 = some r) ∧ Aside0 (kq ≤ k1) ∧ Aside0 (Kd.R (Kd.int .i32) 21 w' w.heap.size (fun _ => True) u5 x5_1) ∧ Aside0 (Below w.heap.size w w'))
          case atStart => exact ⟨(0), (0), (by first | rfl | (simp; done) | (simp [*]; done)), (by first | rfl | (simp; done) | (simp [*]; done)), H', ⟨Nat.le_refl _⟩, ⟨by (with_reducible repeat (first | apply Kd.R_alloc | apply Kd.R_drewN | apply Kd.R_drew)); exact HO_5.out⟩, ⟨by repeat (first | (with_reducible first | exact HB.out | apply below_alloc | apply pw_below_drewN | apply below_drew1) | exact HB.out)⟩⟩
          case round =>
            clear H'
            try clear c1
            try clear c2
            try clear p2
            try clear q2
            try clear hx2
            try clear qi2
            try clear c3
            try clear c3b0
            try clear c3b1
            try clear c4
            try clear c4b0
            try clear hx232_0
            try clear p2
            try clear p232
            try clear q232
            obtain ⟨x7_2, x8_2, rfl, rfl, HA, HK2, HO_5, HB⟩ := hrel
            cases gk with
            | zero => exact absurd HA.out (by simp [credenzaref04_Mix.l1])
            | succ k2 =>
              have H := HA.out
              clear HA
              simp only [credenzaref04_Mix.l1] at H
              by_cases c5 : x8_2 < (l1.length : Int)
              · rw [if_pos c5] at H
                have c5b0 : decide (x8_2 < (l1.length : Int)) = true := decide_eq_true c5
                clear c5
                by_cases c6 : 0 ≤ x8_2
                · rw [if_pos c6] at H
                  have c6b0 : decide (0 ≤ x8_2) = true := decide_eq_true c6
                  clear c6
                  by_cases c7 : x8_2 < (l0.length : Int)
                  · rw [if_pos c7] at H
                    have c7b0 : decide (x8_2 < (l0.length : Int)) = true := decide_eq_true c7
                    clear c7
                    by_cases c8 : 0 ≤ x6_1
                    · rw [if_pos c8] at H
                      have c8b0 : decide (0 ≤ x6_1) = true := decide_eq_true c8
                      clear c8
                      by_cases c9 : x6_1 < ((rd_L8 l1 x8_2).length : Int)
                      · rw [if_pos c9] at H
                        have c9b0 : decide (x6_1 < ((rd_L8 l1 x8_2).length : Int)) = true := decide_eq_true c9
                        clear c9
                        have H' := Aside0.mk H
                        clear H
                        have p233 : 0 ≤ (x8_2 : Int) := of_decide_eq_true (by first | (with_reducible assumption) | assumption)
                        have q233 : x8_2 < (l0.length : Int) := of_decide_eq_true (by first | (with_reducible assumption) | assumption)
                        obtain ⟨ad233, e233, hx233_0⟩ := Kd.at_int HR0.out x8_2 p233 q233
                        cases e233
                        replace hx233_0 := (HB.out.cell (World.block_lt_of_cell? w _ hx233_0)).trans hx233_0
                        replace p233 := eq_true p233
                        replace q233 := eq_true q233
                        have p234 : 0 ≤ (x8_2 : Int) := of_decide_eq_true (by first | (with_reducible assumption) | assumption)
                        have q234 : x8_2 < (l1.length : Int) := of_decide_eq_true (by first | (with_reducible assumption) | assumption)
                        obtain ⟨ad234, A234_0, c234_0, e234, hx234_0, hl234_0, hi234_0⟩ := at_L8 HR1.out x8_2 p234 q234
                        obtain rfl : ad232 = ad234 := (by injection e234)
                        replace hx234_0 := (HB.out.cell (World.block_lt_of_cell? w _ hx234_0)).trans hx234_0
                        have HR234_0 := Aside0.mk hi234_0
                        have HC234_0 := Aside0.mk hl234_0
                        clear hi234_0 hl234_0
                        replace p234 := eq_true p234
                        replace q234 := eq_true q234
                        have p235 : 0 ≤ (x6_1 : Int) := of_decide_eq_true (by first | (with_reducible assumption) | assumption)
                        have q235 : x6_1 < ((rd_L8 l1 x8_2).length : Int) := of_decide_eq_true (by first | (with_reducible assumption) | assumption)
                        obtain ⟨ad235, e235, hx235_0⟩ := Kd.at_int HR234_0.out x6_1 p235 q235
                        cases e235
                        replace hx235_0 := (HB.out.cell (World.block_lt_of_cell? w _ hx235_0)).trans hx235_0
                        replace p235 := eq_true p235
                        replace q235 := eq_true q235
                        go_wp2
                        repeat (go_quiet (fail); try go_wp2)
                        go_roundg k2
                        case measure => have := HK1.out; have := HK2.out; omega
                        case rel => exact ⟨(wrap64 (x7_2 + (wrap64 ((rd l0 x8_2) * (wrap64 (rd (rd_L8 l1 x8_2) x6_1)))))), (wrap64 (x8_2 + 1)), (by first | rfl | (simp; done) | (simp [*]; done)), (by first | rfl | (simp; done) | (simp [*]; done)), H', ⟨by have := HK1.out; have := HK2.out; omega⟩, ⟨by (with_reducible repeat (first | apply Kd.R_alloc | apply Kd.R_drewN | apply Kd.R_drew)); exact HO_5.out⟩, ⟨by repeat (first | (with_reducible first | exact HB.out | apply below_alloc | apply pw_below_drewN | apply below_drew1) | exact HB.out)⟩⟩
                      · rw [if_neg c9] at H
                        exact absurd H (by simp)
                    · rw [if_neg c8] at H
                      exact absurd H (by simp)
                  · rw [if_neg c7] at H
                    exact absurd H (by simp)
                · rw [if_neg c6] at H
                  exact absurd H (by simp)
              · rw [if_neg c5] at H
                have c5b0 : decide (x8_2 < (l1.length : Int)) = false := decide_eq_false c5
                clear c5
                replace H := Option.bind_eq_some_iff.mp H
                obtain ⟨t236, A100, H⟩ := H
                replace H : ((credenzaref01_Ratio.f x7_2 t236).bind fun t237 => ((credenzaref01_Narrow.f t237).bind fun t238 => (if x5_1.length < 35184372088832 then (credenzaref04_Mix.l0 k2 l0 l1 (x5_1 ++ [t238]) (wrap64 (x6_1 + 1))) else (none)))) = some r := H
                have A10 := Aside0.mk A100
                clear A100
                replace H := Option.bind_eq_some_iff.mp H
                obtain ⟨t237, A110, H⟩ := H
                replace H : ((credenzaref01_Narrow.f t237).bind fun t238 => (if x5_1.length < 35184372088832 then (credenzaref04_Mix.l0 k2 l0 l1 (x5_1 ++ [t238]) (wrap64 (x6_1 + 1))) else (none))) = some r := H
                have A11 := Aside0.mk A110
                clear A110
                replace H := Option.bind_eq_some_iff.mp H
                obtain ⟨t238, A120, H⟩ := H
                replace H : (if x5_1.length < 35184372088832 then (credenzaref04_Mix.l0 k2 l0 l1 (x5_1 ++ [t238]) (wrap64 (x6_1 + 1))) else (none)) = some r := H
                have A12 := Aside0.mk A120
                clear A120
                by_cases c13 : x5_1.length < 35184372088832
                · rw [if_pos c13] at H
                  have LMc13 := Aside0.mk c13
                  clear c13
                  obtain ⟨y239, hy239⟩ : ∃ y_ : List Int, y_ = (x5_1 ++ [t238]) := ⟨_, rfl⟩
                  replace H : (credenzaref04_Mix.l0 k2 l0 l1 y239 (wrap64 (x6_1 + 1))) = some r := by first | (rw [hy239]; with_reducible exact H) | (have H2_ := (Option.bind_some _ _).symm.trans H; rw [hy239]; with_reducible exact H2_) | (have H2_ := (Option.bind_some _ _).symm.trans H; with_reducible exact H2_) | with_reducible exact H | (rw [hy239]; exact H) | exact H
                  have Ny239 := Aside0.mk hy239
                  clear hy239
                  have H' := Aside0.mk H
                  clear H
                  go_wp2_with (first | (go_at_call 53; (with_reducible refine (credenzaref04_Sum.calls k2 _ _ l0 t236 _ ?side1 ?side2 A10.out).mono ?_); (case side1 => repeat (first | exact (Kd.C_below HR0.out HB.out) | (with_reducible refine Kd.C_alloc ?_ _) | (with_reducible refine Kd.C_drewN ?_ _) | (with_reducible refine Kd.C_drew ?_))); (case side2 => exact HC0.out); rintro e w' ⟨rfl, ⟨nd, rfl⟩⟩; (try first | exact ⟨rfl, _, World.drewN_drewN _ _ _⟩ | exact ⟨rfl, _, Eq.trans (World.drewN_drewN _ _ _) (congrArg (World.drewN _) (Nat.add_assoc _ _ _))⟩)) | (go_at_call 29; (with_reducible refine (credenzaref01_Ratio.calls x7_2 t236 t237 _ A11.out).mono ?_); rintro e w' ⟨rfl, ⟨nd, rfl⟩⟩; (try first | exact ⟨rfl, _, World.drewN_drewN _ _ _⟩ | exact ⟨rfl, _, Eq.trans (World.drewN_drewN _ _ _) (congrArg (World.drewN _) (Nat.add_assoc _ _ _))⟩)) | (go_at_call 34; (with_reducible refine (credenzaref01_Narrow.calls t237 t238 _ A12.out).mono ?_); rintro e w' ⟨rfl, ⟨nd, rfl⟩⟩; (try first | exact ⟨rfl, _, World.drewN_drewN _ _ _⟩ | exact ⟨rfl, _, Eq.trans (World.drewN_drewN _ _ _) (congrArg (World.drewN _) (Nat.add_assoc _ _ _))⟩)) | ((with_reducible refine gate_builtin (b := .append) (xs := #[.tmp 38, .tmp 44]) rfl ?_); at_builtin; refine Kd.R_append (Kd.int .i32) (w0 := w) w.heap.size rfl (.tmp 38) (.tmp 44) 22 21 (.int .i32 0) 4 rfl Try.underlying22 info21 rfl (by decide) (by omega) u5 x5_1 t238 [.int .i32 t238] (fun _ => True) (fun _ => False) rfl rfl ?aP (fun _ hk => hk.elim) ?aF ?aO ?aB ?aS ?aL ?_; (case aP => exact rfl); (case aB => exact (by repeat (first | (with_reducible first | exact HB.out | apply below_alloc | apply pw_below_drewN | apply below_drew1) | exact HB.out))); (case aF => exact (fun _ _ => trivial)); (case aO => exact (by (with_reducible repeat (first | apply Kd.R_alloc | apply Kd.R_drewN | apply Kd.R_drew)); exact HO_5.out)); (case aS => exact (below_size (by repeat (first | (with_reducible first | exact HB.out | apply below_alloc | apply pw_below_drewN | apply below_drew1) | exact HB.out)))); (case aL => have := LMc13.out; omega); intro v240 w14 ho hb hg hat; rw [← Ny239.out] at ho; have n0_ := Aside0.mk (hb); have n1_ := Aside0.mk (ho); clear HB; clear HO_5; have HB := n0_; have HO241 := n1_; clear n0_ n1_; clear ho hb hg hat))
                  repeat (go_quiet (first | (go_at_call 53; (with_reducible refine (credenzaref04_Sum.calls k2 _ _ l0 t236 _ ?side1 ?side2 A10.out).mono ?_); (case side1 => repeat (first | exact (Kd.C_below HR0.out HB.out) | (with_reducible refine Kd.C_alloc ?_ _) | (with_reducible refine Kd.C_drewN ?_ _) | (with_reducible refine Kd.C_drew ?_))); (case side2 => exact HC0.out); rintro e w' ⟨rfl, ⟨nd, rfl⟩⟩; (try first | exact ⟨rfl, _, World.drewN_drewN _ _ _⟩ | exact ⟨rfl, _, Eq.trans (World.drewN_drewN _ _ _) (congrArg (World.drewN _) (Nat.add_assoc _ _ _))⟩)) | (go_at_call 29; (with_reducible refine (credenzaref01_Ratio.calls x7_2 t236 t237 _ A11.out).mono ?_); rintro e w' ⟨rfl, ⟨nd, rfl⟩⟩; (try first | exact ⟨rfl, _, World.drewN_drewN _ _ _⟩ | exact ⟨rfl, _, Eq.trans (World.drewN_drewN _ _ _) (congrArg (World.drewN _) (Nat.add_assoc _ _ _))⟩)) | (go_at_call 34; (with_reducible refine (credenzaref01_Narrow.calls t237 t238 _ A12.out).mono ?_); rintro e w' ⟨rfl, ⟨nd, rfl⟩⟩; (try first | exact ⟨rfl, _, World.drewN_drewN _ _ _⟩ | exact ⟨rfl, _, Eq.trans (World.drewN_drewN _ _ _) (congrArg (World.drewN _) (Nat.add_assoc _ _ _))⟩)) | ((with_reducible refine gate_builtin (b := .append) (xs := #[.tmp 38, .tmp 44]) rfl ?_); at_builtin; refine Kd.R_append (Kd.int .i32) (w0 := w) w.heap.size rfl (.tmp 38) (.tmp 44) 22 21 (.int .i32 0) 4 rfl Try.underlying22 info21 rfl (by decide) (by omega) u5 x5_1 t238 [.int .i32 t238] (fun _ => True) (fun _ => False) rfl rfl ?aP (fun _ hk => hk.elim) ?aF ?aO ?aB ?aS ?aL ?_; (case aP => exact rfl); (case aB => exact (by repeat (first | (with_reducible first | exact HB.out | apply below_alloc | apply pw_below_drewN | apply below_drew1) | exact HB.out))); (case aF => exact (fun _ _ => trivial)); (case aO => exact (by (with_reducible repeat (first | apply Kd.R_alloc | apply Kd.R_drewN | apply Kd.R_drew)); exact HO_5.out)); (case aS => exact (below_size (by repeat (first | (with_reducible first | exact HB.out | apply below_alloc | apply pw_below_drewN | apply below_drew1) | exact HB.out)))); (case aL => have := LMc13.out; omega); intro v240 w14 ho hb hg hat; rw [← Ny239.out] at ho; have n0_ := Aside0.mk (hb); have n1_ := Aside0.mk (ho); clear HB; clear HO_5; have HB := n0_; have HO241 := n1_; clear n0_ n1_; clear ho hb hg hat)); try go_wp2_with (first | (go_at_call 53; (with_reducible refine (credenzaref04_Sum.calls k2 _ _ l0 t236 _ ?side1 ?side2 A10.out).mono ?_); (case side1 => repeat (first | exact (Kd.C_below HR0.out HB.out) | (with_reducible refine Kd.C_alloc ?_ _) | (with_reducible refine Kd.C_drewN ?_ _) | (with_reducible refine Kd.C_drew ?_))); (case side2 => exact HC0.out); rintro e w' ⟨rfl, ⟨nd, rfl⟩⟩; (try first | exact ⟨rfl, _, World.drewN_drewN _ _ _⟩ | exact ⟨rfl, _, Eq.trans (World.drewN_drewN _ _ _) (congrArg (World.drewN _) (Nat.add_assoc _ _ _))⟩)) | (go_at_call 29; (with_reducible refine (credenzaref01_Ratio.calls x7_2 t236 t237 _ A11.out).mono ?_); rintro e w' ⟨rfl, ⟨nd, rfl⟩⟩; (try first | exact ⟨rfl, _, World.drewN_drewN _ _ _⟩ | exact ⟨rfl, _, Eq.trans (World.drewN_drewN _ _ _) (congrArg (World.drewN _) (Nat.add_assoc _ _ _))⟩)) | (go_at_call 34; (with_reducible refine (credenzaref01_Narrow.calls t237 t238 _ A12.out).mono ?_); rintro e w' ⟨rfl, ⟨nd, rfl⟩⟩; (try first | exact ⟨rfl, _, World.drewN_drewN _ _ _⟩ | exact ⟨rfl, _, Eq.trans (World.drewN_drewN _ _ _) (congrArg (World.drewN _) (Nat.add_assoc _ _ _))⟩)) | ((with_reducible refine gate_builtin (b := .append) (xs := #[.tmp 38, .tmp 44]) rfl ?_); at_builtin; refine Kd.R_append (Kd.int .i32) (w0 := w) w.heap.size rfl (.tmp 38) (.tmp 44) 22 21 (.int .i32 0) 4 rfl Try.underlying22 info21 rfl (by decide) (by omega) u5 x5_1 t238 [.int .i32 t238] (fun _ => True) (fun _ => False) rfl rfl ?aP (fun _ hk => hk.elim) ?aF ?aO ?aB ?aS ?aL ?_; (case aP => exact rfl); (case aB => exact (by repeat (first | (with_reducible first | exact HB.out | apply below_alloc | apply pw_below_drewN | apply below_drew1) | exact HB.out))); (case aF => exact (fun _ _ => trivial)); (case aO => exact (by (with_reducible repeat (first | apply Kd.R_alloc | apply Kd.R_drewN | apply Kd.R_drew)); exact HO_5.out)); (case aS => exact (below_size (by repeat (first | (with_reducible first | exact HB.out | apply below_alloc | apply pw_below_drewN | apply below_drew1) | exact HB.out)))); (case aL => have := LMc13.out; omega); intro v240 w14 ho hb hg hat; rw [← Ny239.out] at ho; have n0_ := Aside0.mk (hb); have n1_ := Aside0.mk (ho); clear HB; clear HO_5; have HB := n0_; have HO241 := n1_; clear n0_ n1_; clear ho hb hg hat)))
                  go_roundg k2
                  case measure => have := HK1.out; have := HK2.out; omega
                  case rel => exact ⟨(y239), (wrap64 (x6_1 + 1)), (by first | rfl | (simp; done) | (simp [*]; done)), H', ⟨by have := HK1.out; have := HK2.out; omega⟩, ⟨by (with_reducible repeat (first | apply Kd.R_alloc | apply Kd.R_drewN | apply Kd.R_drew)); exact HO241.out⟩, ⟨by repeat (first | (with_reducible first | exact HB.out | apply below_alloc | apply pw_below_drewN | apply below_drew1) | exact HB.out)⟩⟩
                · rw [if_neg c13] at H
                  exact absurd H (by simp)
        · rw [if_neg c4] at H
          have c4b0 : decide (x6_1 < ((rd_L8 l1 0).length : Int)) = false := decide_eq_false c4
          clear c4
          obtain rfl := Option.some.inj H
          have p232 : 0 ≤ (0 : Int) := (by omega)
          have q232 : 0 < (l1.length : Int) := of_decide_eq_true (by first | (with_reducible assumption) | assumption)
          obtain ⟨ad232, A232_0, c232_0, e232, hx232_0, hl232_0, hi232_0⟩ := at_L8 HR1.out 0 p232 q232
          cases e232
          have qi232 : (0 < l1.length) = True := eq_true (by omega)
          (try rw [show ((0 : Int)).toNat = 0 from rfl] at hx232_0)
          (try rw [Addr.add_zero'] at hx232_0)
          replace hx232_0 := (HB.out.cell (World.block_lt_of_cell? w _ hx232_0)).trans hx232_0
          have HR232_0 := Aside0.mk hi232_0
          have HC232_0 := Aside0.mk hl232_0
          clear hi232_0 hl232_0
          replace p232 := eq_true p232
          replace q232 := eq_true q232
          go_wp2
          repeat (go_quiet (fail); try go_wp2)
          go_ret
          exact ⟨_, by first | rfl | (simp [errW_none, errW_some] <;> rfl) | (simp [*, errW_none, errW_some] <;> rfl), by (with_reducible repeat (first | apply Kd.R_alloc | apply Kd.R_drewN | apply Kd.R_drew)); exact HO_5.out, by repeat (first | (with_reducible first | exact HB.out | apply below_alloc | apply pw_below_drewN | apply below_drew1) | exact HB.out)⟩
      · rw [if_neg c3] at H
        exact absurd H (by simp)

end Go.Proofs.Yteflolamihhmdaa.Q

namespace Go.Proofs.Yteflolamihhmdaa.Q
open Go.RowKit Go.Proofs.YteflolamihhmdaaW.PrintWords Go.Proofs.YteflolamihhmdaaW.PrintLast Go.Proofs.YteflolamihhmdaaW.PrintMore
attribute [local go_sem] max2_int min2_int max_two min_two max_three min_three max_four min_four   -- for this text's walks alone
set_option linter.unusedVariables false
set_option linter.unusedSimpArgs false

/-! ### credenzaref14_Gather: function 15 -/
def credenzaref14_Gather.l0 : Nat → List Int → List (List Int) → List (List Int) → List Int → List (List Int) → Int → Option (List Int)
  | 0, _, _, _, _, _, _ => none
  | k + 1, x0, x1, x2, x7, x8, x9 => if x9 < (x1.length : Int) then (if 0 ≤ x9 then ((credenzaref14_Score.f k x0 (rd_L8 x1 x9)).bind fun t259 => (if x7.length < 35184372088832 then (if x9 < (x2.length : Int) then ((credenzaref14_Narrow.f k (rd_L8 x2 x9)).bind fun t264 => (if x8.length < 5864062014805 then (credenzaref14_Gather.l0 k x0 x1 x2 (x7 ++ [t259]) (x8 ++ [t264]) (wrap64 (x9 + 1))) else (none))) else (none)) else (none))) else (none)) else ((credenzaref04_Weights.f k x7).bind fun t270 => ((credenzaref04_Mix.f k t270 x8).bind fun t273 => (some t273)))
def credenzaref14_Gather.f (k : Nat) (l0 : List Int) (l1 : List (List Int)) (l2 : List (List Int)) : Option (List Int) := credenzaref14_Gather.l0 k l0 l1 l2 ([] : List Int) ([] : List (List Int)) 0
theorem credenzaref14_Gather.mono_l : ∀ k, (∀ y0 y1 y2 y3 y4 y5, LeO (credenzaref14_Gather.l0 k y0 y1 y2 y3 y4 y5) (credenzaref14_Gather.l0 (k + 1) y0 y1 y2 y3 y4 y5))
  | 0 => fun _ _ _ _ _ _ r h => by simp [credenzaref14_Gather.l0] at h
  | k + 1 => by
    have ih0 := credenzaref14_Gather.mono_l k
    · intro y0 y1 y2 y3 y4 y5
      unfold credenzaref14_Gather.l0
      repeat' first
      | (with_reducible exact ih0 _ _ _ _ _ _)
      | (with_reducible exact credenzaref04_Mix.mono _ _ _)
      | (with_reducible exact credenzaref04_Weights.mono _ _)
      | (with_reducible exact credenzaref14_Narrow.mono _ _)
      | (with_reducible exact credenzaref14_Score.mono _ _ _)
      | (with_reducible exact LeO.refl _)
      | (with_reducible exact LeO.none _)
      | (with_reducible refine LeO.ite ?_ ?_)
      | (with_reducible refine LeO.bind ?_ (fun _ => ?_))
      | exact ih0 _ _ _ _ _ _
      | exact credenzaref04_Mix.mono _ _ _
      | exact credenzaref04_Weights.mono _ _
      | exact credenzaref14_Narrow.mono _ _
      | exact credenzaref14_Score.mono _ _ _
      | exact LeO.none _
      | refine LeO.ite ?_ ?_
      | refine LeO.bind ?_ (fun _ => ?_)
theorem credenzaref14_Gather.mono : ∀ a0 a1 a2 k, LeO (credenzaref14_Gather.f k a0 a1 a2) (credenzaref14_Gather.f (k + 1) a0 a1 a2) := by
  intro a0 a1 a2 k
  have ih0 := credenzaref14_Gather.mono_l k
  unfold credenzaref14_Gather.f
  repeat' first
      | (with_reducible exact ih0 _ _ _ _ _ _)
      | (with_reducible exact credenzaref04_Mix.mono _ _ _)
      | (with_reducible exact credenzaref04_Weights.mono _ _)
      | (with_reducible exact credenzaref14_Narrow.mono _ _)
      | (with_reducible exact credenzaref14_Score.mono _ _ _)
      | (with_reducible exact LeO.refl _)
      | (with_reducible exact LeO.none _)
      | (with_reducible refine LeO.ite ?_ ?_)
      | (with_reducible refine LeO.bind ?_ (fun _ => ?_))
      | exact ih0 _ _ _ _ _ _
      | exact credenzaref04_Mix.mono _ _ _
      | exact credenzaref04_Weights.mono _ _
      | exact credenzaref14_Narrow.mono _ _
      | exact credenzaref14_Score.mono _ _ _
      | exact LeO.none _
      | refine LeO.ite ?_ ?_
      | refine LeO.bind ?_ (fun _ => ?_)
set_option maxHeartbeats 8000000 in
set_option maxRecDepth 100000 in
theorem credenzaref14_Gather.calls (k : Nat) (A0 : Option Addr) (c0 : Nat) (l0 : List Int) (A1 : Option Addr) (c1 : Nat) (l1 : List (List Int)) (A2 : Option Addr) (c2 : Nat) (l2 : List (List Int)) (r : List Int) (w : World) (hr0 : Kd.C (Kd.int .i32) w A0 l0.length l0) (hc0 : l0.length ≤ c0) (hr1 : Kd.C (Kd.slice 21 (Kd.int .i32)) w A1 l1.length l1) (hc1 : l1.length ≤ c1) (hr2 : Kd.C (Kd.slice 21 (Kd.int .i32)) w A2 l2.length l2) (hc2 : l2.length ≤ c2) (h : credenzaref14_Gather.f k l0 l1 l2 = some r) :
    Calls Try.prog 15 #[.slice A0 l0.length c0, .slice A1 l1.length c1, .slice A2 l2.length c2] w fun e w' => ∃ v0_ : Value, e = .returned (v0_) ∧ Kd.R (Kd.int .i32) 21 w' w.heap.size (fun _ => True) v0_ r ∧ Below w.heap.size w w' := by
  have HR0 := Aside0.mk hr0
  have HC0 := Aside0.mk hc0
  clear hr0 hc0
  have HR1 := Aside0.mk hr1
  have HC1 := Aside0.mk hc1
  clear hr1 hc1
  have HR2 := Aside0.mk hr2
  have HC2 := Aside0.mk hc2
  clear hr2 hc2
  have HB := Aside0.mk (Below.refl w.heap.size w)
  have H : (credenzaref14_Gather.l0 k l0 l1 l2 ([] : List Int) ([] : List (List Int)) 0) = some r := h
  clear h
  have H' := Aside0.mk H
  clear H
  go_enter Try.func15, Try.ntmps15
  go_wp2
  go_loopg [7, 8, 9] k (fun kq v7 v8 v9 w' => ∃ (x7_1 : List Int) (x8_1 : List (List Int)) (x9_1 : Int), v9 = .int .i64 x9_1 ∧ Aside0 (credenzaref14_Gather.l0 kq l0 l1 l2 x7_1 x8_1 x9_1 = some r) ∧ Aside0 (kq ≤ k) ∧ Aside0 (Kd.R (Kd.int .i32) 21 w' w.heap.size (fun _ => True) v7 x7_1) ∧ Aside0 (Kd.S (Kd.slice 21 (Kd.int .i32)) 22 w' w.heap.size (fun k_ => some k_ ≠ (v7 : Value).ownBlock) v8 x8_1) ∧ Aside0 (Below w.heap.size w w'))
  case atStart => exact ⟨(([] : List Int)), (([] : List (List Int))), (0), (by first | rfl | (simp; done) | (simp [*]; done)), H', ⟨Nat.le_refl _⟩, ⟨by first | exact Kd.R_nil _ _ _ _ _ | exact Kd.N_nil _ _ _ _ _ | exact Kd.V_nil _ _ _ _ _ | exact Kd.Q_nil _ _ _ _ _ | exact Kd.S_nil _ _ _ _ _⟩, ⟨by first | exact Kd.S_nil _ _ _ _ _ | exact Kd.N_nil _ _ _ _ _ | exact Kd.V_nil _ _ _ _ _ | exact Kd.Q_nil _ _ _ _ _ | exact Kd.R_nil _ _ _ _ _⟩, ⟨by repeat (first | (with_reducible first | exact HB.out | apply below_alloc | apply pw_below_drewN | apply below_drew1) | exact HB.out)⟩⟩
  case round =>
    clear H'
    try clear c1
    try clear c2
    try clear p2
    obtain ⟨x7_1, x8_1, x9_1, rfl, HA, HK1, HO_7, HO_8, HB⟩ := hrel
    cases gk with
    | zero => exact absurd HA.out (by simp [credenzaref14_Gather.l0])
    | succ k1 =>
      have H := HA.out
      clear HA
      simp only [credenzaref14_Gather.l0] at H
      by_cases c4 : x9_1 < (l1.length : Int)
      · rw [if_pos c4] at H
        have c4b0 : decide (x9_1 < (l1.length : Int)) = true := decide_eq_true c4
        clear c4
        by_cases c5 : 0 ≤ x9_1
        · rw [if_pos c5] at H
          have c5b0 : decide (0 ≤ x9_1) = true := decide_eq_true c5
          clear c5
          replace H := Option.bind_eq_some_iff.mp H
          obtain ⟨t259, A60, H⟩ := H
          replace H : (if x7_1.length < 35184372088832 then (if x9_1 < (l2.length : Int) then ((credenzaref14_Narrow.f k1 (rd_L8 l2 x9_1)).bind fun t264 => (if x8_1.length < 5864062014805 then (credenzaref14_Gather.l0 k1 l0 l1 l2 (x7_1 ++ [t259]) (x8_1 ++ [t264]) (wrap64 (x9_1 + 1))) else (none))) else (none)) else (none)) = some r := H
          have A6 := Aside0.mk A60
          clear A60
          by_cases c7 : x7_1.length < 35184372088832
          · rw [if_pos c7] at H
            have LMc7 := Aside0.mk c7
            clear c7
            obtain ⟨y260, hy260⟩ : ∃ y_ : List Int, y_ = (x7_1 ++ [t259]) := ⟨_, rfl⟩
            replace H : (if x9_1 < (l2.length : Int) then ((credenzaref14_Narrow.f k1 (rd_L8 l2 x9_1)).bind fun t264 => (if x8_1.length < 5864062014805 then (credenzaref14_Gather.l0 k1 l0 l1 l2 y260 (x8_1 ++ [t264]) (wrap64 (x9_1 + 1))) else (none))) else (none)) = some r := by first | (rw [hy260]; with_reducible exact H) | (have H2_ := (Option.bind_some _ _).symm.trans H; rw [hy260]; with_reducible exact H2_) | (have H2_ := (Option.bind_some _ _).symm.trans H; with_reducible exact H2_) | with_reducible exact H | (rw [hy260]; exact H) | exact H
            have Ny260 := Aside0.mk hy260
            clear hy260
            by_cases c8 : x9_1 < (l2.length : Int)
            · rw [if_pos c8] at H
              have c8b0 : decide (x9_1 < (l2.length : Int)) = true := decide_eq_true c8
              clear c8
              replace H := Option.bind_eq_some_iff.mp H
              obtain ⟨t264, A90, H⟩ := H
              replace H : (if x8_1.length < 5864062014805 then (credenzaref14_Gather.l0 k1 l0 l1 l2 y260 (x8_1 ++ [t264]) (wrap64 (x9_1 + 1))) else (none)) = some r := H
              have A9 := Aside0.mk A90
              clear A90
              by_cases c10 : x8_1.length < 5864062014805
              · rw [if_pos c10] at H
                have LMc10 := Aside0.mk c10
                clear c10
                obtain ⟨y267, hy267⟩ : ∃ y_ : List (List Int), y_ = (x8_1 ++ [t264]) := ⟨_, rfl⟩
                replace H : (credenzaref14_Gather.l0 k1 l0 l1 l2 y260 y267 (wrap64 (x9_1 + 1))) = some r := by first | (rw [hy267]; with_reducible exact H) | (have H2_ := (Option.bind_some _ _).symm.trans H; rw [hy267]; with_reducible exact H2_) | (have H2_ := (Option.bind_some _ _).symm.trans H; with_reducible exact H2_) | with_reducible exact H | (rw [hy267]; exact H) | exact H
                have Ny267 := Aside0.mk hy267
                clear hy267
                have H' := Aside0.mk H
                clear H
                have p258 : 0 ≤ (x9_1 : Int) := of_decide_eq_true (by first | (with_reducible assumption) | assumption)
                have q258 : x9_1 < (l1.length : Int) := of_decide_eq_true (by first | (with_reducible assumption) | assumption)
                obtain ⟨ad258, A258_0, c258_0, e258, hx258_0, hl258_0, hi258_0⟩ := at_L8 HR1.out x9_1 p258 q258
                cases e258
                replace hx258_0 := (HB.out.cell (World.block_lt_of_cell? w _ hx258_0)).trans hx258_0
                have HR258_0 := Aside0.mk hi258_0
                have HC258_0 := Aside0.mk hl258_0
                clear hi258_0 hl258_0
                replace p258 := eq_true p258
                replace q258 := eq_true q258
                go_wp2_with (first | ((with_reducible refine gate_callee (f := 10) rfl ?_); refine goesL_ (some 22) rfl rfl Try.func10 (by kernel_rfl) rfl #[.slice A0 l0.length c0, .slice A258_0 (rd_L8 l1 x9_1).length c258_0] rfl (by (try simp only [List.map_toArray, List.map_cons, List.map_nil]); first | done | rfl | (simp only [List.length_drop, List.length_take]; rfl)) ?_; (with_reducible refine (credenzaref14_Score.calls k1 _ _ l0 _ _ (rd_L8 l1 x9_1) t259 _ ?side1 ?side2 ?side3 ?side4 A6.out).mono ?_); (case side1 => repeat (first | exact (Kd.C_below HR0.out HB.out) | (with_reducible refine Kd.C_alloc ?_ _) | (with_reducible refine Kd.C_drewN ?_ _) | (with_reducible refine Kd.C_drew ?_))); (case side2 => exact HC0.out); (case side3 => repeat (first | exact (Kd.C_below HR258_0.out HB.out) | (with_reducible refine Kd.C_alloc ?_ _) | (with_reducible refine Kd.C_drewN ?_ _) | (with_reducible refine Kd.C_drew ?_))); (case side4 => exact HC258_0.out); rintro e w11 ⟨rfl, hb⟩; refine ⟨_, rfl, ?_⟩; have n0_ := Aside0.mk (Kd.R_below (by (with_reducible repeat (first | apply Kd.R_alloc | apply Kd.R_drewN | apply Kd.R_drew)); exact HO_7.out) hb); have n1_ := Aside0.mk (Kd.S_below (by (with_reducible repeat (first | apply Kd.S_alloc | apply Kd.S_drewN | apply Kd.S_drew)); exact HO_8.out) hb); have n2_ := Aside0.mk (below_step (by repeat (first | (with_reducible first | exact HB.out | apply below_alloc | apply pw_below_drewN | apply below_drew1) | exact HB.out)) hb); clear HO_7; clear HO_8; clear HB; have HO_7 := n0_; have HO_8 := n1_; have HB := n2_; clear n0_ n1_ n2_; (try clear hb); (try clear hb2); (try clear hk); (try clear hi)) | ((with_reducible refine gate_builtin (b := .append) (xs := #[.tmp 16, .tmp 23]) rfl ?_); at_builtin; refine Kd.R_append (Kd.int .i32) (w0 := w) w.heap.size rfl (.tmp 16) (.tmp 23) 22 21 (.int .i32 0) 4 rfl Try.underlying22 info21 rfl (by decide) (by omega) u7 x7_1 t259 [.int .i32 t259] (fun _ => True) (fun _ => False) rfl rfl ?aP (fun _ hk => hk.elim) ?aF ?aO ?aB ?aS ?aL ?_; (case aP => exact rfl); (case aB => exact (by repeat (first | (with_reducible first | exact HB.out | apply below_alloc | apply pw_below_drewN | apply below_drew1) | exact HB.out))); (case aF => exact (fun _ _ => trivial)); (case aO => exact (by (with_reducible repeat (first | apply Kd.R_alloc | apply Kd.R_drewN | apply Kd.R_drew)); exact HO_7.out)); (case aS => exact (below_size (by repeat (first | (with_reducible first | exact HB.out | apply below_alloc | apply pw_below_drewN | apply below_drew1) | exact HB.out)))); (case aL => have := LMc7.out; omega); intro v261 w12 ho hb hg hat; rw [← Ny260.out] at ho; have n0_ := Aside0.mk (Kd.S_after (ok := (fun _ => True)) (by (with_reducible repeat (first | apply Kd.S_alloc | apply Kd.S_drewN | apply Kd.S_drew)); exact Kd.S_mono HO_8.out (fun _ hk => ⟨trivial, hk⟩)) hg hat); have n1_ := Aside0.mk (hb); have n2_ := Aside0.mk (ho); clear HO_8; clear HB; clear HO_7; have HO_8 := n0_; have HB := n1_; have HO262 := n2_; clear n0_ n1_ n2_; clear ho hb hg hat; have p263 : 0 ≤ (x9_1 : Int) := of_decide_eq_true (by first | (with_reducible assumption) | assumption); have q263 : x9_1 < (l2.length : Int) := of_decide_eq_true (by first | (with_reducible assumption) | assumption); obtain ⟨ad263, A263_0, c263_0, e263, hx263_0, hl263_0, hi263_0⟩ := at_L8 HR2.out x9_1 p263 q263; cases e263; replace hx263_0 := (HB.out.cell (World.block_lt_of_cell? w _ hx263_0)).trans hx263_0; have HR263_0 := Aside0.mk hi263_0; have HC263_0 := Aside0.mk hl263_0; clear hi263_0 hl263_0; replace p263 := eq_true p263; replace q263 := eq_true q263) | ((with_reducible refine gate_callee (f := 16) rfl ?_); refine goesL_ (some 30) rfl rfl Try.func16 (by kernel_rfl) rfl #[.slice A263_0 (rd_L8 l2 x9_1).length c263_0] rfl (by (try simp only [List.map_toArray, List.map_cons, List.map_nil]); first | done | rfl | (simp only [List.length_drop, List.length_take]; rfl)) ?_; (with_reducible refine (credenzaref14_Narrow.calls k1 _ _ (rd_L8 l2 x9_1) t264 _ ?side1 ?side2 A9.out).mono ?_); (case side1 => repeat (first | exact (Kd.C_below HR263_0.out HB.out) | (with_reducible refine Kd.C_alloc ?_ _) | (with_reducible refine Kd.C_drewN ?_ _) | (with_reducible refine Kd.C_drew ?_))); (case side2 => exact HC263_0.out); rintro e w13 ⟨v265, rfl, ho0, hb⟩; refine ⟨_, rfl, ?_⟩; have n0_ := Aside0.mk (Kd.S_elder' (by (with_reducible repeat (first | apply Kd.S_alloc | apply Kd.S_drewN | apply Kd.S_drew)); exact HO_8.out) (Kd.R_base ho0) hb); have n1_ := Aside0.mk (Kd.R_elder' (by (with_reducible repeat (first | apply Kd.R_alloc | apply Kd.R_drewN | apply Kd.R_drew)); exact HO262.out) (Kd.R_base ho0) hb); have n2_ := Aside0.mk (Kd.R_lower (Kd.R_new' ho0 (Kd.R_lt (by (with_reducible repeat (first | apply Kd.R_alloc | apply Kd.R_drewN | apply Kd.R_drew)); exact HO262.out))) (below_size (by repeat (first | (with_reducible first | exact HB.out | apply below_alloc | apply pw_below_drewN | apply below_drew1) | exact HB.out)))); have n3_ := Aside0.mk (below_step (by repeat (first | (with_reducible first | exact HB.out | apply below_alloc | apply pw_below_drewN | apply below_drew1) | exact HB.out)) hb); clear HO_8; clear HO262; clear HB; have HO_8 := n0_; have HO262 := n1_; have HO266 := n2_; have HB := n3_; clear n0_ n1_ n2_ n3_; (try clear hb); (try clear hb2); (try clear hk); (try clear hi); (try clear ho0); obtain ⟨Ao15, co15, eo15⟩ := Kd.R_slice HO266.out; subst eo15) | ((with_reducible refine gate_builtin (b := .append) (xs := #[.tmp 25, .tmp 31]) rfl ?_); at_builtin; refine Kd.S_append (Kd.slice 21 (Kd.int .i32)) (w0 := w) w.heap.size rfl (.tmp 25) (.tmp 31) 29 22 (.slice none 0 0) 24 rfl Try.underlying29 info22 rfl (by decide) (by omega) u8 x8_1 t264 [.slice Ao15 t264.length co15] (fun k_ => some k_ ≠ (v261 : Value).ownBlock) (fun k_ => some k_ = (.slice Ao15 t264.length co15 : Value).ownBlock) rfl rfl ?aP (fun k_ hk_ => ((Kd.R_mono (ok' := fun k_ => ((fun k_ => some k_ ≠ (v261 : Value).ownBlock)) k_ ∧ some k_ ≠ (u8 : Value).ownBlock) (Kd.R_apart' (HO266.out) (Kd.S_typed HO_8.out) (by decide)) (fun k_ hk => ⟨hk.1.2, hk.2⟩))).1 k_ hk_.symm) ?aF ?aO ?aB ?aS ?aL ?_; (case aP => exact Kd.M_row (Kd.R_mono (Kd.R_tight rfl (Kd.R_mono (ok' := fun k_ => ((fun k_ => some k_ ≠ (v261 : Value).ownBlock)) k_ ∧ some k_ ≠ (u8 : Value).ownBlock) (Kd.R_apart' (HO266.out) (Kd.S_typed HO_8.out) (by decide)) (fun k_ hk => ⟨hk.1.2, hk.2⟩))) (fun _ h_ => h_))); (case aB => exact (by repeat (first | (with_reducible first | exact HB.out | apply below_alloc | apply pw_below_drewN | apply below_drew1) | exact HB.out))); (case aF => exact (fun k_ hk => Kd.fresh' (Kd.R_lt (by (with_reducible repeat (first | apply Kd.R_alloc | apply Kd.R_drewN | apply Kd.R_drew)); exact HO262.out)) k_ hk)); (case aO => exact (by (with_reducible repeat (first | apply Kd.S_alloc | apply Kd.S_drewN | apply Kd.S_drew)); exact Kd.S_mono HO_8.out (fun k_ hk => ⟨hk.1.2, fun e_ => hk.2 e_⟩))); (case aS => exact (below_size (by repeat (first | (with_reducible first | exact HB.out | apply below_alloc | apply pw_below_drewN | apply below_drew1) | exact HB.out)))); (case aL => have := LMc10.out; omega); intro v268 w14 ho hb hg hat; rw [← Ny267.out] at ho; have n0_ := Aside0.mk (Kd.R_over' (by (with_reducible repeat (first | apply Kd.R_alloc | apply Kd.R_drewN | apply Kd.R_drew)); exact HO262.out) (Kd.S_typed (by (with_reducible repeat (first | apply Kd.S_alloc | apply Kd.S_drewN | apply Kd.S_drew)); exact HO_8.out)) (by decide) hg); have n1_ := Aside0.mk (hb); have n2_ := Aside0.mk (ho); clear HO262; clear HB; clear HO_8; clear HO266; have HO262 := n0_; have HB := n1_; have HO269 := n2_; clear n0_ n1_ n2_; clear ho hb hg hat))
                go_roundg k1
                case measure => have := HK1.out; omega
                case rel => exact ⟨(y260), (y267), (wrap64 (x9_1 + 1)), (by first | rfl | (simp; done) | (simp [*]; done)), H', ⟨by have := HK1.out; omega⟩, ⟨by (with_reducible repeat (first | apply Kd.R_alloc | apply Kd.R_drewN | apply Kd.R_drew)); exact Kd.R_mono HO262.out (fun _ hk => trivial)⟩, ⟨by (with_reducible repeat (first | apply Kd.S_alloc | apply Kd.S_drewN | apply Kd.S_drew)); exact HO269.out⟩, ⟨by repeat (first | (with_reducible first | exact HB.out | apply below_alloc | apply pw_below_drewN | apply below_drew1) | exact HB.out)⟩⟩
              · rw [if_neg c10] at H
                exact absurd H (by simp)
            · rw [if_neg c8] at H
              exact absurd H (by simp)
          · rw [if_neg c7] at H
            exact absurd H (by simp)
        · rw [if_neg c5] at H
          exact absurd H (by simp)
      · rw [if_neg c4] at H
        have c4b0 : decide (x9_1 < (l1.length : Int)) = false := decide_eq_false c4
        clear c4
        replace H := Option.bind_eq_some_iff.mp H
        obtain ⟨t270, A160, H⟩ := H
        replace H : ((credenzaref04_Mix.f k1 t270 x8_1).bind fun t273 => (some t273)) = some r := H
        have A16 := Aside0.mk A160
        clear A160
        replace H := Option.bind_eq_some_iff.mp H
        obtain ⟨t273, A170, H⟩ := H
        replace H : (some t273) = some r := H
        have A17 := Aside0.mk A170
        clear A170
        obtain rfl := Option.some.inj H
        obtain ⟨Ao18, co18, eo18⟩ := Kd.R_slice HO_7.out
        subst eo18
        go_wp2_with (first | ((with_reducible refine gate_callee (f := 33) rfl ?_); refine goesL_ (some 34) rfl rfl Try.func33 (by kernel_rfl) rfl #[.slice Ao18 x7_1.length co18] rfl (by (try simp only [List.map_toArray, List.map_cons, List.map_nil]); first | done | rfl | (simp only [List.length_drop, List.length_take]; rfl)) ?_; (with_reducible refine (credenzaref04_Weights.calls k1 _ _ x7_1 t270 _ ?side1 ?side2 A16.out).mono ?_); (case side1 => repeat (first | exact (Kd.R_reads' HO_7.out).2.2 | (with_reducible refine Kd.C_alloc ?_ _) | (with_reducible refine Kd.C_drewN ?_ _) | (with_reducible refine Kd.C_drew ?_))); (case side2 => exact (Kd.R_reads' HO_7.out).2.1); rintro e w19 ⟨v271, rfl, ho0, hb⟩; refine ⟨_, rfl, ?_⟩; have n0_ := Aside0.mk (Kd.R_below (by (with_reducible repeat (first | apply Kd.R_alloc | apply Kd.R_drewN | apply Kd.R_drew)); exact HO_7.out) hb); have n1_ := Aside0.mk (Kd.S_below (by (with_reducible repeat (first | apply Kd.S_alloc | apply Kd.S_drewN | apply Kd.S_drew)); exact HO_8.out) hb); have n2_ := Aside0.mk (Kd.R_lower ho0 (below_size (by repeat (first | (with_reducible first | exact HB.out | apply below_alloc | apply pw_below_drewN | apply below_drew1) | exact HB.out)))); have n3_ := Aside0.mk (below_step (by repeat (first | (with_reducible first | exact HB.out | apply below_alloc | apply pw_below_drewN | apply below_drew1) | exact HB.out)) hb); clear HO_7; clear HO_8; clear HB; have HO_7 := n0_; have HO_8 := n1_; have HO272 := n2_; have HB := n3_; clear n0_ n1_ n2_ n3_; (try clear hb); (try clear hb2); (try clear hk); (try clear hi); (try clear ho0); obtain ⟨Ao20, co20, eo20⟩ := Kd.R_slice HO272.out; subst eo20; obtain ⟨Ao21, co21, eo21⟩ := Kd.S_slice HO_8.out; subst eo21) | ((with_reducible refine gate_callee (f := 32) rfl ?_); refine goesL_ (some 36) rfl rfl Try.func32 (by kernel_rfl) rfl #[.slice Ao20 t270.length co20, .slice Ao21 x8_1.length co21] rfl (by (try simp only [List.map_toArray, List.map_cons, List.map_nil]); first | done | rfl | (simp only [List.length_drop, List.length_take]; rfl)) ?_; (with_reducible refine (credenzaref04_Mix.calls k1 _ _ t270 _ _ x8_1 t273 _ ?side1 ?side2 ?side3 ?side4 A17.out).mono ?_); (case side1 => repeat (first | exact (Kd.R_reads' HO272.out).2.2 | (with_reducible refine Kd.C_alloc ?_ _) | (with_reducible refine Kd.C_drewN ?_ _) | (with_reducible refine Kd.C_drew ?_))); (case side2 => exact (Kd.R_reads' HO272.out).2.1); (case side3 => repeat (first | exact (Kd.S_reads' HO_8.out).2.2 | (with_reducible refine Kd.C_alloc ?_ _) | (with_reducible refine Kd.C_drewN ?_ _) | (with_reducible refine Kd.C_drew ?_))); (case side4 => exact (Kd.S_reads' HO_8.out).2.1); rintro e w22 ⟨v274, rfl, ho0, hb⟩; refine ⟨_, rfl, ?_⟩; have n0_ := Aside0.mk (Kd.R_elder' (by (with_reducible repeat (first | apply Kd.R_alloc | apply Kd.R_drewN | apply Kd.R_drew)); exact HO_7.out) (Kd.R_base ho0) hb); have n1_ := Aside0.mk (Kd.S_elder' (by (with_reducible repeat (first | apply Kd.S_alloc | apply Kd.S_drewN | apply Kd.S_drew)); exact HO_8.out) (Kd.R_base ho0) hb); have n2_ := Aside0.mk (Kd.R_below (by (with_reducible repeat (first | apply Kd.R_alloc | apply Kd.R_drewN | apply Kd.R_drew)); exact HO272.out) hb); have n3_ := Aside0.mk (Kd.R_lower (Kd.R_new' ho0 (Kd.R_lt (by (with_reducible repeat (first | apply Kd.R_alloc | apply Kd.R_drewN | apply Kd.R_drew)); exact HO_7.out))) (below_size (by repeat (first | (with_reducible first | exact HB.out | apply below_alloc | apply pw_below_drewN | apply below_drew1) | exact HB.out)))); have n4_ := Aside0.mk (below_step (by repeat (first | (with_reducible first | exact HB.out | apply below_alloc | apply pw_below_drewN | apply below_drew1) | exact HB.out)) hb); clear HO_7; clear HO_8; clear HO272; clear HB; have HO_7 := n0_; have HO_8 := n1_; have HO272 := n2_; have HO275 := n3_; have HB := n4_; clear n0_ n1_ n2_ n3_ n4_; (try clear hb); (try clear hb2); (try clear hk); (try clear hi); (try clear ho0)))
        go_ret
        exact ⟨_, by first | rfl | (simp [errW_none, errW_some] <;> rfl) | (simp [*, errW_none, errW_some] <;> rfl), by (with_reducible repeat (first | apply Kd.R_alloc | apply Kd.R_drewN | apply Kd.R_drew)); exact Kd.R_mono HO275.out (fun _ hk => trivial), by repeat (first | (with_reducible first | exact HB.out | apply below_alloc | apply pw_below_drewN | apply below_drew1) | exact HB.out)⟩

end Go.Proofs.Yteflolamihhmdaa.Q

namespace Go.Proofs.Yteflolamihhmdaa.Q
open Go.RowKit Go.Proofs.YteflolamihhmdaaW.PrintWords Go.Proofs.YteflolamihhmdaaW.PrintLast Go.Proofs.YteflolamihhmdaaW.PrintMore
attribute [local go_sem] max2_int min2_int max_two min_two max_three min_three max_four min_four   -- for this text's walks alone
set_option linter.unusedVariables false
set_option linter.unusedSimpArgs false

/-! ### credenzaref14_Right: function 13 -/
mutual
def credenzaref14_Right.j0 : Nat → List (List Int) → List (List Int) → Int → Bool → Option (Int)
  | 0, _, _, _, _ => none
  | k + 1, x1, x2, x7, x37 => if x37 = true then (some 25) else (credenzaref14_Right.l0 k x1 x2 x7 0)
def credenzaref14_Right.l0 : Nat → List (List Int) → List (List Int) → Int → Int → Option (Int)
  | 0, _, _, _, _ => none
  | k + 1, x1, x2, x7, x8 => if x8 < (x1.length : Int) then (if 0 ≤ x8 then (if ((rd_L8 x1 x8).length : Int) = x7 then (if x8 < (x2.length : Int) then (if ((rd_L8 x2 x8).length : Int) = x7 then (credenzaref14_Right.l0 k x1 x2 x7 (wrap64 (x8 + 1))) else (some 25)) else (none)) else (some 25)) else (none)) else (some 0)
end
def credenzaref14_Right.f (k : Nat) (l0 : List Int) (l1 : List (List Int)) (l2 : List (List Int)) : Option (Int) := if (l1.length : Int) = 0 then (some 14) else (if (l1.length : Int) > 1024 then (some 12) else (if 0 < (l1.length : Int) then (if (l2.length : Int) = (l1.length : Int) then (if (l0.length : Int) = ((rd_L8 l1 0).length : Int) then (if ((rd_L8 l1 0).length : Int) < 1 then (credenzaref14_Right.j0 k l1 l2 ((rd_L8 l1 0).length : Int) true) else (credenzaref14_Right.j0 k l1 l2 ((rd_L8 l1 0).length : Int) (decide (((rd_L8 l1 0).length : Int) > 16)))) else (credenzaref14_Right.j0 k l1 l2 ((rd_L8 l1 0).length : Int) true)) else (credenzaref14_Right.j0 k l1 l2 ((rd_L8 l1 0).length : Int) true)) else (none)))
theorem credenzaref14_Right.mono_l : ∀ k, (∀ y0 y1 y2 y3, LeO (credenzaref14_Right.j0 k y0 y1 y2 y3) (credenzaref14_Right.j0 (k + 1) y0 y1 y2 y3)) ∧ (∀ y0 y1 y2 y3, LeO (credenzaref14_Right.l0 k y0 y1 y2 y3) (credenzaref14_Right.l0 (k + 1) y0 y1 y2 y3))
  | 0 => ⟨fun _ _ _ _ r h => by simp [credenzaref14_Right.j0] at h, fun _ _ _ _ r h => by simp [credenzaref14_Right.l0] at h⟩
  | k + 1 => by
    obtain ⟨ih0, ih1⟩ := credenzaref14_Right.mono_l k
    refine ⟨?_, ?_⟩
    · intro y0 y1 y2 y3
      unfold credenzaref14_Right.j0
      repeat' first
      | (with_reducible exact ih0 _ _ _ _)
      | (with_reducible exact ih1 _ _ _ _)
      | (with_reducible exact LeO.refl _)
      | (with_reducible exact LeO.none _)
      | (with_reducible refine LeO.ite ?_ ?_)
      | (with_reducible refine LeO.bind ?_ (fun _ => ?_))
      | exact ih0 _ _ _ _
      | exact ih1 _ _ _ _
      | exact LeO.none _
      | refine LeO.ite ?_ ?_
      | refine LeO.bind ?_ (fun _ => ?_)
    · intro y0 y1 y2 y3
      unfold credenzaref14_Right.l0
      repeat' first
      | (with_reducible exact ih0 _ _ _ _)
      | (with_reducible exact ih1 _ _ _ _)
      | (with_reducible exact LeO.refl _)
      | (with_reducible exact LeO.none _)
      | (with_reducible refine LeO.ite ?_ ?_)
      | (with_reducible refine LeO.bind ?_ (fun _ => ?_))
      | exact ih0 _ _ _ _
      | exact ih1 _ _ _ _
      | exact LeO.none _
      | refine LeO.ite ?_ ?_
      | refine LeO.bind ?_ (fun _ => ?_)
theorem credenzaref14_Right.mono : ∀ a0 a1 a2 k, LeO (credenzaref14_Right.f k a0 a1 a2) (credenzaref14_Right.f (k + 1) a0 a1 a2) := by
  intro a0 a1 a2 k
  obtain ⟨ih0, ih1⟩ := credenzaref14_Right.mono_l k
  unfold credenzaref14_Right.f
  repeat' first
      | (with_reducible exact ih0 _ _ _ _)
      | (with_reducible exact ih1 _ _ _ _)
      | (with_reducible exact LeO.refl _)
      | (with_reducible exact LeO.none _)
      | (with_reducible refine LeO.ite ?_ ?_)
      | (with_reducible refine LeO.bind ?_ (fun _ => ?_))
      | exact ih0 _ _ _ _
      | exact ih1 _ _ _ _
      | exact LeO.none _
      | refine LeO.ite ?_ ?_
      | refine LeO.bind ?_ (fun _ => ?_)
set_option maxHeartbeats 8000000 in
set_option maxRecDepth 100000 in
theorem credenzaref14_Right.calls (k : Nat) (A0 : Option Addr) (c0 : Nat) (l0 : List Int) (A1 : Option Addr) (c1 : Nat) (l1 : List (List Int)) (A2 : Option Addr) (c2 : Nat) (l2 : List (List Int)) (r : Int) (w : World) (hr0 : Kd.C (Kd.int .i32) w A0 l0.length l0) (hc0 : l0.length ≤ c0) (hr1 : Kd.C (Kd.slice 21 (Kd.int .i32)) w A1 l1.length l1) (hc1 : l1.length ≤ c1) (hr2 : Kd.C (Kd.slice 21 (Kd.int .i32)) w A2 l2.length l2) (hc2 : l2.length ≤ c2) (h : credenzaref14_Right.f k l0 l1 l2 = some r) :
    Calls Try.prog 13 #[.slice A0 l0.length c0, .slice A1 l1.length c1, .slice A2 l2.length c2] w fun e w' => e = .returned (.int .i64 r) ∧ Drawn0 w w' := by
  have HR0 := Aside0.mk hr0
  have HC0 := Aside0.mk hc0
  clear hr0 hc0
  have HR1 := Aside0.mk hr1
  have HC1 := Aside0.mk hc1
  clear hr1 hc1
  have HR2 := Aside0.mk hr2
  have HC2 := Aside0.mk hc2
  clear hr2 hc2
  have H : (if (l1.length : Int) = 0 then (some 14) else (if (l1.length : Int) > 1024 then (some 12) else (if 0 < (l1.length : Int) then (if (l2.length : Int) = (l1.length : Int) then (if (l0.length : Int) = ((rd_L8 l1 0).length : Int) then (if ((rd_L8 l1 0).length : Int) < 1 then (credenzaref14_Right.j0 k l1 l2 ((rd_L8 l1 0).length : Int) true) else (credenzaref14_Right.j0 k l1 l2 ((rd_L8 l1 0).length : Int) (decide (((rd_L8 l1 0).length : Int) > 16)))) else (credenzaref14_Right.j0 k l1 l2 ((rd_L8 l1 0).length : Int) true)) else (credenzaref14_Right.j0 k l1 l2 ((rd_L8 l1 0).length : Int) true)) else (none)))) = some r := h
  clear h
  by_cases c4 : (l1.length : Int) = 0
  · rw [if_pos c4] at H
    have c4b0 : ((l1.length : Int) == 0) = true := beq_iff_eq.mpr c4
    have c4b1 : ((l1.length : Int) != 0) = false := bne_eq_false_iff_eq.mpr c4
    clear c4
    obtain rfl := Option.some.inj H
    go_enter Try.func13, Try.ntmps13
    go_wp2
    go_ret
    exact ⟨by first | rfl | (simp; done) | (simp [*]; done), by repeat (first | exact Drawn0.refl _ | apply Drawn0.step)⟩
  · rw [if_neg c4] at H
    have c4b0 : ((l1.length : Int) == 0) = false := beq_eq_false_iff_ne.mpr c4
    have c4b1 : ((l1.length : Int) != 0) = true := bne_iff_ne.mpr c4
    have c4b2 : ¬ (l1 = []) := fun h_ => c4 (by rw [h_]; rfl)
    by_cases c5 : (l1.length : Int) > 1024
    · rw [if_pos c5] at H
      have c5b0 : decide (1024 < (l1.length : Int)) = true := decide_eq_true c5
      have c5b1 : decide (1024 < l1.length) = true := decide_eq_true (by omega)
      clear c5
      obtain rfl := Option.some.inj H
      go_enter Try.func13, Try.ntmps13
      go_wp2
      go_ret
      exact ⟨by first | rfl | (simp; done) | (simp [*]; done), by repeat (first | exact Drawn0.refl _ | apply Drawn0.step)⟩
    · rw [if_neg c5] at H
      have c5b0 : decide (1024 < (l1.length : Int)) = false := decide_eq_false c5
      have c5b1 : decide (1024 < l1.length) = false := decide_eq_false (by omega)
      clear c5
      by_cases c6 : 0 < (l1.length : Int)
      · rw [if_pos c6] at H
        have c6b0 : decide (0 < (l1.length : Int)) = true := decide_eq_true c6
        have c6b1 : decide (0 < l1.length) = true := decide_eq_true (by omega)
        clear c6
        have HC7 := Aside0.mk H
        clear H
        have p226 : 0 ≤ (0 : Int) := (by omega)
        have q226 : 0 < (l1.length : Int) := of_decide_eq_true (by first | (with_reducible assumption) | assumption)
        obtain ⟨ad226, A226_0, c226_0, e226, hx226_0, hl226_0, hi226_0⟩ := at_L8 HR1.out 0 p226 q226
        cases e226
        have qi226 : (0 < l1.length) = True := eq_true (by omega)
        (try rw [show ((0 : Int)).toNat = 0 from rfl] at hx226_0)
        (try rw [Addr.add_zero'] at hx226_0)
        have HR226_0 := Aside0.mk hi226_0
        have HC226_0 := Aside0.mk hl226_0
        clear hi226_0 hl226_0
        replace p226 := eq_true p226
        replace q226 := eq_true q226
        go_enter Try.func13, Try.ntmps13
        go_upto_region 6 with (fail)
        go_cut [37] (fun v37 wc => ∃ (kq : Nat) (x37_6 : Bool), v37 = .bool x37_6 ∧ Aside0 (credenzaref14_Right.j0 kq l1 l2 ((rd_L8 l1 0).length : Int) x37_6 = some r) ∧ Aside0 (kq ≤ k) ∧ Drawn0 w wc)
        case first =>
          have H := HC7.out
          clear HC7
          by_cases c8 : (l2.length : Int) = (l1.length : Int)
          · rw [if_pos c8] at H
            have c8b0 : ((l2.length : Int) == (l1.length : Int)) = true := beq_iff_eq.mpr c8
            have c8b1 : ((l2.length : Int) != (l1.length : Int)) = false := bne_eq_false_iff_eq.mpr c8
            have c8b2 : (l2.length == l1.length) = true := by first | simpa using c8 | (simp at c8 ⊢; omega)
            clear c8
            (first | rw [c8b0] | (simp only [i64_w, i32_w]; rw [c8b0]) | skip)
            by_cases c9 : (l0.length : Int) = ((rd_L8 l1 0).length : Int)
            · rw [if_pos c9] at H
              have c9b0 : ((l0.length : Int) == ((rd_L8 l1 0).length : Int)) = true := beq_iff_eq.mpr c9
              have c9b1 : ((l0.length : Int) != ((rd_L8 l1 0).length : Int)) = false := bne_eq_false_iff_eq.mpr c9
              have c9b2 : (l0.length == (rd_L8 l1 0).length) = true := by first | simpa using c9 | (simp at c9 ⊢; omega)
              clear c9
              by_cases c10 : ((rd_L8 l1 0).length : Int) < 1
              · rw [if_pos c10] at H
                have c10b0 : decide (((rd_L8 l1 0).length : Int) < 1) = true := decide_eq_true c10
                have c10b1 : decide ((rd_L8 l1 0).length < 1) = true := decide_eq_true (by omega)
                clear c10
                have H' := Aside0.mk H
                clear H
                go_wp2
                go_meet
                case rel => exact ⟨_, (true), (by first | rfl | (simp; done) | (simp [*]; done)), H', ⟨by first | omega | exact Nat.le_refl _⟩, by repeat (first | exact Drawn0.refl _ | apply Drawn0.step)⟩
              · rw [if_neg c10] at H
                have c10b0 : decide (((rd_L8 l1 0).length : Int) < 1) = false := decide_eq_false c10
                have c10b1 : decide ((rd_L8 l1 0).length < 1) = false := decide_eq_false (by omega)
                clear c10
                have H' := Aside0.mk H
                clear H
                go_wp2
                go_meet
                case rel => exact ⟨_, (decide (((rd_L8 l1 0).length : Int) > 16)), (by first | rfl | (simp; done) | (simp [*]; done)), H', ⟨by first | omega | exact Nat.le_refl _⟩, by repeat (first | exact Drawn0.refl _ | apply Drawn0.step)⟩
            · rw [if_neg c9] at H
              have c9b0 : ((l0.length : Int) == ((rd_L8 l1 0).length : Int)) = false := beq_eq_false_iff_ne.mpr c9
              have c9b1 : ((l0.length : Int) != ((rd_L8 l1 0).length : Int)) = true := bne_iff_ne.mpr c9
              have c9b2 : (l0.length == (rd_L8 l1 0).length) = false := by first | simpa using c9 | (simp at c9 ⊢; omega)
              have H' := Aside0.mk H
              clear H
              go_wp2
              go_meet
              case rel => exact ⟨_, (true), (by first | rfl | (simp; done) | (simp [*]; done)), H', ⟨by first | omega | exact Nat.le_refl _⟩, by repeat (first | exact Drawn0.refl _ | apply Drawn0.step)⟩
          · rw [if_neg c8] at H
            have c8b0 : ((l2.length : Int) == (l1.length : Int)) = false := beq_eq_false_iff_ne.mpr c8
            have c8b1 : ((l2.length : Int) != (l1.length : Int)) = true := bne_iff_ne.mpr c8
            have c8b2 : (l2.length == l1.length) = false := by first | simpa using c8 | (simp at c8 ⊢; omega)
            (first | rw [c8b0] | (simp only [i64_w, i32_w]; rw [c8b0]) | skip)
            have H' := Aside0.mk H
            clear H
            go_wp2
            go_meet
            case rel => exact ⟨_, (true), (by first | rfl | (simp; done) | (simp [*]; done)), H', ⟨by first | omega | exact Nat.le_refl _⟩, by repeat (first | exact Drawn0.refl _ | apply Drawn0.step)⟩
        case rest =>
          clear HC7
          try clear c1
          try clear c2
          try clear p2
          try clear q2
          try clear hx2
          try clear qi2
          try clear c4
          try clear c4b0
          try clear c4b1
          try clear c4b2
          try clear c5
          try clear c5b0
          try clear c5b1
          try clear c6
          try clear c6b0
          try clear c6b1
          try clear c8
          try clear c8b0
          try clear c8b1
          try clear c8b2
          try clear c9
          try clear c9b0
          try clear c9b1
          try clear c9b2
          try clear c10
          try clear c10b0
          try clear c10b1
          try clear hx226_0
          try clear p226
          try clear q226
          obtain ⟨kq, x37_6, rfl, HA, HJ6, ⟨mc6, rfl⟩⟩ := hcut
          cases kq with
          | zero => exact absurd HA.out (by simp [credenzaref14_Right.j0])
          | succ kj6 =>
            have H := HA.out
            clear HA
            simp only [credenzaref14_Right.j0] at H
            by_cases c11 : x37_6 = true
            · subst c11
              have H1 : (some 25) = some r := by rw [if_pos rfl] at H; exact H
              clear H
              have H := H1
              clear H1
              obtain rfl := Option.some.inj H
              go_wp2
              go_ret
              exact ⟨by first | rfl | (simp; done) | (simp [*]; done), by repeat (first | exact Drawn0.refl _ | apply Drawn0.step)⟩
            · replace c11 := Bool.eq_false_iff.mpr c11
              subst c11
              have H1 : (credenzaref14_Right.l0 kj6 l1 l2 ((rd_L8 l1 0).length : Int) 0) = some r := by rw [if_neg (show ¬ (false = true) by decide)] at H; exact H
              clear H
              have H := H1
              clear H1
              have H' := Aside0.mk H
              clear H
              go_wp2
              go_loopg [8] kj6 (fun kq v8 w' => ∃ (x8_2 : Int), v8 = .int .i64 x8_2 ∧ Aside0 (credenzaref14_Right.l0 kq l1 l2 ((rd_L8 l1 0).length : Int) x8_2 = some r) ∧ Aside0 (kq ≤ kj6) ∧ Drawn0 w w')
              case atStart => exact ⟨(0), (by first | rfl | (simp; done) | (simp [*]; done)), H', ⟨Nat.le_refl _⟩, by repeat (first | exact Drawn0.refl _ | apply Drawn0.step)⟩
              case round =>
                clear H'
                try clear c1
                try clear c2
                try clear p2
                try clear q2
                try clear hx2
                try clear qi2
                try clear c4
                try clear c4b0
                try clear c4b1
                try clear c4b2
                try clear c5
                try clear c5b0
                try clear c5b1
                try clear c6
                try clear c6b0
                try clear c6b1
                try clear c8
                try clear c8b0
                try clear c8b1
                try clear c8b2
                try clear c9
                try clear c9b0
                try clear c9b1
                try clear c9b2
                try clear c10
                try clear c10b0
                try clear c10b1
                try clear c11
                try clear hx226_0
                try clear p2
                try clear p226
                try clear q2
                try clear q226
                obtain ⟨x8_2, rfl, HA, HK2, ⟨m2, rfl⟩⟩ := hrel
                cases gk with
                | zero => exact absurd HA.out (by simp [credenzaref14_Right.l0])
                | succ k2 =>
                  have H := HA.out
                  clear HA
                  simp only [credenzaref14_Right.l0] at H
                  by_cases c12 : x8_2 < (l1.length : Int)
                  · rw [if_pos c12] at H
                    have c12b0 : decide (x8_2 < (l1.length : Int)) = true := decide_eq_true c12
                    clear c12
                    by_cases c13 : 0 ≤ x8_2
                    · rw [if_pos c13] at H
                      have c13b0 : decide (0 ≤ x8_2) = true := decide_eq_true c13
                      clear c13
                      by_cases c14 : ((rd_L8 l1 x8_2).length : Int) = ((rd_L8 l1 0).length : Int)
                      · rw [if_pos c14] at H
                        have c14b0 : (((rd_L8 l1 x8_2).length : Int) == ((rd_L8 l1 0).length : Int)) = true := beq_iff_eq.mpr c14
                        have c14b1 : (((rd_L8 l1 x8_2).length : Int) != ((rd_L8 l1 0).length : Int)) = false := bne_eq_false_iff_eq.mpr c14
                        have c14b2 : ((rd_L8 l1 x8_2).length == (rd_L8 l1 0).length) = true := by first | simpa using c14 | (simp at c14 ⊢; omega)
                        clear c14
                        by_cases c15 : x8_2 < (l2.length : Int)
                        · rw [if_pos c15] at H
                          have c15b0 : decide (x8_2 < (l2.length : Int)) = true := decide_eq_true c15
                          clear c15
                          by_cases c16 : ((rd_L8 l2 x8_2).length : Int) = ((rd_L8 l1 0).length : Int)
                          · rw [if_pos c16] at H
                            have c16b0 : (((rd_L8 l2 x8_2).length : Int) == ((rd_L8 l1 0).length : Int)) = true := beq_iff_eq.mpr c16
                            have c16b1 : (((rd_L8 l2 x8_2).length : Int) != ((rd_L8 l1 0).length : Int)) = false := bne_eq_false_iff_eq.mpr c16
                            have c16b2 : ((rd_L8 l2 x8_2).length == (rd_L8 l1 0).length) = true := by first | simpa using c16 | (simp at c16 ⊢; omega)
                            clear c16
                            have H' := Aside0.mk H
                            clear H
                            have p227 : 0 ≤ (x8_2 : Int) := of_decide_eq_true (by first | (with_reducible assumption) | assumption)
                            have q227 : x8_2 < (l1.length : Int) := of_decide_eq_true (by first | (with_reducible assumption) | assumption)
                            obtain ⟨ad227, A227_0, c227_0, e227, hx227_0, hl227_0, hi227_0⟩ := at_L8 HR1.out x8_2 p227 q227
                            obtain rfl : ad226 = ad227 := (by injection e227)
                            have HR227_0 := Aside0.mk hi227_0
                            have HC227_0 := Aside0.mk hl227_0
                            clear hi227_0 hl227_0
                            replace p227 := eq_true p227
                            replace q227 := eq_true q227
                            have p228 : 0 ≤ (x8_2 : Int) := of_decide_eq_true (by first | (with_reducible assumption) | assumption)
                            have q228 : x8_2 < (l2.length : Int) := of_decide_eq_true (by first | (with_reducible assumption) | assumption)
                            obtain ⟨ad228, A228_0, c228_0, e228, hx228_0, hl228_0, hi228_0⟩ := at_L8 HR2.out x8_2 p228 q228
                            cases e228
                            have HR228_0 := Aside0.mk hi228_0
                            have HC228_0 := Aside0.mk hl228_0
                            clear hi228_0 hl228_0
                            replace p228 := eq_true p228
                            replace q228 := eq_true q228
                            go_wp2
                            go_roundg k2
                            case measure => have := HJ6.out; have := HK2.out; omega
                            case rel => exact ⟨(wrap64 (x8_2 + 1)), (by first | rfl | (simp; done) | (simp [*]; done)), H', ⟨by have := HJ6.out; have := HK2.out; omega⟩, by repeat (first | exact Drawn0.refl _ | apply Drawn0.step)⟩
                          · rw [if_neg c16] at H
                            have c16b0 : (((rd_L8 l2 x8_2).length : Int) == ((rd_L8 l1 0).length : Int)) = false := beq_eq_false_iff_ne.mpr c16
                            have c16b1 : (((rd_L8 l2 x8_2).length : Int) != ((rd_L8 l1 0).length : Int)) = true := bne_iff_ne.mpr c16
                            have c16b2 : ((rd_L8 l2 x8_2).length == (rd_L8 l1 0).length) = false := by first | simpa using c16 | (simp at c16 ⊢; omega)
                            obtain rfl := Option.some.inj H
                            have p227 : 0 ≤ (x8_2 : Int) := of_decide_eq_true (by first | (with_reducible assumption) | assumption)
                            have q227 : x8_2 < (l1.length : Int) := of_decide_eq_true (by first | (with_reducible assumption) | assumption)
                            obtain ⟨ad227, A227_0, c227_0, e227, hx227_0, hl227_0, hi227_0⟩ := at_L8 HR1.out x8_2 p227 q227
                            obtain rfl : ad226 = ad227 := (by injection e227)
                            have HR227_0 := Aside0.mk hi227_0
                            have HC227_0 := Aside0.mk hl227_0
                            clear hi227_0 hl227_0
                            replace p227 := eq_true p227
                            replace q227 := eq_true q227
                            have p228 : 0 ≤ (x8_2 : Int) := of_decide_eq_true (by first | (with_reducible assumption) | assumption)
                            have q228 : x8_2 < (l2.length : Int) := of_decide_eq_true (by first | (with_reducible assumption) | assumption)
                            obtain ⟨ad228, A228_0, c228_0, e228, hx228_0, hl228_0, hi228_0⟩ := at_L8 HR2.out x8_2 p228 q228
                            cases e228
                            have HR228_0 := Aside0.mk hi228_0
                            have HC228_0 := Aside0.mk hl228_0
                            clear hi228_0 hl228_0
                            replace p228 := eq_true p228
                            replace q228 := eq_true q228
                            go_wp2
                            go_ret
                            exact ⟨by first | rfl | (simp; done) | (simp [*]; done), by repeat (first | exact Drawn0.refl _ | apply Drawn0.step)⟩
                        · rw [if_neg c15] at H
                          exact absurd H (by simp)
                      · rw [if_neg c14] at H
                        have c14b0 : (((rd_L8 l1 x8_2).length : Int) == ((rd_L8 l1 0).length : Int)) = false := beq_eq_false_iff_ne.mpr c14
                        have c14b1 : (((rd_L8 l1 x8_2).length : Int) != ((rd_L8 l1 0).length : Int)) = true := bne_iff_ne.mpr c14
                        have c14b2 : ((rd_L8 l1 x8_2).length == (rd_L8 l1 0).length) = false := by first | simpa using c14 | (simp at c14 ⊢; omega)
                        obtain rfl := Option.some.inj H
                        have p227 : 0 ≤ (x8_2 : Int) := of_decide_eq_true (by first | (with_reducible assumption) | assumption)
                        have q227 : x8_2 < (l1.length : Int) := of_decide_eq_true (by first | (with_reducible assumption) | assumption)
                        obtain ⟨ad227, A227_0, c227_0, e227, hx227_0, hl227_0, hi227_0⟩ := at_L8 HR1.out x8_2 p227 q227
                        obtain rfl : ad226 = ad227 := (by injection e227)
                        have HR227_0 := Aside0.mk hi227_0
                        have HC227_0 := Aside0.mk hl227_0
                        clear hi227_0 hl227_0
                        replace p227 := eq_true p227
                        replace q227 := eq_true q227
                        go_wp2
                        go_ret
                        exact ⟨by first | rfl | (simp; done) | (simp [*]; done), by repeat (first | exact Drawn0.refl _ | apply Drawn0.step)⟩
                    · rw [if_neg c13] at H
                      exact absurd H (by simp)
                  · rw [if_neg c12] at H
                    have c12b0 : decide (x8_2 < (l1.length : Int)) = false := decide_eq_false c12
                    clear c12
                    obtain rfl := Option.some.inj H
                    go_wp2
                    go_ret
                    exact ⟨by first | rfl | (simp; done) | (simp [*]; done), by repeat (first | exact Drawn0.refl _ | apply Drawn0.step)⟩
      · rw [if_neg c6] at H
        exact absurd H (by simp)

end Go.Proofs.Yteflolamihhmdaa.Q

namespace Go.Proofs.Yteflolamihhmdaa.Q
open Go.RowKit Go.Proofs.YteflolamihhmdaaW.PrintWords Go.Proofs.YteflolamihhmdaaW.PrintLast Go.Proofs.YteflolamihhmdaaW.PrintMore
attribute [local go_sem] max2_int min2_int max_two min_two max_three min_three max_four min_four   -- for this text's walks alone
set_option linter.unusedVariables false
set_option linter.unusedSimpArgs false

/-! ### credenzaref03_Same: function 14 -/
def credenzaref03_Same.l0 : Nat → List Int → List Int → Int → Option (Bool)
  | 0, _, _, _ => none
  | k + 1, x0, x1, x5 => if x5 < (x0.length : Int) then (if 0 ≤ x5 then (if x5 < (x1.length : Int) then (if (rd x0 x5) = (rd x1 x5) then (credenzaref03_Same.l0 k x0 x1 (wrap64 (x5 + 1))) else (some false)) else (none)) else (none)) else (some true)
def credenzaref03_Same.f (k : Nat) (l0 : List Int) (l1 : List Int) : Option (Bool) := if (l0.length : Int) = (l1.length : Int) then (credenzaref03_Same.l0 k l0 l1 0) else (some false)
theorem credenzaref03_Same.mono_l : ∀ k, (∀ y0 y1 y2, LeO (credenzaref03_Same.l0 k y0 y1 y2) (credenzaref03_Same.l0 (k + 1) y0 y1 y2))
  | 0 => fun _ _ _ r h => by simp [credenzaref03_Same.l0] at h
  | k + 1 => by
    have ih0 := credenzaref03_Same.mono_l k
    · intro y0 y1 y2
      unfold credenzaref03_Same.l0
      repeat' first
      | (with_reducible exact ih0 _ _ _)
      | (with_reducible exact LeO.refl _)
      | (with_reducible exact LeO.none _)
      | (with_reducible refine LeO.ite ?_ ?_)
      | (with_reducible refine LeO.bind ?_ (fun _ => ?_))
      | exact ih0 _ _ _
      | exact LeO.none _
      | refine LeO.ite ?_ ?_
      | refine LeO.bind ?_ (fun _ => ?_)
theorem credenzaref03_Same.mono : ∀ a0 a1 k, LeO (credenzaref03_Same.f k a0 a1) (credenzaref03_Same.f (k + 1) a0 a1) := by
  intro a0 a1 k
  have ih0 := credenzaref03_Same.mono_l k
  unfold credenzaref03_Same.f
  repeat' first
      | (with_reducible exact ih0 _ _ _)
      | (with_reducible exact LeO.refl _)
      | (with_reducible exact LeO.none _)
      | (with_reducible refine LeO.ite ?_ ?_)
      | (with_reducible refine LeO.bind ?_ (fun _ => ?_))
      | exact ih0 _ _ _
      | exact LeO.none _
      | refine LeO.ite ?_ ?_
      | refine LeO.bind ?_ (fun _ => ?_)
set_option maxHeartbeats 8000000 in
set_option maxRecDepth 100000 in
theorem credenzaref03_Same.calls (k : Nat) (A0 : Option Addr) (c0 : Nat) (l0 : List Int) (A1 : Option Addr) (c1 : Nat) (l1 : List Int) (r : Bool) (w : World) (hr0 : Kd.C (Kd.int .i32) w A0 l0.length l0) (hc0 : l0.length ≤ c0) (hr1 : Kd.C (Kd.int .i32) w A1 l1.length l1) (hc1 : l1.length ≤ c1) (h : credenzaref03_Same.f k l0 l1 = some r) :
    Calls Try.prog 14 #[.slice A0 l0.length c0, .slice A1 l1.length c1] w fun e w' => e = .returned (.bool r) ∧ Drawn0 w w' := by
  have HR0 := Aside0.mk hr0
  have HC0 := Aside0.mk hc0
  clear hr0 hc0
  have HR1 := Aside0.mk hr1
  have HC1 := Aside0.mk hc1
  clear hr1 hc1
  have H : (if (l0.length : Int) = (l1.length : Int) then (credenzaref03_Same.l0 k l0 l1 0) else (some false)) = some r := h
  clear h
  by_cases c3 : (l0.length : Int) = (l1.length : Int)
  · rw [if_pos c3] at H
    have c3b0 : ((l0.length : Int) == (l1.length : Int)) = true := beq_iff_eq.mpr c3
    have c3b1 : ((l0.length : Int) != (l1.length : Int)) = false := bne_eq_false_iff_eq.mpr c3
    have c3b2 : (l0.length == l1.length) = true := by first | simpa using c3 | (simp at c3 ⊢; omega)
    clear c3
    have H' := Aside0.mk H
    clear H
    go_enter Try.func14, Try.ntmps14
    go_wp2
    repeat (go_quiet (fail); try go_wp2)
    go_loopg [5] k (fun kq v5 w' => ∃ (x5_1 : Int), v5 = .int .i64 x5_1 ∧ Aside0 (credenzaref03_Same.l0 kq l0 l1 x5_1 = some r) ∧ Aside0 (kq ≤ k) ∧ Drawn0 w w')
    case atStart => exact ⟨(0), (by first | rfl | (simp; done) | (simp [*]; done)), H', ⟨Nat.le_refl _⟩, by repeat (first | exact Drawn0.refl _ | apply Drawn0.step)⟩
    case round =>
      clear H'
      try clear c1
      try clear p2
      try clear c3
      try clear c3b0
      try clear c3b1
      try clear c3b2
      obtain ⟨x5_1, rfl, HA, HK1, ⟨m1, rfl⟩⟩ := hrel
      cases gk with
      | zero => exact absurd HA.out (by simp [credenzaref03_Same.l0])
      | succ k1 =>
        have H := HA.out
        clear HA
        simp only [credenzaref03_Same.l0] at H
        by_cases c4 : x5_1 < (l0.length : Int)
        · rw [if_pos c4] at H
          have c4b0 : decide (x5_1 < (l0.length : Int)) = true := decide_eq_true c4
          clear c4
          by_cases c5 : 0 ≤ x5_1
          · rw [if_pos c5] at H
            have c5b0 : decide (0 ≤ x5_1) = true := decide_eq_true c5
            clear c5
            by_cases c6 : x5_1 < (l1.length : Int)
            · rw [if_pos c6] at H
              have c6b0 : decide (x5_1 < (l1.length : Int)) = true := decide_eq_true c6
              clear c6
              by_cases c7 : (rd l0 x5_1) = (rd l1 x5_1)
              · rw [if_pos c7] at H
                have c7b0 : ((rd l0 x5_1) == (rd l1 x5_1)) = true := beq_iff_eq.mpr c7
                have c7b1 : ((rd l0 x5_1) != (rd l1 x5_1)) = false := bne_eq_false_iff_eq.mpr c7
                clear c7
                have H' := Aside0.mk H
                clear H
                have p229 : 0 ≤ (x5_1 : Int) := of_decide_eq_true (by first | (with_reducible assumption) | assumption)
                have q229 : x5_1 < (l0.length : Int) := of_decide_eq_true (by first | (with_reducible assumption) | assumption)
                obtain ⟨ad229, e229, hx229_0⟩ := Kd.at_int HR0.out x5_1 p229 q229
                cases e229
                replace p229 := eq_true p229
                replace q229 := eq_true q229
                have p230 : 0 ≤ (x5_1 : Int) := of_decide_eq_true (by first | (with_reducible assumption) | assumption)
                have q230 : x5_1 < (l1.length : Int) := of_decide_eq_true (by first | (with_reducible assumption) | assumption)
                obtain ⟨ad230, e230, hx230_0⟩ := Kd.at_int HR1.out x5_1 p230 q230
                cases e230
                replace p230 := eq_true p230
                replace q230 := eq_true q230
                go_wp2
                repeat (go_quiet (fail); try go_wp2)
                go_roundg k1
                case measure => have := HK1.out; omega
                case rel => exact ⟨(wrap64 (x5_1 + 1)), (by first | rfl | (simp; done) | (simp [*]; done)), H', ⟨by have := HK1.out; omega⟩, by repeat (first | exact Drawn0.refl _ | apply Drawn0.step)⟩
              · rw [if_neg c7] at H
                have c7b0 : ((rd l0 x5_1) == (rd l1 x5_1)) = false := beq_eq_false_iff_ne.mpr c7
                have c7b1 : ((rd l0 x5_1) != (rd l1 x5_1)) = true := bne_iff_ne.mpr c7
                obtain rfl := Option.some.inj H
                have p229 : 0 ≤ (x5_1 : Int) := of_decide_eq_true (by first | (with_reducible assumption) | assumption)
                have q229 : x5_1 < (l0.length : Int) := of_decide_eq_true (by first | (with_reducible assumption) | assumption)
                obtain ⟨ad229, e229, hx229_0⟩ := Kd.at_int HR0.out x5_1 p229 q229
                cases e229
                replace p229 := eq_true p229
                replace q229 := eq_true q229
                have p230 : 0 ≤ (x5_1 : Int) := of_decide_eq_true (by first | (with_reducible assumption) | assumption)
                have q230 : x5_1 < (l1.length : Int) := of_decide_eq_true (by first | (with_reducible assumption) | assumption)
                obtain ⟨ad230, e230, hx230_0⟩ := Kd.at_int HR1.out x5_1 p230 q230
                cases e230
                replace p230 := eq_true p230
                replace q230 := eq_true q230
                go_wp2
                repeat (go_quiet (fail); try go_wp2)
                go_ret
                exact ⟨by first | rfl | (simp; done) | (simp [*]; done), by repeat (first | exact Drawn0.refl _ | apply Drawn0.step)⟩
            · rw [if_neg c6] at H
              exact absurd H (by simp)
          · rw [if_neg c5] at H
            exact absurd H (by simp)
        · rw [if_neg c4] at H
          have c4b0 : decide (x5_1 < (l0.length : Int)) = false := decide_eq_false c4
          clear c4
          obtain rfl := Option.some.inj H
          go_wp2
          repeat (go_quiet (fail); try go_wp2)
          go_ret
          exact ⟨by first | rfl | (simp; done) | (simp [*]; done), by repeat (first | exact Drawn0.refl _ | apply Drawn0.step)⟩
  · rw [if_neg c3] at H
    have c3b0 : ((l0.length : Int) == (l1.length : Int)) = false := beq_eq_false_iff_ne.mpr c3
    have c3b1 : ((l0.length : Int) != (l1.length : Int)) = true := bne_iff_ne.mpr c3
    have c3b2 : (l0.length == l1.length) = false := by first | simpa using c3 | (simp at c3 ⊢; omega)
    obtain rfl := Option.some.inj H
    go_enter Try.func14, Try.ntmps14
    go_wp2
    repeat (go_quiet (fail); try go_wp2)
    go_ret
    exact ⟨by first | rfl | (simp; done) | (simp [*]; done), by repeat (first | exact Drawn0.refl _ | apply Drawn0.step)⟩

end Go.Proofs.Yteflolamihhmdaa.Q

namespace Go.Proofs.Yteflolamihhmdaa.Pure
open Go.RowKit Go.Proofs.Yteflolamihhmdaa.Q Go.Proofs.YteflolamihhmdaaW.PrintWords Go.Proofs.YteflolamihhmdaaW.PrintLast

def sumR : List Int → Int
  | [] => 0
  | x :: xs => x + sumR xs
/-- weights: none below 0, none great -/
def WB (l : List Int) : Prop := ∀ x ∈ l, 0 ≤ x ∧ x ≤ 131072
theorem sumR_bd : ∀ {l : List Int}, WB l → 0 ≤ sumR l ∧ sumR l ≤ l.length * 131072
  | [], _ => by simp [sumR]
  | x :: xs, h => by
    have h1 := h x (by simp)
    have h2 := sumR_bd (l := xs) (fun z hz => h z (by simp [hz]))
    simp only [sumR, List.length_cons]
    omega
theorem soft_Sum_loop (l : List Int) (hl : l.length ≤ 1024) (hw : WB l) : ∀ (d k p : Nat) (s : Int), p + d = l.length → d < k → 0 ≤ s → s ≤ p * 131072 → soft_Sum.l0 k s l (l.length : Int) (p : Int) = some (s + sumR (l.drop p)) := by
  intro d
  induction d with
  | zero =>
    intro k p s hp hk h1 h2
    obtain ⟨k, rfl⟩ : ∃ m, k = m + 1 := ⟨k - 1, by omega⟩
    rw [soft_Sum.l0, if_neg (by omega), List.drop_eq_nil_of_le (by omega)]
    simp [sumR]
  | succ d ih =>
    intro k p s hp hk h1 h2
    obtain ⟨k, rfl⟩ : ∃ m, k = m + 1 := ⟨k - 1, by omega⟩
    have hlt : p < l.length := by omega
    have hx := hw _ (rd_mem hlt)
    rw [soft_Sum.l0, if_pos (by omega), if_pos (by omega), if_pos (by omega), wnext hlt (by omega), drop_rd hlt, w64 (x := s + rd l (p : Int)) (by omega) (by omega), ih k (p + 1) _ (by omega) (by omega) (by omega) (by omega), sumR]
    congr 1
    omega
theorem soft_Sum_some {l : List Int} (hl : l.length ≤ 1024) (hw : WB l) {k : Nat} (hk : l.length < k) : soft_Sum.f k l = some (sumR l) := by
  have := soft_Sum_loop l hl hw l.length k 0 0 (by omega) hk (by omega) (by omega)
  simpa [soft_Sum.f] using this
theorem ref_Sum_loop (l : List Int) (hl : l.length ≤ 1024) (hw : WB l) : ∀ (d k p : Nat) (s : Int), p + d = l.length → d < k → 0 ≤ s → s ≤ p * 131072 → credenzaref04_Sum.l0 k l s (p : Int) = some (s + sumR (l.drop p)) := by
  intro d
  induction d with
  | zero =>
    intro k p s hp hk h1 h2
    obtain ⟨k, rfl⟩ : ∃ m, k = m + 1 := ⟨k - 1, by omega⟩
    rw [credenzaref04_Sum.l0, if_neg (by omega), List.drop_eq_nil_of_le (by omega)]
    simp [sumR]
  | succ d ih =>
    intro k p s hp hk h1 h2
    obtain ⟨k, rfl⟩ : ∃ m, k = m + 1 := ⟨k - 1, by omega⟩
    have hlt : p < l.length := by omega
    have hx := hw _ (rd_mem hlt)
    rw [credenzaref04_Sum.l0, if_pos (by omega), if_pos (by omega), wnext hlt (by omega), drop_rd hlt, w64 (x := s + rd l (p : Int)) (by omega) (by omega), ih k (p + 1) _ (by omega) (by omega) (by omega) (by omega), sumR]
    congr 1
    omega
theorem ref_Sum_some {l : List Int} (hl : l.length ≤ 1024) (hw : WB l) {k : Nat} (hk : l.length < k) : credenzaref04_Sum.f k l = some (sumR l) := by
  have := ref_Sum_loop l hl hw l.length k 0 0 (by omega) hk (by omega) (by omega)
  simpa [credenzaref04_Sum.f] using this
theorem weightsR_wb {l : List Int} : WB (weightsR l) := by
  intro x hx
  obtain ⟨y, _, rfl⟩ := List.mem_map.1 hx
  exact expR_bd (wideR_bd _)
theorem weightsR_length (l : List Int) : (weightsR l).length = l.length := by simp [weightsR]
theorem sumR_mem : ∀ {l : List Int} {x : Int}, WB l → x ∈ l → x ≤ sumR l
  | y :: l, x, h, hx => by
    have h1 := h y (by simp)
    have h2 := sumR_bd (l := l) (fun z hz => h z (by simp [hz]))
    simp only [sumR]
    rcases List.mem_cons.1 hx with rfl | hx
    · omega
    · have := sumR_mem (fun z hz => h z (by simp [hz])) hx
      omega
theorem weightsR_pos {l : List Int} (h : 0 < l.length) : 65536 ≤ sumR (weightsR l) := by
  have h1 : wR (topR l) (topR l) ∈ weightsR l := List.mem_map.2 ⟨_, topR_mem h, rfl⟩
  have h2 : wR (topR l) (topR l) = 65536 := by
    unfold wR
    rw [Int.sub_self]
    exact expR_0
  have := sumR_mem weightsR_wb h1
  omega

/-- a token's values, so much each, put to sums -/
def addR (w : Int) : List Int → List Int → List Int
  | s :: ss, x :: xs => (s + w * narR x) :: addR w ss xs
  | _, _ => []
def gR : List Int → List Int → List (List Int) → List Int
  | sums, w :: ws, v :: vs => gR (addR w sums v) ws vs
  | sums, _, _ => sums
theorem addR_length (w : Int) : ∀ (s v : List Int), s.length ≤ v.length → (addR w s v).length = s.length
  | [], [], _ => rfl
  | [], _ :: _, _ => rfl
  | _ :: _, [], h => by simp at h
  | a :: s, b :: v, h => by simp only [addR, List.length_cons]; rw [addR_length w s v (by simpa using h)]
theorem wn_bd {w x : Int} (hw : 0 ≤ w ∧ w ≤ 131072) : -1099511627776 ≤ w * narR x ∧ w * narR x ≤ 1099511627776 := mul_bd (A := 131072) (B := 8388608) (by omega) hw.2 (narR_bd x).1 (narR_bd x).2
/-- all sums are within B -/
def SB (B : Int) (l : List Int) : Prop := ∀ x ∈ l, -B ≤ x ∧ x ≤ B
theorem addR_sb {w B : Int} (hw : 0 ≤ w ∧ w ≤ 131072) : ∀ {s v : List Int}, SB B s → SB (B + 1099511627776) (addR w s v)
  | [], [], _ => by simp [addR, SB]
  | [], _ :: _, _ => by simp [addR, SB]
  | _ :: _, [], _ => by simp [addR, SB]
  | a :: s, b :: v, h => by
    intro x hx
    have h1 := h a (by simp)
    have h2 := wn_bd (x := b) hw
    rcases List.mem_cons.1 hx with rfl | hx
    · omega
    · exact addR_sb hw (fun z hz => h z (by simp [hz])) x hx
theorem gadd_some {w : Int} (hw : 0 ≤ w ∧ w ≤ 131072) {v : List Int} (hv : A32 v) : ∀ (rest pre : List Int), pre.length + rest.length ≤ v.length → SB 4503599627370496 rest → attn_gadd.l w v rest.length pre.length (pre ++ rest) = some (pre ++ addR w rest (v.drop pre.length))
  | [], pre, hl, hs => by
    rw [List.length_nil, attn_gadd.l]
    cases hd : v.drop pre.length <;> simp [addR]
  | s :: rest, pre, hl, hs => by
    simp only [List.length_cons] at hl
    have hlv : pre.length < v.length := by omega
    have h1 := hs s (by simp)
    have h2 := wn_bd (x := rd v (pre.length : Int)) hw
    have hn := narR_bd (rd v (pre.length : Int))
    have e1 : rd (pre ++ s :: rest) (pre.length : Int) = s := by simp [rd]
    have e2 : (pre ++ s :: rest).set pre.length (s + w * narR (rd v (pre.length : Int))) = (pre ++ [s + w * narR (rd v (pre.length : Int))]) ++ rest := by simp
    have ih := gadd_some hw hv rest (pre ++ [s + w * narR (rd v (pre.length : Int))]) (by simp; omega) (fun z hz => hs z (by simp [hz]))
    rw [List.length_append, List.length_singleton] at ih
    rw [List.length_cons, attn_gadd.l, if_pos hlv, attn_narrow_some (hv _ (rd_mem hlv)), Option.bind_some, w64 (x := w * narR (rd v (pre.length : Int))) (by omega) (by omega), e1, w64 (x := s + w * narR (rd v (pre.length : Int))) (by omega) (by omega), e2, ih, drop_rd hlv, addR]
    simp
theorem gsum_some {wide : Nat} (ws : List Int) (hw : WB ws) (hn : ws.length ≤ 1024) : ∀ (vals : List (List Int)) (a : Nat) (sums : List Int), a + vals.length = ws.length → sums.length = wide → (∀ v ∈ vals, v.length = wide ∧ A32 v) → SB (a * 1099511627776) sums → attn_gsum.l ws vals a sums = some (gR sums (ws.drop a) vals) := by
  intro vals
  induction vals with
  | nil =>
    intro a sums ha hs hv hb
    rw [attn_gsum.l]
    cases hd : ws.drop a <;> simp [gR]
  | cons v vals ih =>
    intro a sums ha hs hv hb
    simp only [List.length_cons] at ha
    have hlt : a < ws.length := by omega
    obtain ⟨hvl, hv32⟩ := hv v (by simp)
    have hww := hw _ (rd_mem hlt)
    have h1 := gadd_some hww hv32 sums [] (by simp; omega) (fun x hx => by have := hb x hx; omega)
    simp only [List.nil_append, List.length_nil, List.drop_zero] at h1
    have h2 : SB ((a + 1 : Nat) * 1099511627776) (addR (rd ws (a : Int)) sums v) := by
      have := addR_sb hww (v := v) hb
      intro x hx
      have := this x hx
      omega
    have ih := ih (a + 1) (addR (rd ws (a : Int)) sums v) (by omega) (by rw [addR_length _ _ _ (by omega)]; exact hs) (fun z hz => hv z (by simp [hz])) h2
    rw [attn_gsum.l, if_pos hlt, h1, Option.bind_some, ih, drop_rd hlt, gR]
/-- a sum by the weights' sum -/
def outR (ws : List Int) (x : Int) : Int := narR (rnd x (sumR ws))
theorem gout_some {ws : List Int} (hw : WB ws) (hn : ws.length ≤ 1024) (hp : 0 < sumR ws) {k : Nat} (hk : ws.length < k) : ∀ (xs pre rest : List Int), rest.length = xs.length → SB 4503599627370496 xs → attn_gout.l k ws xs pre.length (pre ++ rest) = some (pre ++ xs.map (outR ws))
  | [], pre, rest, hr, hs => by
    rw [attn_gout.l, List.eq_nil_of_length_eq_zero hr]
    rfl
  | x :: xs, pre, [], hr, hs => by simp at hr
  | x :: xs, pre, r :: rest, hr, hs => by
    have hb := sumR_bd hw
    have hx := hs x (by simp)
    have e2 : (pre ++ r :: rest).set pre.length (narR (rnd x (sumR ws))) = (pre ++ [outR ws x]) ++ rest := by simp [outR]
    have ih := gout_some hw hn hp hk xs (pre ++ [outR ws x]) rest (by simpa using hr) (fun z hz => hs z (by simp [hz]))
    rw [List.length_append, List.length_singleton] at ih
    rw [attn_gout.l, soft_Sum_some hn hw hk, Option.bind_some, fix_Ratio_some (by omega) (by omega) (by omega) (by omega), Option.bind_some, fix_Narrow_some, Option.bind_some, e2, ih]
    simp
theorem gR_sb (ws : List Int) (hw : WB ws) (hn : ws.length ≤ 1024) : ∀ (vals : List (List Int)) (a : Nat) (sums : List Int), a + vals.length ≤ ws.length → SB (a * 1099511627776) sums → SB 4503599627370496 (gR sums (ws.drop a) vals) := by
  intro vals
  induction vals with
  | nil =>
    intro a sums ha hb
    have e : gR sums (ws.drop a) [] = sums := by cases hd : ws.drop a <;> simp [gR]
    rw [e]
    intro x hx
    have := hb x hx
    simp only [List.length_nil] at ha
    omega
  | cons v vals ih =>
    intro a sums ha hb
    simp only [List.length_cons] at ha
    have hlt : a < ws.length := by omega
    have hww := hw _ (rd_mem hlt)
    rw [drop_rd hlt, gR]
    refine ih (a + 1) _ (by omega) ?_
    have := addR_sb hww (v := v) hb
    intro x hx
    have := this x hx
    omega
theorem gR_length : ∀ (ws : List Int) (vals : List (List Int)) (sums : List Int), (∀ v ∈ vals, v.length = sums.length) → (gR sums ws vals).length = sums.length
  | [], vals, sums, _ => by cases vals <;> simp [gR]
  | _ :: _, [], sums, _ => by simp [gR]
  | w :: ws, v :: vals, sums, h => by
    have hv := h v (by simp)
    have hl := addR_length w sums v (by omega)
    rw [gR, gR_length ws vals _ (fun z hz => by rw [hl]; exact h z (by simp [hz])), hl]
/-- what is gathered -/
def mixR (ws : List Int) (vals : List (List Int)) (wide : Nat) : List Int := (gR (List.replicate wide 0) ws vals).map (outR ws)
theorem attn_gather_some {ws : List Int} {vals : List (List Int)} {wide : Nat} (hl : ws.length = vals.length) (hn : ws.length ≤ 1024) (hw : WB ws) (hp : 0 < sumR ws) (hv : ∀ v ∈ vals, v.length = wide ∧ A32 v) {k : Nat} (hk : ws.length < k) : attn_gather.l k ws vals wide = some (mixR ws vals wide) := by
  have h0 : SB ((0 : Nat) * 1099511627776) (List.replicate wide 0) := by
    intro x hx
    obtain ⟨_, rfl⟩ := List.mem_replicate.1 hx
    omega
  have h1 := gsum_some (wide := wide) ws hw hn vals 0 (List.replicate wide 0) (by omega) (by simp) hv h0
  have h2 := gR_sb ws hw hn vals 0 (List.replicate wide 0) (by omega) h0
  have h3 := gR_length (ws.drop 0) vals (List.replicate wide 0) (fun v hv' => by rw [(hv v hv').1]; simp)
  have h4 := gout_some hw hn hp hk (gR (List.replicate wide 0) (ws.drop 0) vals) [] (List.replicate wide 0) (by rw [h3]) h2
  rw [List.drop_zero] at h1 h4
  simp only [List.nil_append, List.length_nil] at h4
  rw [attn_gather.l, h1, Option.bind_some, h4]
  rfl

/-- the sum at one place -/
def colR : List Int → List (List Int) → Int → Int
  | w :: ws, v :: vals, i => w * narR (rd v i) + colR ws vals i
  | _, _, _ => 0
theorem addR_at (w : Int) : ∀ (s v : List Int) (i : Nat), s.length ≤ v.length → i < s.length → rd (addR w s v) (i : Int) = rd s (i : Int) + w * narR (rd v (i : Int))
  | [], v, i, _, h => by simp at h
  | a :: s, [], i, h, _ => by simp at h
  | a :: s, b :: v, 0, _, _ => by simp [addR, rd]
  | a :: s, b :: v, i + 1, h, hi => by
    have ih := addR_at w s v i (by simpa using h) (by simpa using hi)
    simp only [rd, addR] at ih ⊢
    simpa using ih
theorem gR_at : ∀ (ws : List Int) (vals : List (List Int)) (sums : List Int) (i : Nat), (∀ v ∈ vals, v.length = sums.length) → i < sums.length → rd (gR sums ws vals) (i : Int) = rd sums (i : Int) + colR ws vals (i : Int)
  | [], vals, sums, i, _, _ => by cases vals <;> simp [gR, colR]
  | _ :: _, [], sums, i, _, _ => by simp [gR, colR]
  | w :: ws, v :: vals, sums, i, h, hi => by
    have hv := h v (by simp)
    have hl := addR_length w sums v (by omega)
    rw [gR, gR_at ws vals _ i (fun z hz => by rw [hl]; exact h z (by simp [hz])) (by omega), addR_at w sums v i (by omega) hi, colR]
    omega
theorem mixR_length {ws : List Int} {vals : List (List Int)} {wide : Nat} (hv : ∀ v ∈ vals, v.length = wide) : (mixR ws vals wide).length = wide := by
  unfold mixR
  rw [List.length_map, gR_length ws vals _ (fun v h => by rw [hv v h]; simp), List.length_replicate]
theorem mixR_at {ws : List Int} {vals : List (List Int)} {wide : Nat} (hv : ∀ v ∈ vals, v.length = wide) {i : Nat} (hi : i < wide) : rd (mixR ws vals wide) (i : Int) = outR ws (colR ws vals (i : Int)) := by
  have hl := gR_length ws vals (List.replicate wide 0) (fun v h => by rw [hv v h]; simp)
  rw [List.length_replicate] at hl
  have h1 := gR_at ws vals (List.replicate wide 0) i (fun v h => by rw [hv v h]; simp) (by simpa using hi)
  have h2 : rd (List.replicate wide 0) (i : Int) = 0 := by simp [rd, hi]
  rw [h2, Int.zero_add] at h1
  rw [← h1]
  unfold mixR
  rw [rd_at (by rw [List.length_map, hl]; exact hi), rd_at (by rw [hl]; exact hi), List.getElem_map]

def rowAt (l : List (List Int)) (t : Int) : List Int := l.getD t.toNat []
theorem rowAt_at {l : List (List Int)} {t : Nat} (h : t < l.length) : rowAt l (t : Int) = l[t] := by simp [rowAt, List.getD_eq_getElem?_getD, List.getElem?_eq_getElem h]
theorem rowAt_mem {l : List (List Int)} {t : Nat} (h : t < l.length) : rowAt l (t : Int) ∈ l := by rw [rowAt_at h]; exact List.getElem_mem h
theorem drop_row {l : List (List Int)} {p : Nat} (h : p < l.length) : l.drop p = rowAt l (p : Int) :: l.drop (p + 1) := by rw [rowAt_at h]; exact List.drop_eq_getElem_cons h
theorem take_row {l : List (List Int)} {p : Nat} (h : p < l.length) : l.take (p + 1) = l.take p ++ [rowAt l (p : Int)] := by rw [rowAt_at h, List.take_succ_eq_append_getElem h]
theorem rowAt_map {l : List (List Int)} {t : Nat} (h : t < l.length) : rowAt (l.map nars) (t : Int) = nars (rowAt l (t : Int)) := by
  rw [rowAt_at (by simpa using h), rowAt_at h, List.getElem_map]
theorem rd_nars {l : List Int} {i : Nat} (h : i < l.length) : rd (nars l) (i : Int) = narR (rd l (i : Int)) := by
  rw [rd_at (by rw [nars_length]; exact h), rd_at h]
  simp [nars]
end Go.Proofs.Yteflolamihhmdaa.Pure

namespace Go.Proofs.Yteflolamihhmdaa.Q
open Go.RowKit Go.Proofs.YteflolamihhmdaaW.PrintWords Go.Proofs.YteflolamihhmdaaW.PrintLast Go.Proofs.YteflolamihhmdaaW.PrintMore
attribute [local go_sem] max2_int min2_int max_two min_two max_three min_three max_four min_four   -- for this text's walks alone
set_option linter.unusedVariables false
set_option linter.unusedSimpArgs false

/-! ### attn_Gather: function 12 -/
def attn_Gather.f (k : Nat) (l0 : List Int) (l1 : List (List Int)) (l2 : List (List Int)) : Option (List Int × Int) := attn_Fused.f k l0 l1 l2
theorem attn_Gather.mono : ∀ (a0 : List Int) (a1 a2 : List (List Int)) (k : Nat), LeO (attn_Gather.f k a0 a1 a2) (attn_Gather.f (k + 1) a0 a1 a2) := fun a0 a1 a2 k => attn_Fused.mono a0 a1 a2 k
set_option maxHeartbeats 2000000 in
theorem attn_Gather.calls (k : Nat) (A0 : Option Addr) (c0 : Nat) (l0 : List Int) (A1 : Option Addr) (c1 : Nat) (l1 : List (List Int)) (A2 : Option Addr) (c2 : Nat) (l2 : List (List Int)) (r1 : List Int) (r2 : Int) (w : World)
    (hr0 : Kd.C (Kd.int .i32) w A0 l0.length l0) (hc0 : l0.length ≤ c0) (hr1 : Kd.C (Kd.slice 21 (Kd.int .i32)) w A1 l1.length l1) (hc1 : l1.length ≤ c1) (hr2 : Kd.C (Kd.slice 21 (Kd.int .i32)) w A2 l2.length l2) (hc2 : l2.length ≤ c2)
    (h : attn_Gather.f k l0 l1 l2 = some (r1, r2)) :
    Calls Try.prog 12 #[.slice A0 l0.length c0, .slice A1 l1.length c1, .slice A2 l2.length c2] w fun e w' => ∃ v0_ : Value, e = .returned (.tuple #[v0_, .int .i64 r2]) ∧ Kd.R (Kd.int .i32) 21 w' w.heap.size (fun _ => True) v0_ r1 ∧ Below w.heap.size w w' := by
  have H := Aside0.mk h
  have HR0 := Aside0.mk hr0
  have HR1 := Aside0.mk hr1
  have HR2 := Aside0.mk hr2
  have HC0 := Aside0.mk hc0
  have HC1 := Aside0.mk hc1
  have HC2 := Aside0.mk hc2
  clear h hr0 hr1 hr2 hc0 hc1 hc2
  go_enter Try.func12, Try.ntmps12
  go_wp2_with fail
  refine (attn_Fused.calls k A0 c0 l0 A1 c1 l1 A2 c2 l2 r1 r2 _ HR0.out HC0.out HR1.out HC1.out HR2.out HC2.out H.out).mono ?_
  rintro e w1 ⟨v, rfl, hR, hb⟩
  have HR := Aside0.mk hR
  have HB := Aside0.mk hb
  clear hR hb
  go_wp2
  go_ret2
  exact ⟨_, rfl, HR.out, HB.out⟩

end Go.Proofs.Yteflolamihhmdaa.Q

namespace Go.Proofs.Yteflolamihhmdaa.Pure
open Go.RowKit Go.Proofs.Yteflolamihhmdaa.Q Go.Proofs.YteflolamihhmdaaW.PrintWords Go.Proofs.YteflolamihhmdaaW.PrintLast

theorem rdL (l : List (List Int)) (t : Int) : rd_L8 l t = rowAt l t := rfl
/-- all rows are of n numbers -/
def Rows (n : Nat) (l : List (List Int)) : Prop := ∀ r ∈ l, r.length = n
def AA32 (l : List (List Int)) : Prop := ∀ r ∈ l, A32 r
theorem scores_some {q : List Int} (h1 : 1 ≤ q.length) (h2 : q.length ≤ 16) {k : Nat} (hk : 40 ≤ k) : ∀ (keys : List (List Int)) (out : List Int), Rows q.length keys → AA32 keys → attn_scores.l k (nars q) keys out = some (out ++ keys.map (scoreR q))
  | [], out, _, _ => by simp [attn_scores.l]
  | key :: keys, out, hr, ha => by
    have hl := hr key (by simp)
    have hb := dotR_bd (nars_nb q) (nars_nb key)
    rw [nars_length] at hb
    have e1 := sum_loop key (ha key (by simp)) (nars q) 0 0 (by rw [nars_length]; omega) (by rw [nars_length]; omega) (nars_nb q) (by omega) (by omega)
    rw [List.drop_zero, Int.zero_add] at e1
    have e2 := attn_scaled_some (s := dotR (nars q) (nars key)) (n := q.length) h1 h2 (by omega) (by omega) hk
    have ih := scores_some h1 h2 hk keys (out ++ [scoreR q key]) (fun r h => hr r (by simp [h])) (fun r h => ha r (by simp [h]))
    rw [attn_scores.l, e1, Option.bind_some, nars_length, e2, Option.bind_some]
    rw [show scaledR (dotR (nars q) (nars key)) q.length = scoreR q key from rfl, ih]
    simp

theorem mix_l1 (ws : List Int) (vals : List (List Int)) (wide i k : Nat) (acc : List Int) (hw : WB ws) (hl : ws.length = vals.length) (hn : ws.length ≤ 1024) (hr : Rows wide vals) (hi : i < wide) : ∀ (d p : Nat) (s : Int), p + d = vals.length → -(p * 1099511627776 : Int) ≤ s → s ≤ p * 1099511627776 →
    credenzaref04_Mix.l1 (k + d + 1) ws (vals.map nars) acc (i : Int) s (p : Int) = (credenzaref04_Sum.f k ws).bind fun t => (credenzaref01_Ratio.f (s + colR (ws.drop p) (vals.drop p) (i : Int)) t).bind fun y => (credenzaref01_Narrow.f y).bind fun z => if acc.length < 35184372088832 then credenzaref04_Mix.l0 k ws (vals.map nars) (acc ++ [z]) (wrap64 ((i : Int) + 1)) else none := by
  intro d
  induction d with
  | zero =>
    intro p s hp h1 h2
    rw [credenzaref04_Mix.l1, if_neg (by rw [List.length_map]; omega), show ws.drop p = [] from List.drop_eq_nil_of_le (by omega), show vals.drop p = [] from List.drop_eq_nil_of_le (by omega)]
    simp only [colR, Int.add_zero]
  | succ d ih =>
    intro p s hp h1 h2
    have hlt : p < vals.length := by omega
    have hlw : p < ws.length := by omega
    have hrl := hr _ (rowAt_mem hlt)
    have hww := hw _ (rd_mem hlw)
    have hm := wn_bd (x := rd (rowAt vals (p : Int)) (i : Int)) hww
    have hnr := narR_bd (rd (rowAt vals (p : Int)) (i : Int))
    rw [show k + (d + 1) + 1 = (k + d + 1) + 1 by omega, credenzaref04_Mix.l1, rdL, rowAt_map hlt, rd_nars (by omega), nars_length, hrl]
    rw [if_pos (by rw [List.length_map]; omega), if_pos (by omega), if_pos (by omega), if_pos (by omega), if_pos (by omega), wnext hlt (by omega), w64 (x := narR (rd (rowAt vals (p : Int)) (i : Int))) (by omega) (by omega), w64 (x := rd ws (p : Int) * narR (rd (rowAt vals (p : Int)) (i : Int))) (by omega) (by omega)]
    have hc : colR (ws.drop p) (vals.drop p) (i : Int) = rd ws (p : Int) * narR (rd (rowAt vals (p : Int)) (i : Int)) + colR (ws.drop (p + 1)) (vals.drop (p + 1)) (i : Int) := by rw [drop_rd hlw, drop_row hlt, colR]
    rw [hc]
    generalize rd ws (p : Int) * narR (rd (rowAt vals (p : Int)) (i : Int)) = m at *
    rw [w64 (x := s + m) (by omega) (by omega), ih (p + 1) (s + m) (by omega) (by omega) (by omega), Int.add_assoc]
theorem colR_bd : ∀ (ws : List Int) (vals : List (List Int)) (i : Int), WB ws → -(ws.length * 1099511627776 : Int) ≤ colR ws vals i ∧ colR ws vals i ≤ ws.length * 1099511627776 := by
  intro ws
  induction ws with
  | nil => intro vals i _; cases vals <;> simp [colR]
  | cons w ws ih =>
    intro vals i h
    cases vals with
    | nil => simp only [colR, List.length_cons]; omega
    | cons v vals =>
      have h1 := ih vals i (fun z hz => h z (by simp [hz]))
      have h2 := wn_bd (x := rd v i) (h w (by simp))
      simp only [colR, List.length_cons]
      omega
theorem mix_l0 (ws : List Int) (vals : List (List Int)) (wide : Nat) (hw : WB ws) (hp : 0 < sumR ws) (hl : ws.length = vals.length) (hn : ws.length ≤ 1024) (h0 : 0 < vals.length) (hr : Rows wide vals) (hwd : wide ≤ 16) : ∀ (d k i : Nat), i + d = wide → (d + 1) * (vals.length + 2) + 2 ≤ k → credenzaref04_Mix.l0 k ws (vals.map nars) ((mixR ws vals wide).take i) (i : Int) = some (mixR ws vals wide) := by
  intro d
  have hml := mixR_length (ws := ws) hr
  have hrow0 : (rd_L8 (vals.map nars) 0).length = wide := by
    have h1 := rowAt_map h0
    have h2 : ((0 : Nat) : Int) = 0 := rfl
    rw [h2] at h1
    rw [rdL, h1, nars_length]
    exact hr _ (rowAt_mem (t := 0) h0)
  have hsb := sumR_bd hw
  induction d with
  | zero =>
    intro k i hi hk
    obtain ⟨k, rfl⟩ : ∃ m, k = m + 1 := ⟨k - 1, by omega⟩
    rw [credenzaref04_Mix.l0, if_pos (by rw [List.length_map]; omega), hrow0, if_neg (by omega), List.take_of_length_le (by omega)]
  | succ d ih =>
    intro k i hi hk
    have hk2 : (d + 1 + 1) * (vals.length + 2) = (d + 1) * (vals.length + 2) + (vals.length + 2) := by rw [Nat.add_mul, Nat.one_mul]
    obtain ⟨k, rfl⟩ : ∃ m, k = (m + vals.length + 1) + 1 := ⟨k - vals.length - 2, by omega⟩
    have hlt : i < wide := by omega
    have hkk : (d + 1) * (vals.length + 2) + 2 ≤ k := by omega
    have hkn : ws.length < k := by
      have : 1 * (vals.length + 2) ≤ (d + 1) * (vals.length + 2) := Nat.mul_le_mul_right _ (by omega)
      omega
    have hcb := colR_bd ws vals (i : Int) hw
    have e1 := mix_l1 ws vals wide i k ((mixR ws vals wide).take i) hw hl hn hr hlt vals.length 0 0 (by omega) (by omega) (by omega)
    rw [List.drop_zero, List.drop_zero, Int.zero_add, show ((0 : Nat) : Int) = 0 from rfl] at e1
    have e2 : (mixR ws vals wide).take i ++ [outR ws (colR ws vals (i : Int))] = (mixR ws vals wide).take (i + 1) := by rw [take_rd (by omega), mixR_at hr hlt]
    rw [credenzaref04_Mix.l0, if_pos (by rw [List.length_map]; omega), hrow0, if_pos (by omega), e1, ref_Sum_some hn hw hkn, Option.bind_some, ref_Ratio_some (by omega) (by omega) (by omega) (by omega), Option.bind_some, ref_Narrow_some, Option.bind_some, if_pos (by rw [List.length_take]; omega), wnext hlt (by omega), show narR (rnd (colR ws vals (i : Int)) (sumR ws)) = outR ws (colR ws vals (i : Int)) from rfl, e2]
    exact ih k (i + 1) (by omega) hkk
theorem ref_Mix_some {ws : List Int} {vals : List (List Int)} {wide : Nat} (hw : WB ws) (hp : 0 < sumR ws) (hl : ws.length = vals.length) (hn : ws.length ≤ 1024) (h0 : 0 < vals.length) (hr : Rows wide vals) (hwd : wide ≤ 16) {k : Nat} (hk : (wide + 1) * (vals.length + 2) + 2 ≤ k) : credenzaref04_Mix.f k ws (vals.map nars) = some (mixR ws vals wide) := by
  have := mix_l0 ws vals wide hw hp hl hn h0 hr hwd wide k 0 (by omega) hk
  rw [List.take_zero] at this
  exact this
/-- what a query gathers, as the document has it -/
def gatherR (q : List Int) (keys vals : List (List Int)) : List Int := mixR (weightsR (keys.map (scoreR q))) vals q.length
theorem scoreR_i32 (q key : List Int) : I32 (scoreR q key) := wideR_bd _
theorem scores_a32 (q : List Int) (keys : List (List Int)) : A32 (keys.map (scoreR q)) := by
  intro x hx
  obtain ⟨y, _, rfl⟩ := List.mem_map.1 hx
  exact scoreR_i32 q y
theorem ref_Gather_loop (q : List Int) (keys vals : List (List Int)) (h1 : 1 ≤ q.length) (h2 : q.length ≤ 16) (hq : A32 q) (hl : keys.length = vals.length) (hn : keys.length ≤ 40) (h0 : 0 < keys.length) (hk : Rows q.length keys) (hv : Rows q.length vals) (hak : AA32 keys) (hav : AA32 vals) : ∀ (d k p : Nat), p + d = keys.length → 900 + d ≤ k → credenzaref14_Gather.l0 k q keys vals ((keys.take p).map (scoreR q)) ((vals.take p).map nars) (p : Int) = some (gatherR q keys vals) := by
  intro d
  induction d with
  | zero =>
    intro k p hp hkk
    obtain ⟨k, rfl⟩ : ∃ m, k = m + 1 := ⟨k - 1, by omega⟩
    have hls : (keys.map (scoreR q)).length = keys.length := List.length_map _
    have hwl := weightsR_length (keys.map (scoreR q))
    have e1 := ref_Weights_some (l := keys.map (scoreR q)) (by omega) (by omega) (scores_a32 q keys) (k := k) (by omega)
    have hm : (q.length + 1) * (vals.length + 2) ≤ 17 * 42 := Nat.mul_le_mul (by omega) (by omega)
    have e2 := ref_Mix_some (ws := weightsR (keys.map (scoreR q))) (vals := vals) (wide := q.length) weightsR_wb (by have := weightsR_pos (l := keys.map (scoreR q)) (by omega); omega) (by omega) (by omega) (by omega) hv h2 (k := k) (by omega)
    rw [credenzaref14_Gather.l0, if_neg (by omega), List.take_of_length_le (by omega), List.take_of_length_le (by omega), e1, Option.bind_some, e2, Option.bind_some, gatherR]
  | succ d ih =>
    intro k p hp hkk
    obtain ⟨k, rfl⟩ : ∃ m, k = m + 1 := ⟨k - 1, by omega⟩
    have hlt : p < keys.length := by omega
    have hlv : p < vals.length := by omega
    have hrk := hk _ (rowAt_mem hlt)
    have hrv := hv _ (rowAt_mem hlv)
    have e1 := ref_Score_some (q := q) (key := rowAt keys (p : Int)) (k := k) hrk.symm h1 h2 hq (hak _ (rowAt_mem hlt)) (by omega)
    have e2 := ref_Narrow_some' (rowAt vals (p : Int)) (by omega) (hav _ (rowAt_mem hlv)) (k := k) (by omega)
    have e3 : (keys.take p).map (scoreR q) ++ [scoreR q (rowAt keys (p : Int))] = (keys.take (p + 1)).map (scoreR q) := by rw [take_row hlt]; simp
    have e4 : (vals.take p).map nars ++ [nars (rowAt vals (p : Int))] = (vals.take (p + 1)).map nars := by rw [take_row hlv]; simp
    rw [credenzaref14_Gather.l0, if_pos (by omega), if_pos (by omega), rdL, rdL, e1, Option.bind_some, if_pos (by rw [List.length_map, List.length_take]; omega), if_pos (by omega), e2, Option.bind_some, if_pos (by rw [List.length_map, List.length_take]; omega), wnext hlt (by omega), e3, e4]
    exact ih k (p + 1) (by omega) (by omega)
theorem ref_Gather_some {q : List Int} {keys vals : List (List Int)} (h1 : 1 ≤ q.length) (h2 : q.length ≤ 16) (hq : A32 q) (hl : keys.length = vals.length) (hn : keys.length ≤ 40) (h0 : 0 < keys.length) (hk : Rows q.length keys) (hv : Rows q.length vals) (hak : AA32 keys) (hav : AA32 vals) {k : Nat} (hkk : 1000 ≤ k) : credenzaref14_Gather.f k q keys vals = some (gatherR q keys vals) :=
  ref_Gather_loop q keys vals h1 h2 hq hl hn h0 hk hv hak hav keys.length k 0 (by omega) (by omega)

/-- are a query and lists right? -/
def Right (q : List Int) (keys vals : List (List Int)) : Prop := keys.length = vals.length ∧ 1 ≤ q.length ∧ q.length ≤ 16 ∧ Rows q.length keys ∧ Rows q.length vals
theorem shaped_loop (l : List (List Int)) (n : Nat) (hl : l.length ≤ 1000000) : ∀ (d k p : Nat), p + d = l.length → d < k → ∃ b, attn_shaped.l0 k (n : Int) l (l.length : Int) (p : Int) = some b ∧ (b = true ↔ Rows n (l.drop p)) := by
  intro d
  induction d with
  | zero =>
    intro k p hp hk
    obtain ⟨k, rfl⟩ : ∃ m, k = m + 1 := ⟨k - 1, by omega⟩
    refine ⟨true, by rw [attn_shaped.l0, if_neg (by omega)], ?_⟩
    rw [List.drop_eq_nil_of_le (by omega)]
    simp [Rows]
  | succ d ih =>
    intro k p hp hk
    obtain ⟨k, rfl⟩ : ∃ m, k = m + 1 := ⟨k - 1, by omega⟩
    have hlt : p < l.length := by omega
    rw [attn_shaped.l0, if_pos (by omega), if_pos (by omega), if_pos (by omega), rdL, drop_row hlt]
    by_cases c : (rowAt l (p : Int)).length = n
    · rw [if_pos (by omega), wnext hlt (by omega)]
      obtain ⟨b, h1, h2⟩ := ih k (p + 1) (by omega) (by omega)
      refine ⟨b, h1, h2.trans ?_⟩
      simp [Rows, c]
    · refine ⟨false, by rw [if_neg (by omega)], ?_⟩
      simp [Rows, c]
theorem shaped_some (l : List (List Int)) (n : Nat) (hl : l.length ≤ 1000000) {k : Nat} (hk : l.length < k) : ∃ b, attn_shaped.f k l (n : Int) = some b ∧ (b = true ↔ Rows n l) := by
  have := shaped_loop l n hl l.length k 0 (by omega) hk
  rw [List.drop_zero] at this
  exact this
/-- an error's number; 0: a query can gather -/
def RightIs (q : List Int) (keys vals : List (List Int)) (e : Int) : Prop := (keys.length = 0 ∧ e = 14) ∨ (0 < keys.length ∧ 1024 < keys.length ∧ e = 12) ∨ (0 < keys.length ∧ keys.length ≤ 1024 ∧ Right q keys vals ∧ e = 0) ∨ (0 < keys.length ∧ keys.length ≤ 1024 ∧ ¬ Right q keys vals ∧ e = 25)
theorem getD0 {l : List (List Int)} (h : 0 < l.length) : l.getD 0 [] ∈ l := rowAt_mem (t := 0) h
theorem attn_right_some {q : List Int} {keys vals : List (List Int)} (hv : vals.length ≤ 1000000) {k : Nat} (hkv : vals.length < k) : ∃ e, attn_right.f k q keys vals = some e ∧ RightIs q keys vals e := by
  unfold attn_right.f RightIs
  by_cases c1 : keys.length = 0
  · exact ⟨14, by rw [if_pos c1], .inl ⟨c1, rfl⟩⟩
  rw [if_neg c1]
  by_cases c2 : 1024 < keys.length
  · exact ⟨12, by rw [if_pos c2], .inr (.inl ⟨by omega, c2, rfl⟩)⟩
  rw [if_neg c2]
  have hm := getD0 (l := keys) (by omega)
  have no : ∀ h : ¬ Right q keys vals, ∃ e, some (25 : Int) = some e ∧ ((keys.length = 0 ∧ e = 14) ∨ (0 < keys.length ∧ 1024 < keys.length ∧ e = 12) ∨ (0 < keys.length ∧ keys.length ≤ 1024 ∧ Right q keys vals ∧ e = 0) ∨ (0 < keys.length ∧ keys.length ≤ 1024 ∧ ¬ Right q keys vals ∧ e = 25)) := fun h => ⟨25, rfl, .inr (.inr (.inr ⟨by omega, by omega, h, rfl⟩))⟩
  by_cases c3 : keys.length = vals.length
  · rw [if_pos c3]
    unfold attn_sized.f
    by_cases c4 : 1 ≤ (keys.getD 0 []).length
    · rw [if_pos (by omega)]
      by_cases c5 : (keys.getD 0 []).length ≤ 16
      · rw [decide_eq_true (by omega), Option.bind_some, if_pos rfl]
        by_cases c6 : q.length = (keys.getD 0 []).length
        · rw [if_pos c6]
          obtain ⟨b, hb, hb2⟩ := shaped_some keys (keys.getD 0 []).length (by omega) (k := k) (by omega)
          obtain ⟨b', hb', hb2'⟩ := shaped_some vals (keys.getD 0 []).length hv hkv
          rw [← c6] at hb2 hb2'
          rw [hb, Option.bind_some]
          cases b with
          | false =>
            rw [if_neg (by simp)]
            exact no (fun h => by have := hb2.2 h.2.2.2.1; cases this)
          | true =>
            rw [if_pos rfl, hb', Option.bind_some]
            cases b' with
            | false =>
              rw [if_neg (by simp)]
              exact no (fun h => by have := hb2'.2 h.2.2.2.2; cases this)
            | true =>
              rw [if_pos rfl]
              exact ⟨0, rfl, .inr (.inr (.inl ⟨by omega, by omega, ⟨c3, by omega, by omega, hb2.1 rfl, hb2'.1 rfl⟩, rfl⟩))⟩
        · rw [if_neg c6]
          exact no (fun h => c6 (h.2.2.2.1 _ hm).symm)
      · rw [decide_eq_false (by omega), Option.bind_some, if_neg (by simp)]
        exact no (fun h => by have := h.2.2.2.1 _ hm; have := h.2.2.1; omega)
    · rw [if_neg (by omega), Option.bind_some, if_neg (by simp)]
      exact no (fun h => by have := h.2.2.2.1 _ hm; have := h.2.1; omega)
  · rw [if_neg c3]
    exact no (fun h => c3 h.1)
theorem ref_right_loop (keys vals : List (List Int)) (n : Nat) (hl : keys.length = vals.length) (hn : keys.length ≤ 1024) : ∀ (d k p : Nat), p + d = keys.length → d < k → (Rows n (keys.drop p) ∧ Rows n (vals.drop p) ∧ credenzaref14_Right.l0 k keys vals (n : Int) (p : Int) = some 0) ∨ (¬ (Rows n (keys.drop p) ∧ Rows n (vals.drop p)) ∧ credenzaref14_Right.l0 k keys vals (n : Int) (p : Int) = some 25) := by
  intro d
  induction d with
  | zero =>
    intro k p hp hk
    obtain ⟨k, rfl⟩ : ∃ m, k = m + 1 := ⟨k - 1, by omega⟩
    refine .inl ⟨?_, ?_, by rw [credenzaref14_Right.l0, if_neg (by omega)]⟩
    · rw [List.drop_eq_nil_of_le (by omega)]; simp [Rows]
    · rw [List.drop_eq_nil_of_le (by omega)]; simp [Rows]
  | succ d ih =>
    intro k p hp hk
    obtain ⟨k, rfl⟩ : ∃ m, k = m + 1 := ⟨k - 1, by omega⟩
    have hlt : p < keys.length := by omega
    have hlv : p < vals.length := by omega
    rw [credenzaref14_Right.l0, if_pos (by omega), if_pos (by omega), rdL, rdL, drop_row hlt, drop_row hlv]
    by_cases c : (rowAt keys (p : Int)).length = n
    · rw [if_pos (by omega), if_pos (by omega)]
      by_cases c2 : (rowAt vals (p : Int)).length = n
      · rw [if_pos (by omega), wnext hlt (by omega)]
        rcases ih k (p + 1) (by omega) (by omega) with ⟨h1, h2, h3⟩ | ⟨h1, h3⟩
        · exact .inl ⟨by simpa [Rows, c] using h1, by simpa [Rows, c2] using h2, h3⟩
        · exact .inr ⟨fun h => h1 ⟨fun r hr => h.1 r (by simp [hr]), fun r hr => h.2 r (by simp [hr])⟩, h3⟩
      · exact .inr ⟨fun h => c2 (h.2 _ (by simp)), by rw [if_neg (by omega)]⟩
    · exact .inr ⟨fun h => c (h.1 _ (by simp)), by rw [if_neg (by omega)]⟩
theorem ref_Right_some {q : List Int} {keys vals : List (List Int)} {k : Nat} (hk : 1026 < k) : ∃ e, credenzaref14_Right.f k q keys vals = some e ∧ RightIs q keys vals e := by
  obtain ⟨k, rfl⟩ : ∃ m, k = m + 1 := ⟨k - 1, by omega⟩
  have j25 : ∀ a b : List (List Int), ∀ n : Int, credenzaref14_Right.j0 (k + 1) a b n true = some 25 := fun a b n => by rw [credenzaref14_Right.j0, if_pos rfl]
  have jl : ∀ a b : List (List Int), ∀ n : Int, credenzaref14_Right.j0 (k + 1) a b n false = credenzaref14_Right.l0 k a b n 0 := fun a b n => by rw [credenzaref14_Right.j0, if_neg (by simp)]
  unfold credenzaref14_Right.f RightIs
  by_cases c1 : keys.length = 0
  · exact ⟨14, by rw [if_pos (by omega)], .inl ⟨c1, rfl⟩⟩
  rw [if_neg (by omega)]
  by_cases c2 : 1024 < keys.length
  · exact ⟨12, by rw [if_pos (by omega)], .inr (.inl ⟨by omega, c2, rfl⟩)⟩
  rw [if_neg (by omega), if_pos (by omega), rdL]
  have hm : rowAt keys 0 ∈ keys := rowAt_mem (t := 0) (by omega)
  have no : ∀ h : ¬ Right q keys vals, ∃ e, some (25 : Int) = some e ∧ ((keys.length = 0 ∧ e = 14) ∨ (0 < keys.length ∧ 1024 < keys.length ∧ e = 12) ∨ (0 < keys.length ∧ keys.length ≤ 1024 ∧ Right q keys vals ∧ e = 0) ∨ (0 < keys.length ∧ keys.length ≤ 1024 ∧ ¬ Right q keys vals ∧ e = 25)) := fun h => ⟨25, rfl, .inr (.inr (.inr ⟨by omega, by omega, h, rfl⟩))⟩
  by_cases c3 : keys.length = vals.length
  · rw [if_pos (by omega)]
    by_cases c6 : q.length = (rowAt keys 0).length
    · rw [if_pos (by omega)]
      by_cases c4 : (rowAt keys 0).length < 1
      · rw [if_pos (by omega), j25]
        exact no (fun h => by have := h.2.1; omega)
      · rw [if_neg (by omega)]
        by_cases c5 : 16 < (rowAt keys 0).length
        · rw [decide_eq_true (by omega), j25]
          exact no (fun h => by have := h.2.2.1; omega)
        · rw [decide_eq_false (by omega), jl]
          have := ref_right_loop keys vals (rowAt keys 0).length c3 (by omega) keys.length k 0 (by omega) (by omega)
          rw [List.drop_zero, List.drop_zero] at this
          rcases this with ⟨h1, h2, h3⟩ | ⟨h1, h3⟩
          · rw [← c6] at h1 h2
            exact ⟨0, h3, .inr (.inr (.inl ⟨by omega, by omega, ⟨c3, by omega, by omega, h1, h2⟩, rfl⟩))⟩
          · rw [← c6] at h1
            exact ⟨25, h3, .inr (.inr (.inr ⟨by omega, by omega, fun h => h1 ⟨h.2.2.2.1, h.2.2.2.2⟩, rfl⟩))⟩
    · rw [if_neg (by omega), j25]
      exact no (fun h => c6 (h.2.2.2.1 _ hm).symm)
  · rw [if_neg (by omega), j25]
    exact no (fun h => c3 h.1)
theorem RightIs.one {q : List Int} {keys vals : List (List Int)} {e e' : Int} (h : RightIs q keys vals e) (h' : RightIs q keys vals e') : e = e' := by
  unfold RightIs at h h'
  rcases h with ⟨h1, rfl⟩ | ⟨h1, h2, rfl⟩ | ⟨h1, h2, h3, rfl⟩ | ⟨h1, h2, h3, rfl⟩ <;> rcases h' with ⟨h1', rfl⟩ | ⟨h1', h2', rfl⟩ | ⟨h1', h2', h3', rfl⟩ | ⟨h1', h2', h3', rfl⟩ <;> first | rfl | omega | exact absurd h3 h3' | exact absurd h3' h3
theorem attn_Gather_some {q : List Int} {keys vals : List (List Int)} (h0 : 0 < keys.length) (hn : keys.length ≤ 1024) (hr : Right q keys vals) (hq : A32 q) (hak : AA32 keys) (hav : AA32 vals) {k : Nat} (hk : 1100 < k) : attn_Gather.f k q keys vals = some (gatherR q keys vals, 0) := by
  obtain ⟨e, he, hi⟩ := attn_right_some (q := q) (keys := keys) (vals := vals) (by have := hr.1; omega) (k := k) (by have := hr.1; omega)
  have hz : e = 0 := hi.one (.inr (.inr (.inl ⟨h0, hn, hr, rfl⟩)))
  subst hz
  obtain ⟨hl, h1, h2, hrk, hrv⟩ := hr
  have hls : (keys.map (scoreR q)).length = keys.length := List.length_map _
  have hwl := weightsR_length (keys.map (scoreR q))
  have e1 := attn_cut_some q (by omega) hq (k := k) (by omega)
  have e2 := scores_some h1 h2 (k := k) (by omega) keys [] hrk hak
  rw [List.nil_append] at e2
  have e3 := soft_Weights_some (l := keys.map (scoreR q)) (by omega) (by omega) (scores_a32 q keys) (k := k) (by omega)
  have e4 := attn_gather_some (ws := weightsR (keys.map (scoreR q))) (vals := vals) (wide := q.length) (by omega) (by omega) weightsR_wb (by have := weightsR_pos (l := keys.map (scoreR q)) (by omega); omega) (fun v hv => ⟨hrv v hv, hav v hv⟩) (k := k) (by omega)
  rw [attn_Gather.f, attn_Fused.f, he, Option.bind_some, if_pos rfl, e1, Option.bind_some, e2, Option.bind_some, e3, Option.bind_some, if_pos rfl, e4, Option.bind_some, gatherR]
theorem attn_Gather_no {q : List Int} {keys vals : List (List Int)} {e : Int} (hv : vals.length ≤ 1000000) (hi : RightIs q keys vals e) (h : e ≠ 0) {k : Nat} (hkv : vals.length < k) : attn_Gather.f k q keys vals = some ([], e) := by
  obtain ⟨e', he, hi'⟩ := attn_right_some (q := q) (keys := keys) (vals := vals) hv (k := k) hkv
  have hz : e' = e := hi'.one hi
  subst hz
  rw [attn_Gather.f, attn_Fused.f, he, Option.bind_some, if_neg h]
end Go.Proofs.Yteflolamihhmdaa.Pure
