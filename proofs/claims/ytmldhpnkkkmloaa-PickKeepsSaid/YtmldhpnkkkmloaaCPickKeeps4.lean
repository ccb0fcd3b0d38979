/- Of any scores just those places are kept that the document says: as many as may be, none of which is less than one that isn't. Conditions: as each theorem states; the last one has none. -/
import Derived.Laws.Bits64
import Derived.IntWalk
import Derived.Test.YtmldhpnkkkmloaaRows
import Derived.WalkKit
import Derived.ProofKit
import Derived.OpenShut
import Derived.ShutString
import Derived.ChangeOld
import Derived.Below
import Derived.SizedLaws
import Derived.Test.YtmldhpnkkkmloaaWSized
import Derived.Test.YtmldhpnkkkmloaaCPickKeeps1
import Derived.Test.YtmldhpnkkkmloaaCPickKeeps2
import Derived.Test.YtmldhpnkkkmloaaCPickKeeps3
namespace Go.Proofs.Ytmldhpnkkkmloaa.Q
open Go.RowKit Go.Proofs.YtmldhpnkkkmloaaW.PrintWords Go.Proofs.YtmldhpnkkkmloaaW.PrintLast Go.Proofs.YtmldhpnkkkmloaaW.PrintMore
attribute [local go_sem] max2_int min2_int max_two min_two max_three min_three max_four min_four   -- for this text's walks alone
set_option linter.unusedVariables false
set_option linter.unusedSimpArgs false

/-! ### credenzalaw20_PickKeeps: function 4 -/
mutual
def credenzalaw20_PickKeeps.j0 : Nat → List Int → Int → Bool → Option (Bool)
  | 0, _, _, _ => none
  | k + 1, x0, x1, x18 => if x18 = true then ((credenzalaw20_awake.f k).bind fun t363 => (some t363)) else ((pick_Kept.f x0 x1).bind fun t364 => ((credenzaref20_Kept.f k x0 x1).bind fun t367 => (if (t364.length : Int) = (t367.length : Int) then (if 0 ≤ (x0.length : Int) then (if ((x0.length : Int) : Int).toNat ≤ 281474976710656 then (credenzalaw20_PickKeeps.l0 k x0 x1 t364 t367 (List.replicate ((x0.length : Int) : Int).toNat false) t364 (t364.length : Int) 0) else (none)) else (none)) else (some false))))
def credenzalaw20_PickKeeps.l0 : Nat → List Int → Int → List Int → List Int → List Bool → List Int → Int → Int → Option (Bool)
  | 0, _, _, _, _, _, _, _, _ => none
  | k + 1, x0, x1, x5, x6, x7, x34, x35, x36 => if x36 < x35 then (if 0 ≤ x36 then (if x36 < (x34.length : Int) then (if x36 < (x6.length : Int) then (if (rd x34 x36) = (rd x6 x36) then (if 0 ≤ (rd x34 x36) then (if (rd x34 x36) < (x7.length : Int) then (credenzalaw20_PickKeeps.l0 k x0 x1 x5 x6 (x7.set ((rd x34 x36) : Int).toNat true) x34 x35 (wrap64 (x36 + 1))) else (none)) else (none)) else (some false)) else (none)) else (none)) else (none)) else (credenzalaw20_PickKeeps.l1 k x0 x1 x5 x7 (x0.length : Int) 0)
def credenzalaw20_PickKeeps.l1 : Nat → List Int → Int → List Int → List Bool → Int → Int → Option (Bool)
  | 0, _, _, _, _, _, _ => none
  | k + 1, x0, x1, x5, x7, x52, x53 => if x53 < x52 then (credenzalaw20_PickKeeps.l2 k x0 x1 x5 x7 x53 x52 x53 (x0.length : Int) 0) else (if x1 = 0 then ((credenzalaw20_awake.f k).bind fun t376 => (some t376)) else (if (x5.length : Int) = (mn x1 (x0.length : Int)) then ((credenzalaw20_awake.f k).bind fun t377 => (some t377)) else (some false)))
def credenzalaw20_PickKeeps.l2 : Nat → List Int → Int → List Int → List Bool → Int → Int → Int → Int → Int → Option (Bool)
  | 0, _, _, _, _, _, _, _, _, _ => none
  | k + 1, x0, x1, x5, x7, x10, x52, x53, x57, x58 => if x58 < x57 then (if 0 ≤ x10 then (if x10 < (x7.length : Int) then (if rdOf false x7 x10 = true then (if 0 ≤ x58 then (if x58 < (x7.length : Int) then (if rdOf false x7 x58 = true then (credenzalaw20_PickKeeps.l2 k x0 x1 x5 x7 x10 x52 x53 x57 (wrap64 (x58 + 1))) else (if x10 < (x0.length : Int) then (if x58 < (x0.length : Int) then (if (rd x0 x10) < (rd x0 x58) then (some false) else (credenzalaw20_PickKeeps.l2 k x0 x1 x5 x7 x10 x52 x53 x57 (wrap64 (x58 + 1)))) else (none)) else (none))) else (none)) else (none)) else (credenzalaw20_PickKeeps.l2 k x0 x1 x5 x7 x10 x52 x53 x57 (wrap64 (x58 + 1)))) else (none)) else (none)) else (credenzalaw20_PickKeeps.l1 k x0 x1 x5 x7 x52 (wrap64 (x53 + 1)))
end
def credenzalaw20_PickKeeps.f (k : Nat) (l0 : List Int) (a1 : Int) : Option (Bool) := if (l0.length : Int) > 100 then (credenzalaw20_PickKeeps.j0 k l0 a1 true) else (credenzalaw20_PickKeeps.j0 k l0 a1 (decide (a1 < 0)))
theorem credenzalaw20_PickKeeps.mono_l : ∀ k, (∀ y0 y1 y2, LeO (credenzalaw20_PickKeeps.j0 k y0 y1 y2) (credenzalaw20_PickKeeps.j0 (k + 1) y0 y1 y2)) ∧ (∀ y0 y1 y2 y3 y4 y5 y6 y7, LeO (credenzalaw20_PickKeeps.l0 k y0 y1 y2 y3 y4 y5 y6 y7) (credenzalaw20_PickKeeps.l0 (k + 1) y0 y1 y2 y3 y4 y5 y6 y7)) ∧ (∀ y0 y1 y2 y3 y4 y5, LeO (credenzalaw20_PickKeeps.l1 k y0 y1 y2 y3 y4 y5) (credenzalaw20_PickKeeps.l1 (k + 1) y0 y1 y2 y3 y4 y5)) ∧ (∀ y0 y1 y2 y3 y4 y5 y6 y7 y8, LeO (credenzalaw20_PickKeeps.l2 k y0 y1 y2 y3 y4 y5 y6 y7 y8) (credenzalaw20_PickKeeps.l2 (k + 1) y0 y1 y2 y3 y4 y5 y6 y7 y8))
  | 0 => ⟨fun _ _ _ r h => by simp [credenzalaw20_PickKeeps.j0] at h, fun _ _ _ _ _ _ _ _ r h => by simp [credenzalaw20_PickKeeps.l0] at h, fun _ _ _ _ _ _ r h => by simp [credenzalaw20_PickKeeps.l1] at h, fun _ _ _ _ _ _ _ _ _ r h => by simp [credenzalaw20_PickKeeps.l2] at h⟩
  | k + 1 => by
    obtain ⟨ih0, ih1, ih2, ih3⟩ := credenzalaw20_PickKeeps.mono_l k
    refine ⟨?_, ?_, ?_, ?_⟩
    · intro y0 y1 y2
      unfold credenzalaw20_PickKeeps.j0
      repeat' first
      | (with_reducible exact ih0 _ _ _)
      | (with_reducible exact ih1 _ _ _ _ _ _ _ _)
      | (with_reducible exact ih2 _ _ _ _ _ _)
      | (with_reducible exact ih3 _ _ _ _ _ _ _ _ _)
      | (with_reducible exact credenzalaw20_awake.mono _)
      | (with_reducible exact credenzaref20_Kept.mono _ _ _)
      | (with_reducible exact LeO.refl _)
      | (with_reducible exact LeO.none _)
      | (with_reducible refine LeO.ite ?_ ?_)
      | (with_reducible refine LeO.bind ?_ (fun _ => ?_))
      | exact ih0 _ _ _
      | exact ih1 _ _ _ _ _ _ _ _
      | exact ih2 _ _ _ _ _ _
      | exact ih3 _ _ _ _ _ _ _ _ _
      | exact credenzalaw20_awake.mono _
      | exact credenzaref20_Kept.mono _ _ _
      | exact LeO.none _
      | refine LeO.ite ?_ ?_
      | refine LeO.bind ?_ (fun _ => ?_)
    · intro y0 y1 y2 y3 y4 y5 y6 y7
      unfold credenzalaw20_PickKeeps.l0
      repeat' first
      | (with_reducible exact ih0 _ _ _)
      | (with_reducible exact ih1 _ _ _ _ _ _ _ _)
      | (with_reducible exact ih2 _ _ _ _ _ _)
      | (with_reducible exact ih3 _ _ _ _ _ _ _ _ _)
      | (with_reducible exact credenzalaw20_awake.mono _)
      | (with_reducible exact credenzaref20_Kept.mono _ _ _)
      | (with_reducible exact LeO.refl _)
      | (with_reducible exact LeO.none _)
      | (with_reducible refine LeO.ite ?_ ?_)
      | (with_reducible refine LeO.bind ?_ (fun _ => ?_))
      | exact ih0 _ _ _
      | exact ih1 _ _ _ _ _ _ _ _
      | exact ih2 _ _ _ _ _ _
      | exact ih3 _ _ _ _ _ _ _ _ _
      | exact credenzalaw20_awake.mono _
      | exact credenzaref20_Kept.mono _ _ _
      | exact LeO.none _
      | refine LeO.ite ?_ ?_
      | refine LeO.bind ?_ (fun _ => ?_)
    · intro y0 y1 y2 y3 y4 y5
      unfold credenzalaw20_PickKeeps.l1
      repeat' first
      | (with_reducible exact ih0 _ _ _)
      | (with_reducible exact ih1 _ _ _ _ _ _ _ _)
      | (with_reducible exact ih2 _ _ _ _ _ _)
      | (with_reducible exact ih3 _ _ _ _ _ _ _ _ _)
      | (with_reducible exact credenzalaw20_awake.mono _)
      | (with_reducible exact credenzaref20_Kept.mono _ _ _)
      | (with_reducible exact LeO.refl _)
      | (with_reducible exact LeO.none _)
      | (with_reducible refine LeO.ite ?_ ?_)
      | (with_reducible refine LeO.bind ?_ (fun _ => ?_))
      | exact ih0 _ _ _
      | exact ih1 _ _ _ _ _ _ _ _
      | exact ih2 _ _ _ _ _ _
      | exact ih3 _ _ _ _ _ _ _ _ _
      | exact credenzalaw20_awake.mono _
      | exact credenzaref20_Kept.mono _ _ _
      | exact LeO.none _
      | refine LeO.ite ?_ ?_
      | refine LeO.bind ?_ (fun _ => ?_)
    · intro y0 y1 y2 y3 y4 y5 y6 y7 y8
      unfold credenzalaw20_PickKeeps.l2
      repeat' first
      | (with_reducible exact ih0 _ _ _)
      | (with_reducible exact ih1 _ _ _ _ _ _ _ _)
      | (with_reducible exact ih2 _ _ _ _ _ _)
      | (with_reducible exact ih3 _ _ _ _ _ _ _ _ _)
      | (with_reducible exact credenzalaw20_awake.mono _)
      | (with_reducible exact credenzaref20_Kept.mono _ _ _)
      | (with_reducible exact LeO.refl _)
      | (with_reducible exact LeO.none _)
      | (with_reducible refine LeO.ite ?_ ?_)
      | (with_reducible refine LeO.bind ?_ (fun _ => ?_))
      | exact ih0 _ _ _
      | exact ih1 _ _ _ _ _ _ _ _
      | exact ih2 _ _ _ _ _ _
      | exact ih3 _ _ _ _ _ _ _ _ _
      | exact credenzalaw20_awake.mono _
      | exact credenzaref20_Kept.mono _ _ _
      | exact LeO.none _
      | refine LeO.ite ?_ ?_
      | refine LeO.bind ?_ (fun _ => ?_)
theorem credenzalaw20_PickKeeps.mono : ∀ a0 a1 k, LeO (credenzalaw20_PickKeeps.f k a0 a1) (credenzalaw20_PickKeeps.f (k + 1) a0 a1) := by
  intro a0 a1 k
  obtain ⟨ih0, ih1, ih2, ih3⟩ := credenzalaw20_PickKeeps.mono_l k
  unfold credenzalaw20_PickKeeps.f
  repeat' first
      | (with_reducible exact ih0 _ _ _)
      | (with_reducible exact ih1 _ _ _ _ _ _ _ _)
      | (with_reducible exact ih2 _ _ _ _ _ _)
      | (with_reducible exact ih3 _ _ _ _ _ _ _ _ _)
      | (with_reducible exact credenzalaw20_awake.mono _)
      | (with_reducible exact credenzaref20_Kept.mono _ _ _)
      | (with_reducible exact LeO.refl _)
      | (with_reducible exact LeO.none _)
      | (with_reducible refine LeO.ite ?_ ?_)
      | (with_reducible refine LeO.bind ?_ (fun _ => ?_))
      | exact ih0 _ _ _
      | exact ih1 _ _ _ _ _ _ _ _
      | exact ih2 _ _ _ _ _ _
      | exact ih3 _ _ _ _ _ _ _ _ _
      | exact credenzalaw20_awake.mono _
      | exact credenzaref20_Kept.mono _ _ _
      | exact LeO.none _
      | refine LeO.ite ?_ ?_
      | refine LeO.bind ?_ (fun _ => ?_)
set_option maxHeartbeats 8000000 in
set_option maxRecDepth 100000 in
theorem credenzalaw20_PickKeeps.calls (k : Nat) (A0 : Option Addr) (c0 : Nat) (l0 : List Int) (a1 : Int) (r : Bool) (w : World) (hr0 : Kd.C (Kd.int .i32) w A0 l0.length l0) (hc0 : l0.length ≤ c0) (h : credenzalaw20_PickKeeps.f k l0 a1 = some r) :
    Calls Try.prog 4 #[.slice A0 l0.length c0, .int .i64 a1] w fun e w' => e = .returned (.bool r) ∧ Below w.heap.size w w' := by
  have HR0 := Aside0.mk hr0
  have HC0 := Aside0.mk hc0
  clear hr0 hc0
  have HB := Aside0.mk (Below.refl w.heap.size w)
  have H : (if (l0.length : Int) > 100 then (credenzalaw20_PickKeeps.j0 k l0 a1 true) else (credenzalaw20_PickKeeps.j0 k l0 a1 (decide (a1 < 0)))) = some r := h
  clear h
  have HC3 := Aside0.mk H
  clear H
  go_enter Try.func4, Try.ntmps4
  go_upto_region 1 with (fail)
  repeat (go_quiet (fail); go_upto_region 1 with (fail))
  go_cut [18] (fun v18 wc => ∃ (kq : Nat) (x18_2 : Bool), v18 = .bool x18_2 ∧ Aside0 (credenzalaw20_PickKeeps.j0 kq l0 a1 x18_2 = some r) ∧ Aside0 (kq ≤ k) ∧ Aside0 (Below w.heap.size w wc))
  case first =>
    have H := HC3.out
    clear HC3
    by_cases c4 : (l0.length : Int) > 100
    · rw [if_pos c4] at H
      have c4b0 : decide (100 < (l0.length : Int)) = true := decide_eq_true c4
      have c4b1 : decide (100 < l0.length) = true := decide_eq_true (by omega)
      clear c4
      (first | rw [c4b0] | (simp only [i64_w, i32_w]; rw [c4b0]) | skip)
      have H' := Aside0.mk H
      clear H
      go_wp2
      repeat (go_quiet (fail); try go_wp2)
      go_meet
      case rel => exact ⟨_, (true), (by first | rfl | (simp; done) | (simp [*]; done)), H', ⟨by first | omega | exact Nat.le_refl _⟩, ⟨by repeat (first | (with_reducible first | exact HB.out | apply below_alloc | apply pw_below_drewN | apply below_drew1) | exact HB.out)⟩⟩
    · rw [if_neg c4] at H
      have c4b0 : decide (100 < (l0.length : Int)) = false := decide_eq_false c4
      have c4b1 : decide (100 < l0.length) = false := decide_eq_false (by omega)
      clear c4
      (first | rw [c4b0] | (simp only [i64_w, i32_w]; rw [c4b0]) | skip)
      have H' := Aside0.mk H
      clear H
      go_wp2
      repeat (go_quiet (fail); try go_wp2)
      go_meet
      case rel => exact ⟨_, (decide (a1 < 0)), (by first | rfl | (simp; done) | (simp [*]; done)), H', ⟨by first | omega | exact Nat.le_refl _⟩, ⟨by repeat (first | (with_reducible first | exact HB.out | apply below_alloc | apply pw_below_drewN | apply below_drew1) | exact HB.out)⟩⟩
  case rest =>
    clear HC3
    try clear p2
    try clear c4
    try clear c4b0
    try clear c4b1
    obtain ⟨kq, x18_2, rfl, HA, HJ2, HB⟩ := hcut
    cases kq with
    | zero => exact absurd HA.out (by simp [credenzalaw20_PickKeeps.j0])
    | succ kj2 =>
      have H := HA.out
      clear HA
      simp only [credenzalaw20_PickKeeps.j0] at H
      by_cases c5 : x18_2 = true
      · subst c5
        have H1 : ((credenzalaw20_awake.f kj2).bind fun t363 => (some t363)) = some r := by rw [if_pos rfl] at H; exact H
        clear H
        have H := H1
        clear H1
        replace H := Option.bind_eq_some_iff.mp H
        obtain ⟨t363, A60, H⟩ := H
        replace H : (some t363) = some r := H
        have A6 := Aside0.mk A60
        clear A60
        obtain rfl := Option.some.inj H
        go_wp2_with (first | (go_at_call 8; (with_reducible refine (credenzalaw20_awake.calls kj2  t363 _ A6.out).mono ?_); rintro e w7 ⟨rfl, hb⟩; have n0_ := Aside0.mk (below_step (by repeat (first | (with_reducible first | exact HB.out | apply below_alloc | apply pw_below_drewN | apply below_drew1) | exact HB.out)) hb); clear HB; have HB := n0_; clear n0_; (try clear hb); (try clear hb2); (try clear hk); (try clear hi)))
        repeat (go_quiet (first | (go_at_call 8; (with_reducible refine (credenzalaw20_awake.calls kj2  t363 _ A6.out).mono ?_); rintro e w7 ⟨rfl, hb⟩; have n0_ := Aside0.mk (below_step (by repeat (first | (with_reducible first | exact HB.out | apply below_alloc | apply pw_below_drewN | apply below_drew1) | exact HB.out)) hb); clear HB; have HB := n0_; clear n0_; (try clear hb); (try clear hb2); (try clear hk); (try clear hi))); try go_wp2_with (first | (go_at_call 8; (with_reducible refine (credenzalaw20_awake.calls kj2  t363 _ A6.out).mono ?_); rintro e w7 ⟨rfl, hb⟩; have n0_ := Aside0.mk (below_step (by repeat (first | (with_reducible first | exact HB.out | apply below_alloc | apply pw_below_drewN | apply below_drew1) | exact HB.out)) hb); clear HB; have HB := n0_; clear n0_; (try clear hb); (try clear hb2); (try clear hk); (try clear hi))))
        go_ret
        exact ⟨by first | rfl | (simp [errW_none, errW_some] <;> rfl) | (simp [*, errW_none, errW_some] <;> rfl), by repeat (first | (with_reducible first | exact HB.out | apply below_alloc | apply pw_below_drewN | apply below_drew1) | exact HB.out)⟩
      · replace c5 := Bool.eq_false_iff.mpr c5
        subst c5
        have H1 : ((pick_Kept.f l0 a1).bind fun t364 => ((credenzaref20_Kept.f kj2 l0 a1).bind fun t367 => (if (t364.length : Int) = (t367.length : Int) then (if 0 ≤ (l0.length : Int) then (if ((l0.length : Int) : Int).toNat ≤ 281474976710656 then (credenzalaw20_PickKeeps.l0 kj2 l0 a1 t364 t367 (List.replicate ((l0.length : Int) : Int).toNat false) t364 (t364.length : Int) 0) else (none)) else (none)) else (some false)))) = some r := by rw [if_neg (show ¬ (false = true) by decide)] at H; exact H
        clear H
        have H := H1
        clear H1
        replace H := Option.bind_eq_some_iff.mp H
        obtain ⟨t364, A80, H⟩ := H
        replace H : ((credenzaref20_Kept.f kj2 l0 a1).bind fun t367 => (if (t364.length : Int) = (t367.length : Int) then (if 0 ≤ (l0.length : Int) then (if ((l0.length : Int) : Int).toNat ≤ 281474976710656 then (credenzalaw20_PickKeeps.l0 kj2 l0 a1 t364 t367 (List.replicate ((l0.length : Int) : Int).toNat false) t364 (t364.length : Int) 0) else (none)) else (none)) else (some false))) = some r := H
        have A8 := Aside0.mk A80
        clear A80
        replace H := Option.bind_eq_some_iff.mp H
        obtain ⟨t367, A90, H⟩ := H
        replace H : (if (t364.length : Int) = (t367.length : Int) then (if 0 ≤ (l0.length : Int) then (if ((l0.length : Int) : Int).toNat ≤ 281474976710656 then (credenzalaw20_PickKeeps.l0 kj2 l0 a1 t364 t367 (List.replicate ((l0.length : Int) : Int).toNat false) t364 (t364.length : Int) 0) else (none)) else (none)) else (some false)) = some r := H
        have A9 := Aside0.mk A90
        clear A90
        by_cases c10 : (t364.length : Int) = (t367.length : Int)
        · rw [if_pos c10] at H
          have c10b0 : ((t364.length : Int) == (t367.length : Int)) = true := beq_iff_eq.mpr c10
          have c10b1 : ((t364.length : Int) != (t367.length : Int)) = false := bne_eq_false_iff_eq.mpr c10
          have c10b2 : (t364.length == t367.length) = true := by first | simpa using c10 | (simp at c10 ⊢; omega)
          clear c10
          by_cases c11 : 0 ≤ (l0.length : Int)
          · rw [if_pos c11] at H
            have c11b0 := eq_true c11
            have c11b1 : decide (0 ≤ (l0.length : Int)) = true := decide_eq_true c11
            clear c11
            by_cases c12 : ((l0.length : Int) : Int).toNat ≤ 281474976710656
            · rw [if_pos c12] at H
              have c12b0 := eq_true c12
              have c12b1 : decide (((l0.length : Int) : Int).toNat ≤ 281474976710656) = true := decide_eq_true c12
              clear c12
              obtain ⟨y370, hy370⟩ : ∃ y_ : List Bool, y_ = (List.replicate ((l0.length : Int) : Int).toNat false) := ⟨_, rfl⟩
              replace H : (credenzalaw20_PickKeeps.l0 kj2 l0 a1 t364 t367 y370 t364 (t364.length : Int) 0) = some r := by first | (rw [hy370]; with_reducible exact H) | (have H2_ := (Option.bind_some _ _).symm.trans H; rw [hy370]; with_reducible exact H2_) | (have H2_ := (Option.bind_some _ _).symm.trans H; with_reducible exact H2_) | with_reducible exact H | (rw [hy370]; exact H) | exact H
              have Ny370 := Aside0.mk hy370
              clear hy370
              have H' := Aside0.mk H
              clear H
              go_wp2_with (first | (go_at_call 14; (with_reducible refine (pick_Kept.calls _ _ l0 a1 t364 _ ?side1 ?side2 A8.out).mono ?_); (case side1 => repeat (first | exact (Kd.C_below HR0.out HB.out) | (with_reducible refine Kd.C_alloc ?_ _) | (with_reducible refine Kd.C_drewN ?_ _) | (with_reducible refine Kd.C_drew ?_))); (case side2 => exact HC0.out); rintro e w13 ⟨v365, rfl, ho0, hb⟩; have n0_ := Aside0.mk (Kd.R_lower ho0 (below_size (by repeat (first | (with_reducible first | exact HB.out | apply below_alloc | apply pw_below_drewN | apply below_drew1) | exact HB.out)))); have n1_ := Aside0.mk (below_step (by repeat (first | (with_reducible first | exact HB.out | apply below_alloc | apply pw_below_drewN | apply below_drew1) | exact HB.out)) hb); clear HB; have HO366 := n0_; have HB := n1_; clear n0_ n1_; (try clear hb); (try clear hb2); (try clear hk); (try clear hi); (try clear ho0)) | (go_at_call 12; (with_reducible refine (credenzaref20_Kept.calls kj2 _ _ l0 a1 t367 _ ?side1 ?side2 A9.out).mono ?_); (case side1 => repeat (first | exact (Kd.C_below HR0.out HB.out) | (with_reducible refine Kd.C_alloc ?_ _) | (with_reducible refine Kd.C_drewN ?_ _) | (with_reducible refine Kd.C_drew ?_))); (case side2 => exact HC0.out); rintro e w14 ⟨v368, rfl, ho0, hb⟩; have n0_ := Aside0.mk (Kd.R_elder' (by (with_reducible repeat (first | apply Kd.R_alloc | apply Kd.R_drewN | apply Kd.R_drew)); exact HO366.out) (Kd.R_base ho0) hb); have n1_ := Aside0.mk (Kd.R_lower (Kd.R_new' ho0 (Kd.R_lt (by (with_reducible repeat (first | apply Kd.R_alloc | apply Kd.R_drewN | apply Kd.R_drew)); exact HO366.out))) (below_size (by repeat (first | (with_reducible first | exact HB.out | apply below_alloc | apply pw_below_drewN | apply below_drew1) | exact HB.out)))); have n2_ := Aside0.mk (below_step (by repeat (first | (with_reducible first | exact HB.out | apply below_alloc | apply pw_below_drewN | apply below_drew1) | exact HB.out)) hb); clear HO366; clear HB; have HO366 := n0_; have HO369 := n1_; have HB := n2_; clear n0_ n1_ n2_; (try clear hb); (try clear hb2); (try clear hk); (try clear hi); (try clear ho0); obtain ⟨Ao15, co15, eo15⟩ := Kd.R_slice HO366.out; subst eo15; obtain ⟨Ao16, co16, eo16⟩ := Kd.R_slice HO369.out; subst eo16) | ((with_reducible refine gate_dst (N := 33) rfl ?_); (try (refine gate_guard (by rfl) ?_; dsimp only)); refine Kd.R_make Kd.bool _ 4 rfl (N := 33) rfl 38 _ _ rfl (l0.length : Int) rfl rfl Try.underlying38 (.bool false) 1 info4 rfl (by decide) (by omega) false (ok := fun _ => True) (okp := fun _ => True) rfl (fun _ hk => hk) trivial (of_decide_eq_true (by first | (with_reducible assumption) | assumption)) (Nat.le_trans (Nat.mul_le_mul_right _ (of_decide_eq_true (by first | (with_reducible assumption) | assumption) : (l0.length : Int).toNat ≤ 281474976710656)) (by omega)) (Below.refl _ _) (Nat.le_refl _) ?_; intro v371 w17 ho18 hb hg_ hnew_; clear hg_ hnew_; (first | rw [← Ny370.out] at ho18 | (simp only [Int.reduceToNat] at ho18; rw [← Ny370.out] at ho18)); have n0_ := Aside0.mk (Kd.R_below (by (with_reducible repeat (first | apply Kd.R_alloc | apply Kd.R_drewN | apply Kd.R_drew)); exact HO366.out) hb); have n1_ := Aside0.mk (Kd.R_below (by (with_reducible repeat (first | apply Kd.R_alloc | apply Kd.R_drewN | apply Kd.R_drew)); exact HO369.out) hb); have n2_ := Aside0.mk (Kd.R_lower ho18 (below_size (by repeat (first | (with_reducible first | exact HB.out | apply below_alloc | apply pw_below_drewN | apply below_drew1) | exact HB.out)))); have n3_ := Aside0.mk (below_step (by repeat (first | (with_reducible first | exact HB.out | apply below_alloc | apply pw_below_drewN | apply below_drew1) | exact HB.out)) hb); clear HO366; clear HO369; clear HB; have HO366 := n0_; have HO369 := n1_; have HO372 := n2_; have HB := n3_; clear n0_ n1_ n2_ n3_; clear hb ho18))
              repeat (go_quiet (first | (go_at_call 14; (with_reducible refine (pick_Kept.calls _ _ l0 a1 t364 _ ?side1 ?side2 A8.out).mono ?_); (case side1 => repeat (first | exact (Kd.C_below HR0.out HB.out) | (with_reducible refine Kd.C_alloc ?_ _) | (with_reducible refine Kd.C_drewN ?_ _) | (with_reducible refine Kd.C_drew ?_))); (case side2 => exact HC0.out); rintro e w13 ⟨v365, rfl, ho0, hb⟩; have n0_ := Aside0.mk (Kd.R_lower ho0 (below_size (by repeat (first | (with_reducible first | exact HB.out | apply below_alloc | apply pw_below_drewN | apply below_drew1) | exact HB.out)))); have n1_ := Aside0.mk (below_step (by repeat (first | (with_reducible first | exact HB.out | apply below_alloc | apply pw_below_drewN | apply below_drew1) | exact HB.out)) hb); clear HB; have HO366 := n0_; have HB := n1_; clear n0_ n1_; (try clear hb); (try clear hb2); (try clear hk); (try clear hi); (try clear ho0)) | (go_at_call 12; (with_reducible refine (credenzaref20_Kept.calls kj2 _ _ l0 a1 t367 _ ?side1 ?side2 A9.out).mono ?_); (case side1 => repeat (first | exact (Kd.C_below HR0.out HB.out) | (with_reducible refine Kd.C_alloc ?_ _) | (with_reducible refine Kd.C_drewN ?_ _) | (with_reducible refine Kd.C_drew ?_))); (case side2 => exact HC0.out); rintro e w14 ⟨v368, rfl, ho0, hb⟩; have n0_ := Aside0.mk (Kd.R_elder' (by (with_reducible repeat (first | apply Kd.R_alloc | apply Kd.R_drewN | apply Kd.R_drew)); exact HO366.out) (Kd.R_base ho0) hb); have n1_ := Aside0.mk (Kd.R_lower (Kd.R_new' ho0 (Kd.R_lt (by (with_reducible repeat (first | apply Kd.R_alloc | apply Kd.R_drewN | apply Kd.R_drew)); exact HO366.out))) (below_size (by repeat (first | (with_reducible first | exact HB.out | apply below_alloc | apply pw_below_drewN | apply below_drew1) | exact HB.out)))); have n2_ := Aside0.mk (below_step (by repeat (first | (with_reducible first | exact HB.out | apply below_alloc | apply pw_below_drewN | apply below_drew1) | exact HB.out)) hb); clear HO366; clear HB; have HO366 := n0_; have HO369 := n1_; have HB := n2_; clear n0_ n1_ n2_; (try clear hb); (try clear hb2); (try clear hk); (try clear hi); (try clear ho0); obtain ⟨Ao15, co15, eo15⟩ := Kd.R_slice HO366.out; subst eo15; obtain ⟨Ao16, co16, eo16⟩ := Kd.R_slice HO369.out; subst eo16) | ((with_reducible refine gate_dst (N := 33) rfl ?_); (try (refine gate_guard (by rfl) ?_; dsimp only)); refine Kd.R_make Kd.bool _ 4 rfl (N := 33) rfl 38 _ _ rfl (l0.length : Int) rfl rfl Try.underlying38 (.bool false) 1 info4 rfl (by decide) (by omega) false (ok := fun _ => True) (okp := fun _ => True) rfl (fun _ hk => hk) trivial (of_decide_eq_true (by first | (with_reducible assumption) | assumption)) (Nat.le_trans (Nat.mul_le_mul_right _ (of_decide_eq_true (by first | (with_reducible assumption) | assumption) : (l0.length : Int).toNat ≤ 281474976710656)) (by omega)) (Below.refl _ _) (Nat.le_refl _) ?_; intro v371 w17 ho18 hb hg_ hnew_; clear hg_ hnew_; (first | rw [← Ny370.out] at ho18 | (simp only [Int.reduceToNat] at ho18; rw [← Ny370.out] at ho18)); have n0_ := Aside0.mk (Kd.R_below (by (with_reducible repeat (first | apply Kd.R_alloc | apply Kd.R_drewN | apply Kd.R_drew)); exact HO366.out) hb); have n1_ := Aside0.mk (Kd.R_below (by (with_reducible repeat (first | apply Kd.R_alloc | apply Kd.R_drewN | apply Kd.R_drew)); exact HO369.out) hb); have n2_ := Aside0.mk (Kd.R_lower ho18 (below_size (by repeat (first | (with_reducible first | exact HB.out | apply below_alloc | apply pw_below_drewN | apply below_drew1) | exact HB.out)))); have n3_ := Aside0.mk (below_step (by repeat (first | (with_reducible first | exact HB.out | apply below_alloc | apply pw_below_drewN | apply below_drew1) | exact HB.out)) hb); clear HO366; clear HO369; clear HB; have HO366 := n0_; have HO369 := n1_; have HO372 := n2_; have HB := n3_; clear n0_ n1_ n2_ n3_; clear hb ho18)); try go_wp2_with (first | (go_at_call 14; (with_reducible refine (pick_Kept.calls _ _ l0 a1 t364 _ ?side1 ?side2 A8.out).mono ?_); (case side1 => repeat (first | exact (Kd.C_below HR0.out HB.out) | (with_reducible refine Kd.C_alloc ?_ _) | (with_reducible refine Kd.C_drewN ?_ _) | (with_reducible refine Kd.C_drew ?_))); (case side2 => exact HC0.out); rintro e w13 ⟨v365, rfl, ho0, hb⟩; have n0_ := Aside0.mk (Kd.R_lower ho0 (below_size (by repeat (first | (with_reducible first | exact HB.out | apply below_alloc | apply pw_below_drewN | apply below_drew1) | exact HB.out)))); have n1_ := Aside0.mk (below_step (by repeat (first | (with_reducible first | exact HB.out | apply below_alloc | apply pw_below_drewN | apply below_drew1) | exact HB.out)) hb); clear HB; have HO366 := n0_; have HB := n1_; clear n0_ n1_; (try clear hb); (try clear hb2); (try clear hk); (try clear hi); (try clear ho0)) | (go_at_call 12; (with_reducible refine (credenzaref20_Kept.calls kj2 _ _ l0 a1 t367 _ ?side1 ?side2 A9.out).mono ?_); (case side1 => repeat (first | exact (Kd.C_below HR0.out HB.out) | (with_reducible refine Kd.C_alloc ?_ _) | (with_reducible refine Kd.C_drewN ?_ _) | (with_reducible refine Kd.C_drew ?_))); (case side2 => exact HC0.out); rintro e w14 ⟨v368, rfl, ho0, hb⟩; have n0_ := Aside0.mk (Kd.R_elder' (by (with_reducible repeat (first | apply Kd.R_alloc | apply Kd.R_drewN | apply Kd.R_drew)); exact HO366.out) (Kd.R_base ho0) hb); have n1_ := Aside0.mk (Kd.R_lower (Kd.R_new' ho0 (Kd.R_lt (by (with_reducible repeat (first | apply Kd.R_alloc | apply Kd.R_drewN | apply Kd.R_drew)); exact HO366.out))) (below_size (by repeat (first | (with_reducible first | exact HB.out | apply below_alloc | apply pw_below_drewN | apply below_drew1) | exact HB.out)))); have n2_ := Aside0.mk (below_step (by repeat (first | (with_reducible first | exact HB.out | apply below_alloc | apply pw_below_drewN | apply below_drew1) | exact HB.out)) hb); clear HO366; clear HB; have HO366 := n0_; have HO369 := n1_; have HB := n2_; clear n0_ n1_ n2_; (try clear hb); (try clear hb2); (try clear hk); (try clear hi); (try clear ho0); obtain ⟨Ao15, co15, eo15⟩ := Kd.R_slice HO366.out; subst eo15; obtain ⟨Ao16, co16, eo16⟩ := Kd.R_slice HO369.out; subst eo16) | ((with_reducible refine gate_dst (N := 33) rfl ?_); (try (refine gate_guard (by rfl) ?_; dsimp only)); refine Kd.R_make Kd.bool _ 4 rfl (N := 33) rfl 38 _ _ rfl (l0.length : Int) rfl rfl Try.underlying38 (.bool false) 1 info4 rfl (by decide) (by omega) false (ok := fun _ => True) (okp := fun _ => True) rfl (fun _ hk => hk) trivial (of_decide_eq_true (by first | (with_reducible assumption) | assumption)) (Nat.le_trans (Nat.mul_le_mul_right _ (of_decide_eq_true (by first | (with_reducible assumption) | assumption) : (l0.length : Int).toNat ≤ 281474976710656)) (by omega)) (Below.refl _ _) (Nat.le_refl _) ?_; intro v371 w17 ho18 hb hg_ hnew_; clear hg_ hnew_; (first | rw [← Ny370.out] at ho18 | (simp only [Int.reduceToNat] at ho18; rw [← Ny370.out] at ho18)); have n0_ := Aside0.mk (Kd.R_below (by (with_reducible repeat (first | apply Kd.R_alloc | apply Kd.R_drewN | apply Kd.R_drew)); exact HO366.out) hb); have n1_ := Aside0.mk (Kd.R_below (by (with_reducible repeat (first | apply Kd.R_alloc | apply Kd.R_drewN | apply Kd.R_drew)); exact HO369.out) hb); have n2_ := Aside0.mk (Kd.R_lower ho18 (below_size (by repeat (first | (with_reducible first | exact HB.out | apply below_alloc | apply pw_below_drewN | apply below_drew1) | exact HB.out)))); have n3_ := Aside0.mk (below_step (by repeat (first | (with_reducible first | exact HB.out | apply below_alloc | apply pw_below_drewN | apply below_drew1) | exact HB.out)) hb); clear HO366; clear HO369; clear HB; have HO366 := n0_; have HO369 := n1_; have HO372 := n2_; have HB := n3_; clear n0_ n1_ n2_ n3_; clear hb ho18)))
              go_loopg [36] kj2 (fun kq v36 w' => ∃ (x7_2 : List Bool) (x36_2 : Int), v36 = .int .i64 x36_2 ∧ Aside0 (credenzalaw20_PickKeeps.l0 kq l0 a1 t364 t367 x7_2 t364 (t364.length : Int) x36_2 = some r) ∧ Aside0 (kq ≤ kj2) ∧ Aside0 (Kd.R (Kd.int .i64) 3 w' w.heap.size (fun k_ => some k_ ≠ ((.slice Ao16 t367.length co16) : Value).ownBlock) (.slice Ao15 t364.length co15) t364) ∧ Aside0 (Kd.R (Kd.int .i64) 3 w' w.heap.size (fun k_ => some k_ ≠ ((.slice Ao15 t364.length co15) : Value).ownBlock ∧ some k_ ≠ ((.slice Ao15 t364.length co15) : Value).ownBlock) (.slice Ao16 t367.length co16) t367) ∧ Aside0 (Kd.R Kd.bool 4 w' w.heap.size (fun _ => True) v371 x7_2) ∧ Aside0 (Kd.R (Kd.int .i64) 3 w' w.heap.size (fun k_ => some k_ ≠ ((.slice Ao16 t367.length co16) : Value).ownBlock) (.slice Ao15 t364.length co15) t364) ∧ Aside0 (Below w.heap.size w w'))
              case atStart => exact ⟨(y370), (0), (by first | rfl | (simp; done) | (simp [*]; done)), H', ⟨Nat.le_refl _⟩, ⟨by (with_reducible repeat (first | apply Kd.R_alloc | apply Kd.R_drewN | apply Kd.R_drew)); exact Kd.R_mono HO366.out (fun _ hk => hk.2)⟩, ⟨by (with_reducible repeat (first | apply Kd.R_alloc | apply Kd.R_drewN | apply Kd.R_drew)); exact Kd.R_mono HO369.out (fun _ hk => ⟨hk.2, hk.2⟩)⟩, ⟨by (with_reducible repeat (first | apply Kd.R_alloc | apply Kd.R_drewN | apply Kd.R_drew)); exact HO372.out⟩, ⟨by (with_reducible repeat (first | apply Kd.R_alloc | apply Kd.R_drewN | apply Kd.R_drew)); exact Kd.R_mono HO366.out (fun _ hk => hk.2)⟩, ⟨by repeat (first | (with_reducible first | exact HB.out | apply below_alloc | apply pw_below_drewN | apply below_drew1) | exact HB.out)⟩⟩
              case round =>
                clear H'
                try clear c1
                try clear p2
                try clear c4
                try clear c4b0
                try clear c4b1
                try clear c5
                try clear c10
                try clear c10b0
                try clear c10b1
                try clear c10b2
                try clear c11
                try clear c11b0
                try clear c11b1
                try clear c12
                try clear c12b0
                try clear c12b1
                try clear p2
                obtain ⟨x7_2, x36_2, rfl, HA, HK2, HO_5, HO_6, HO_7, HO_34, HB⟩ := hrel
                cases gk with
                | zero => exact absurd HA.out (by simp [credenzalaw20_PickKeeps.l0])
                | succ k2 =>
                  have H := HA.out
                  clear HA
                  simp only [credenzalaw20_PickKeeps.l0] at H
                  by_cases c19 : x36_2 < (t364.length : Int)
                  · rw [if_pos c19] at H
                    have c19b0 : decide (x36_2 < (t364.length : Int)) = true := decide_eq_true c19
                    clear c19
                    by_cases c20 : 0 ≤ x36_2
                    · rw [if_pos c20] at H
                      have c20b0 : decide (0 ≤ x36_2) = true := decide_eq_true c20
                      clear c20
                      by_cases c21 : x36_2 < (t364.length : Int)
                      · rw [if_pos c21] at H
                        have c21b0 : decide (x36_2 < (t364.length : Int)) = true := decide_eq_true c21
                        clear c21
                        by_cases c22 : x36_2 < (t367.length : Int)
                        · rw [if_pos c22] at H
                          have c22b0 : decide (x36_2 < (t367.length : Int)) = true := decide_eq_true c22
                          clear c22
                          by_cases c23 : (rd t364 x36_2) = (rd t367 x36_2)
                          · rw [if_pos c23] at H
                            have c23b0 : ((rd t364 x36_2) == (rd t367 x36_2)) = true := beq_iff_eq.mpr c23
                            have c23b1 : ((rd t364 x36_2) != (rd t367 x36_2)) = false := bne_eq_false_iff_eq.mpr c23
                            clear c23
                            by_cases c24 : 0 ≤ (rd t364 x36_2)
                            · rw [if_pos c24] at H
                              have c24b0 : decide (0 ≤ (rd t364 x36_2)) = true := decide_eq_true c24
                              clear c24
                              by_cases c25 : (rd t364 x36_2) < (x7_2.length : Int)
                              · rw [if_pos c25] at H
                                have c25b0 : decide ((rd t364 x36_2) < (x7_2.length : Int)) = true := decide_eq_true c25
                                clear c25
                                obtain ⟨y375, hy375⟩ : ∃ y_ : List Bool, y_ = (x7_2.set ((rd t364 x36_2) : Int).toNat true) := ⟨_, rfl⟩
                                replace H : (credenzalaw20_PickKeeps.l0 k2 l0 a1 t364 t367 y375 t364 (t364.length : Int) (wrap64 (x36_2 + 1))) = some r := by first | (rw [hy375]; with_reducible exact H) | (have H2_ := (Option.bind_some _ _).symm.trans H; rw [hy375]; with_reducible exact H2_) | (have H2_ := (Option.bind_some _ _).symm.trans H; with_reducible exact H2_) | with_reducible exact H | (rw [hy375]; exact H) | exact H
                                have Ny375 := Aside0.mk hy375
                                clear hy375
                                have H' := Aside0.mk H
                                clear H
                                have p373 : 0 ≤ (x36_2 : Int) := of_decide_eq_true (by first | (with_reducible assumption) | assumption)
                                have q373 : x36_2 < (t364.length : Int) := of_decide_eq_true (by first | (with_reducible assumption) | assumption)
                                obtain ⟨ad373, e373, hx373_0⟩ := Kd.at_int (Kd.R_reads' HO_34.out).2.2 x36_2 p373 q373
                                cases e373
                                replace p373 := eq_true p373
                                replace q373 := eq_true q373
                                have p374 : 0 ≤ (x36_2 : Int) := of_decide_eq_true (by first | (with_reducible assumption) | assumption)
                                have q374 : x36_2 < (t367.length : Int) := of_decide_eq_true (by first | (with_reducible assumption) | assumption)
                                obtain ⟨ad374, e374, hx374_0⟩ := Kd.at_int (Kd.R_reads' HO_6.out).2.2 x36_2 p374 q374
                                cases e374
                                replace p374 := eq_true p374
                                replace q374 := eq_true q374
                                have p26 : 0 ≤ ((rd t364 x36_2) : Int) := of_decide_eq_true (by first | (with_reducible assumption) | assumption)
                                have q26 : ((rd t364 x36_2) : Int) < ((x7_2.length : Int) : Int) := of_decide_eq_true (by first | (with_reducible assumption) | assumption)
                                obtain ⟨go26, co26, eo26, gb26, gl26, cl26, HG26⟩ := Kd.R_form HO_7.out (by omega)
                                (first | cases eo26 | (injection eo26 with ea_ en_ ec_; (first | subst ea_ | (injection ea_ with ea_; subst ea_)); subst ec_; clear en_))
                                have GB26 := Aside0.mk gb26
                                have GG26 := Aside0.mk HG26
                                clear gb26 gl26 HG26
                                obtain ⟨hx26_0, hf26_0⟩ := Kd.R_celln false HO_7.out ((rd t364 x36_2) : Int) p26 q26
                                replace p26 := eq_true p26
                                replace q26 := eq_true q26
                                have HP27 := Kd.R_putg HO_7.out ((rd t364 x36_2) : Int) true
                                go_wp2_with (first | ((with_reducible refine gate_store (t := 4) (p := 49) rfl ?_); (try (rw [drewN_self wr]; generalize hq_ : World.drewN wr _ = wr; have n0_ := Aside0.mk (Kd.R_at hq_ HO_5.out); have n1_ := Aside0.mk (Kd.R_at hq_ HO_6.out); have n2_ := Aside0.mk (Kd.R_at hq_ HO_7.out); have n3_ := Aside0.mk (Kd.R_at hq_ HO_34.out); have n4_ := Aside0.mk (below_at hq_ HB.out); clear hq_ HO_5 HO_6 HO_7 HO_34 HB; have HO_5 := n0_; have HO_6 := n1_; have HO_7 := n2_; have HO_34 := n3_; have HB := n4_; clear n0_ n1_ n2_ n3_ n4_; (try (have HP27 := Kd.R_putg HO_7.out ((rd t364 x36_2) : Int) true)))); refine store_event (t := 4) (p := 49) (v := ?vo_w28) (w1 := (wr.setCell ⟨go26, ((rd t364 x36_2) : Int).toNat, none⟩ (.bool true))) ?hg ?ho ?hn ?hr ?_; (case ho => rfl); (case hg => rfl); (case hn => rfl); (case hr => first | (go_simp; done) | (go_simp; rfl)); intro w28 hw; have hg : wr.grownBy w28 (some go26) := (by rw [hw]; exact HP27.2); have hp_ : Kd.R Kd.bool 4 w28 w.heap.size (fun _ => True) (.slice (some ⟨go26, 0, none⟩) x7_2.length co26) y375 := (by rw [hw, Ny375.out]; exact HP27.1); clear HP27; have n0_ := Aside0.mk (Kd.R_over' (v := (.slice (some ⟨go26, 0, none⟩) x7_2.length co26)) (by (with_reducible repeat (first | apply Kd.R_alloc | apply Kd.R_drewN | apply Kd.R_drew)); exact HO_5.out) (Kd.R_typed HO_7.out) (by decide) hg); have n1_ := Aside0.mk (Kd.R_over' (v := (.slice (some ⟨go26, 0, none⟩) x7_2.length co26)) (by (with_reducible repeat (first | apply Kd.R_alloc | apply Kd.R_drewN | apply Kd.R_drew)); exact HO_6.out) (Kd.R_typed HO_7.out) (by decide) hg); have n2_ := Aside0.mk (hp_); have n3_ := Aside0.mk (Kd.R_over' (v := (.slice (some ⟨go26, 0, none⟩) x7_2.length co26)) (by (with_reducible repeat (first | apply Kd.R_alloc | apply Kd.R_drewN | apply Kd.R_drew)); exact HO_34.out) (Kd.R_typed HO_7.out) (by decide) hg); have n4_ := Aside0.mk ((by rw [hw]; exact below_set (HB.out) GB26.out : Below w.heap.size w w28)); clear HO_5; clear HO_6; clear HO_7; clear HO_34; clear HB; have HO_5 := n0_; have HO_6 := n1_; have HO_7 := n2_; have HO_34 := n3_; have HB := n4_; clear n0_ n1_ n2_ n3_ n4_; clear hg hw hp_))
                                repeat (go_quiet (first | ((with_reducible refine gate_store (t := 4) (p := 49) rfl ?_); (try (rw [drewN_self wr]; generalize hq_ : World.drewN wr _ = wr; have n0_ := Aside0.mk (Kd.R_at hq_ HO_5.out); have n1_ := Aside0.mk (Kd.R_at hq_ HO_6.out); have n2_ := Aside0.mk (Kd.R_at hq_ HO_7.out); have n3_ := Aside0.mk (Kd.R_at hq_ HO_34.out); have n4_ := Aside0.mk (below_at hq_ HB.out); clear hq_ HO_5 HO_6 HO_7 HO_34 HB; have HO_5 := n0_; have HO_6 := n1_; have HO_7 := n2_; have HO_34 := n3_; have HB := n4_; clear n0_ n1_ n2_ n3_ n4_; (try (have HP27 := Kd.R_putg HO_7.out ((rd t364 x36_2) : Int) true)))); refine store_event (t := 4) (p := 49) (v := ?vo_w28) (w1 := (wr.setCell ⟨go26, ((rd t364 x36_2) : Int).toNat, none⟩ (.bool true))) ?hg ?ho ?hn ?hr ?_; (case ho => rfl); (case hg => rfl); (case hn => rfl); (case hr => first | (go_simp; done) | (go_simp; rfl)); intro w28 hw; have hg : wr.grownBy w28 (some go26) := (by rw [hw]; exact HP27.2); have hp_ : Kd.R Kd.bool 4 w28 w.heap.size (fun _ => True) (.slice (some ⟨go26, 0, none⟩) x7_2.length co26) y375 := (by rw [hw, Ny375.out]; exact HP27.1); clear HP27; have n0_ := Aside0.mk (Kd.R_over' (v := (.slice (some ⟨go26, 0, none⟩) x7_2.length co26)) (by (with_reducible repeat (first | apply Kd.R_alloc | apply Kd.R_drewN | apply Kd.R_drew)); exact HO_5.out) (Kd.R_typed HO_7.out) (by decide) hg); have n1_ := Aside0.mk (Kd.R_over' (v := (.slice (some ⟨go26, 0, none⟩) x7_2.length co26)) (by (with_reducible repeat (first | apply Kd.R_alloc | apply Kd.R_drewN | apply Kd.R_drew)); exact HO_6.out) (Kd.R_typed HO_7.out) (by decide) hg); have n2_ := Aside0.mk (hp_); have n3_ := Aside0.mk (Kd.R_over' (v := (.slice (some ⟨go26, 0, none⟩) x7_2.length co26)) (by (with_reducible repeat (first | apply Kd.R_alloc | apply Kd.R_drewN | apply Kd.R_drew)); exact HO_34.out) (Kd.R_typed HO_7.out) (by decide) hg); have n4_ := Aside0.mk ((by rw [hw]; exact below_set (HB.out) GB26.out : Below w.heap.size w w28)); clear HO_5; clear HO_6; clear HO_7; clear HO_34; clear HB; have HO_5 := n0_; have HO_6 := n1_; have HO_7 := n2_; have HO_34 := n3_; have HB := n4_; clear n0_ n1_ n2_ n3_ n4_; clear hg hw hp_)); try go_wp2_with (first | ((with_reducible refine gate_store (t := 4) (p := 49) rfl ?_); (try (rw [drewN_self wr]; generalize hq_ : World.drewN wr _ = wr; have n0_ := Aside0.mk (Kd.R_at hq_ HO_5.out); have n1_ := Aside0.mk (Kd.R_at hq_ HO_6.out); have n2_ := Aside0.mk (Kd.R_at hq_ HO_7.out); have n3_ := Aside0.mk (Kd.R_at hq_ HO_34.out); have n4_ := Aside0.mk (below_at hq_ HB.out); clear hq_ HO_5 HO_6 HO_7 HO_34 HB; have HO_5 := n0_; have HO_6 := n1_; have HO_7 := n2_; have HO_34 := n3_; have HB := n4_; clear n0_ n1_ n2_ n3_ n4_; (try (have HP27 := Kd.R_putg HO_7.out ((rd t364 x36_2) : Int) true)))); refine store_event (t := 4) (p := 49) (v := ?vo_w28) (w1 := (wr.setCell ⟨go26, ((rd t364 x36_2) : Int).toNat, none⟩ (.bool true))) ?hg ?ho ?hn ?hr ?_; (case ho => rfl); (case hg => rfl); (case hn => rfl); (case hr => first | (go_simp; done) | (go_simp; rfl)); intro w28 hw; have hg : wr.grownBy w28 (some go26) := (by rw [hw]; exact HP27.2); have hp_ : Kd.R Kd.bool 4 w28 w.heap.size (fun _ => True) (.slice (some ⟨go26, 0, none⟩) x7_2.length co26) y375 := (by rw [hw, Ny375.out]; exact HP27.1); clear HP27; have n0_ := Aside0.mk (Kd.R_over' (v := (.slice (some ⟨go26, 0, none⟩) x7_2.length co26)) (by (with_reducible repeat (first | apply Kd.R_alloc | apply Kd.R_drewN | apply Kd.R_drew)); exact HO_5.out) (Kd.R_typed HO_7.out) (by decide) hg); have n1_ := Aside0.mk (Kd.R_over' (v := (.slice (some ⟨go26, 0, none⟩) x7_2.length co26)) (by (with_reducible repeat (first | apply Kd.R_alloc | apply Kd.R_drewN | apply Kd.R_drew)); exact HO_6.out) (Kd.R_typed HO_7.out) (by decide) hg); have n2_ := Aside0.mk (hp_); have n3_ := Aside0.mk (Kd.R_over' (v := (.slice (some ⟨go26, 0, none⟩) x7_2.length co26)) (by (with_reducible repeat (first | apply Kd.R_alloc | apply Kd.R_drewN | apply Kd.R_drew)); exact HO_34.out) (Kd.R_typed HO_7.out) (by decide) hg); have n4_ := Aside0.mk ((by rw [hw]; exact below_set (HB.out) GB26.out : Below w.heap.size w w28)); clear HO_5; clear HO_6; clear HO_7; clear HO_34; clear HB; have HO_5 := n0_; have HO_6 := n1_; have HO_7 := n2_; have HO_34 := n3_; have HB := n4_; clear n0_ n1_ n2_ n3_ n4_; clear hg hw hp_)))
                                go_roundg k2
                                case measure => have := HJ2.out; have := HK2.out; omega
                                case rel => exact ⟨(y375), (wrap64 (x36_2 + 1)), (by first | rfl | (simp; done) | (simp [*]; done)), H', ⟨by have := HJ2.out; have := HK2.out; omega⟩, ⟨by (with_reducible repeat (first | apply Kd.R_alloc | apply Kd.R_drewN | apply Kd.R_drew)); exact HO_5.out⟩, ⟨by (with_reducible repeat (first | apply Kd.R_alloc | apply Kd.R_drewN | apply Kd.R_drew)); exact HO_6.out⟩, ⟨by (with_reducible repeat (first | apply Kd.R_alloc | apply Kd.R_drewN | apply Kd.R_drew)); exact HO_7.out⟩, ⟨by (with_reducible repeat (first | apply Kd.R_alloc | apply Kd.R_drewN | apply Kd.R_drew)); exact HO_34.out⟩, ⟨by repeat (first | (with_reducible first | exact HB.out | apply below_alloc | apply pw_below_drewN | apply below_drew1) | exact HB.out)⟩⟩
                              · rw [if_neg c25] at H
                                exact absurd H (by simp)
                            · rw [if_neg c24] at H
                              exact absurd H (by simp)
                          · rw [if_neg c23] at H
                            have c23b0 : ((rd t364 x36_2) == (rd t367 x36_2)) = false := beq_eq_false_iff_ne.mpr c23
                            have c23b1 : ((rd t364 x36_2) != (rd t367 x36_2)) = true := bne_iff_ne.mpr c23
                            obtain rfl := Option.some.inj H
                            have p373 : 0 ≤ (x36_2 : Int) := of_decide_eq_true (by first | (with_reducible assumption) | assumption)
                            have q373 : x36_2 < (t364.length : Int) := of_decide_eq_true (by first | (with_reducible assumption) | assumption)
                            obtain ⟨ad373, e373, hx373_0⟩ := Kd.at_int (Kd.R_reads' HO_34.out).2.2 x36_2 p373 q373
                            cases e373
                            replace p373 := eq_true p373
                            replace q373 := eq_true q373
                            have p374 : 0 ≤ (x36_2 : Int) := of_decide_eq_true (by first | (with_reducible assumption) | assumption)
                            have q374 : x36_2 < (t367.length : Int) := of_decide_eq_true (by first | (with_reducible assumption) | assumption)
                            obtain ⟨ad374, e374, hx374_0⟩ := Kd.at_int (Kd.R_reads' HO_6.out).2.2 x36_2 p374 q374
                            cases e374
                            replace p374 := eq_true p374
                            replace q374 := eq_true q374
                            go_wp2
                            repeat (go_quiet (fail); try go_wp2)
                            go_ret
                            exact ⟨by first | rfl | (simp [errW_none, errW_some] <;> rfl) | (simp [*, errW_none, errW_some] <;> rfl), by repeat (first | (with_reducible first | exact HB.out | apply below_alloc | apply pw_below_drewN | apply below_drew1) | exact HB.out)⟩
                        · rw [if_neg c22] at H
                          exact absurd H (by simp)
                      · rw [if_neg c21] at H
                        exact absurd H (by simp)
                    · rw [if_neg c20] at H
                      exact absurd H (by simp)
                  · rw [if_neg c19] at H
                    have c19b0 : decide (x36_2 < (t364.length : Int)) = false := decide_eq_false c19
                    clear c19
                    have H' := Aside0.mk H
                    clear H
                    go_wp2
                    repeat (go_quiet (fail); try go_wp2)
                    go_loopg [53] k2 (fun kq v53 w' => ∃ (x53_3 : Int), v53 = .int .i64 x53_3 ∧ Aside0 (credenzalaw20_PickKeeps.l1 kq l0 a1 t364 x7_2 (l0.length : Int) x53_3 = some r) ∧ Aside0 (kq ≤ k2) ∧ Aside0 (Kd.R (Kd.int .i64) 3 w' w.heap.size (fun _ => True) (.slice Ao15 t364.length co15) t364) ∧ Aside0 (Kd.R Kd.bool 4 w' w.heap.size (fun _ => True) v371 x7_2) ∧ Aside0 (Below w.heap.size w w'))
                    case atStart => exact ⟨(0), (by first | rfl | (simp; done) | (simp [*]; done)), H', ⟨Nat.le_refl _⟩, ⟨by (with_reducible repeat (first | apply Kd.R_alloc | apply Kd.R_drewN | apply Kd.R_drew)); exact Kd.R_mono HO_5.out (fun _ hk => trivial)⟩, ⟨by (with_reducible repeat (first | apply Kd.R_alloc | apply Kd.R_drewN | apply Kd.R_drew)); exact HO_7.out⟩, ⟨by repeat (first | (with_reducible first | exact HB.out | apply below_alloc | apply pw_below_drewN | apply below_drew1) | exact HB.out)⟩⟩
                    case round =>
                      clear H'
                      try clear c1
                      try clear c2
                      try clear p2
                      try clear q2
                      try clear hx2
                      try clear hf2
                      try clear p3
                      try clear q3
                      try clear hx3
                      try clear c4
                      try clear c4b0
                      try clear c4b1
                      try clear c5
                      try clear p6
                      try clear c10
                      try clear c10b0
                      try clear c10b1
                      try clear c10b2
                      try clear c11
                      try clear c11b0
                      try clear c11b1
                      try clear c12
                      try clear c12b0
                      try clear c12b1
                      try clear c19
                      try clear c19b0
                      try clear c20
                      try clear c20b0
                      try clear c21
                      try clear c21b0
                      try clear c22
                      try clear c22b0
                      try clear c23
                      try clear c23b0
                      try clear c23b1
                      try clear c24
                      try clear c24b0
                      try clear c25
                      try clear c25b0
                      try clear p26
                      try clear q26
                      try clear hx26
                      try clear hf26
                      try clear hx26_0
                      try clear hx373_0
                      try clear hx374_0
                      try clear p2
                      try clear p26
                      try clear p373
                      try clear p374
                      try clear q26
                      try clear q373
                      try clear q374
                      obtain ⟨x53_3, rfl, HA, HK3, HO_5, HO_7, HB⟩ := hrel
                      cases gk with
                      | zero => exact absurd HA.out (by simp [credenzalaw20_PickKeeps.l1])
                      | succ k3 =>
                        have H := HA.out
                        clear HA
                        simp only [credenzalaw20_PickKeeps.l1] at H
                        by_cases c29 : x53_3 < (l0.length : Int)
                        · rw [if_pos c29] at H
                          have c29b0 : decide (x53_3 < (l0.length : Int)) = true := decide_eq_true c29
                          clear c29
                          have H' := Aside0.mk H
                          clear H
                          go_wp2
                          repeat (go_quiet (fail); try go_wp2)
                          go_loopg [58] k3 (fun kq v58 w' => ∃ (x58_4 : Int), v58 = .int .i64 x58_4 ∧ Aside0 (credenzalaw20_PickKeeps.l2 kq l0 a1 t364 x7_2 x53_3 (l0.length : Int) x53_3 (l0.length : Int) x58_4 = some r) ∧ Aside0 (kq ≤ k3) ∧ Aside0 (Kd.R (Kd.int .i64) 3 w' w.heap.size (fun _ => True) (.slice Ao15 t364.length co15) t364) ∧ Aside0 (Kd.R Kd.bool 4 w' w.heap.size (fun _ => True) v371 x7_2) ∧ Aside0 (Below w.heap.size w w'))
                          case atStart => exact ⟨(0), (by first | rfl | (simp; done) | (simp [*]; done)), H', ⟨Nat.le_refl _⟩, ⟨by (with_reducible repeat (first | apply Kd.R_alloc | apply Kd.R_drewN | apply Kd.R_drew)); exact HO_5.out⟩, ⟨by (with_reducible repeat (first | apply Kd.R_alloc | apply Kd.R_drewN | apply Kd.R_drew)); exact HO_7.out⟩, ⟨by repeat (first | (with_reducible first | exact HB.out | apply below_alloc | apply pw_below_drewN | apply below_drew1) | exact HB.out)⟩⟩
                          case round =>
                            clear H'
                            try clear c1
                            try clear c2
                            try clear p2
                            try clear q2
                            try clear hx2
                            try clear hf2
                            try clear p3
                            try clear q3
                            try clear hx3
                            try clear c4
                            try clear c4b0
                            try clear c4b1
                            try clear c5
                            try clear p6
                            try clear c10
                            try clear c10b0
                            try clear c10b1
                            try clear c10b2
                            try clear c11
                            try clear c11b0
                            try clear c11b1
                            try clear c12
                            try clear c12b0
                            try clear c12b1
                            try clear c19
                            try clear c19b0
                            try clear c20
                            try clear c20b0
                            try clear c21
                            try clear c21b0
                            try clear c22
                            try clear c22b0
                            try clear c23
                            try clear c23b0
                            try clear c23b1
                            try clear c24
                            try clear c24b0
                            try clear c25
                            try clear c25b0
                            try clear p26
                            try clear q26
                            try clear hx26
                            try clear hf26
                            try clear c29
                            try clear c29b0
                            try clear hx26_0
                            try clear hx373_0
                            try clear hx374_0
                            try clear p2
                            try clear p26
                            try clear p3
                            try clear p373
                            try clear p374
                            try clear p6
                            try clear q2
                            try clear q26
                            try clear q3
                            try clear q373
                            try clear q374
                            obtain ⟨x58_4, rfl, HA, HK4, HO_5, HO_7, HB⟩ := hrel
                            cases gk with
                            | zero => exact absurd HA.out (by simp [credenzalaw20_PickKeeps.l2])
                            | succ k4 =>
                              have H := HA.out
                              clear HA
                              simp only [credenzalaw20_PickKeeps.l2] at H
                              by_cases c30 : x58_4 < (l0.length : Int)
                              · rw [if_pos c30] at H
                                have c30b0 : decide (x58_4 < (l0.length : Int)) = true := decide_eq_true c30
                                clear c30
                                by_cases c31 : 0 ≤ x53_3
                                · rw [if_pos c31] at H
                                  have c31b0 : decide (0 ≤ x53_3) = true := decide_eq_true c31
                                  clear c31
                                  by_cases c32 : x53_3 < (x7_2.length : Int)
                                  · rw [if_pos c32] at H
                                    have c32b0 : decide (x53_3 < (x7_2.length : Int)) = true := decide_eq_true c32
                                    clear c32
                                    obtain ⟨bq33, hbq33⟩ : ∃ b_ : Bool, b_ = (rdOf false x7_2 x53_3) := ⟨_, rfl⟩
                                    replace H : (if bq33 = true then (if 0 ≤ x58_4 then (if x58_4 < (x7_2.length : Int) then (if rdOf false x7_2 x58_4 = true then (credenzalaw20_PickKeeps.l2 k4 l0 a1 t364 x7_2 x53_3 (l0.length : Int) x53_3 (l0.length : Int) (wrap64 (x58_4 + 1))) else (if x53_3 < (l0.length : Int) then (if x58_4 < (l0.length : Int) then (if (rd l0 x53_3) < (rd l0 x58_4) then (some false) else (credenzalaw20_PickKeeps.l2 k4 l0 a1 t364 x7_2 x53_3 (l0.length : Int) x53_3 (l0.length : Int) (wrap64 (x58_4 + 1)))) else (none)) else (none))) else (none)) else (none)) else (credenzalaw20_PickKeeps.l2 k4 l0 a1 t364 x7_2 x53_3 (l0.length : Int) x53_3 (l0.length : Int) (wrap64 (x58_4 + 1)))) = some r := by rw [← hbq33] at H; exact H
                                    have Nbq33 := Aside0.mk hbq33
                                    clear hbq33
                                    by_cases c34 : bq33 = true
                                    · subst c34
                                      have H1 : (if 0 ≤ x58_4 then (if x58_4 < (x7_2.length : Int) then (if rdOf false x7_2 x58_4 = true then (credenzalaw20_PickKeeps.l2 k4 l0 a1 t364 x7_2 x53_3 (l0.length : Int) x53_3 (l0.length : Int) (wrap64 (x58_4 + 1))) else (if x53_3 < (l0.length : Int) then (if x58_4 < (l0.length : Int) then (if (rd l0 x53_3) < (rd l0 x58_4) then (some false) else (credenzalaw20_PickKeeps.l2 k4 l0 a1 t364 x7_2 x53_3 (l0.length : Int) x53_3 (l0.length : Int) (wrap64 (x58_4 + 1)))) else (none)) else (none))) else (none)) else (none)) = some r := by rw [if_pos rfl] at H; exact H
                                      clear H
                                      have H := H1
                                      clear H1
                                      by_cases c35 : 0 ≤ x58_4
                                      · rw [if_pos c35] at H
                                        have c35b0 : decide (0 ≤ x58_4) = true := decide_eq_true c35
                                        clear c35
                                        by_cases c36 : x58_4 < (x7_2.length : Int)
                                        · rw [if_pos c36] at H
                                          have c36b0 : decide (x58_4 < (x7_2.length : Int)) = true := decide_eq_true c36
                                          clear c36
                                          obtain ⟨bq37, hbq37⟩ : ∃ b_ : Bool, b_ = (rdOf false x7_2 x58_4) := ⟨_, rfl⟩
                                          replace H : (if bq37 = true then (credenzalaw20_PickKeeps.l2 k4 l0 a1 t364 x7_2 x53_3 (l0.length : Int) x53_3 (l0.length : Int) (wrap64 (x58_4 + 1))) else (if x53_3 < (l0.length : Int) then (if x58_4 < (l0.length : Int) then (if (rd l0 x53_3) < (rd l0 x58_4) then (some false) else (credenzalaw20_PickKeeps.l2 k4 l0 a1 t364 x7_2 x53_3 (l0.length : Int) x53_3 (l0.length : Int) (wrap64 (x58_4 + 1)))) else (none)) else (none))) = some r := by rw [← hbq37] at H; exact H
                                          have Nbq37 := Aside0.mk hbq37
                                          clear hbq37
                                          by_cases c38 : bq37 = true
                                          · subst c38
                                            have H1 : (credenzalaw20_PickKeeps.l2 k4 l0 a1 t364 x7_2 x53_3 (l0.length : Int) x53_3 (l0.length : Int) (wrap64 (x58_4 + 1))) = some r := by rw [if_pos rfl] at H; exact H
                                            clear H
                                            have H := H1
                                            clear H1
                                            have H' := Aside0.mk H
                                            clear H
                                            obtain ⟨Ao39, co39, eo39⟩ := Kd.R_slice HO_7.out
                                            subst eo39
                                            have p378 : 0 ≤ (x53_3 : Int) := of_decide_eq_true (by first | (with_reducible assumption) | assumption)
                                            have q378 : x53_3 < (x7_2.length : Int) := of_decide_eq_true (by first | (with_reducible assumption) | assumption)
                                            obtain ⟨ad378, e378, hx378_0⟩ := Kd.at_bool (Kd.R_reads' HO_7.out).2.2 x53_3 p378 q378
                                            (try rw [← Nbq33.out] at hx378_0)
                                            (try rw [← Nbq37.out] at hx378_0)
                                            cases e378
                                            replace p378 := eq_true p378
                                            replace q378 := eq_true q378
                                            have p379 : 0 ≤ (x58_4 : Int) := of_decide_eq_true (by first | (with_reducible assumption) | assumption)
                                            have q379 : x58_4 < (x7_2.length : Int) := of_decide_eq_true (by first | (with_reducible assumption) | assumption)
                                            obtain ⟨ad379, e379, hx379_0⟩ := Kd.at_bool (Kd.R_reads' HO_7.out).2.2 x58_4 p379 q379
                                            (try rw [← Nbq33.out] at hx379_0)
                                            (try rw [← Nbq37.out] at hx379_0)
                                            obtain rfl : ad378 = ad379 := (by injection e379)
                                            replace p379 := eq_true p379
                                            replace q379 := eq_true q379
                                            go_wp2
                                            repeat (go_quiet (fail); try go_wp2)
                                            go_roundg k4
                                            case measure => have := HJ2.out; have := HK2.out; have := HK3.out; have := HK4.out; omega
                                            case rel => exact ⟨(wrap64 (x58_4 + 1)), (by first | rfl | (simp; done) | (simp [*]; done)), H', ⟨by have := HJ2.out; have := HK2.out; have := HK3.out; have := HK4.out; omega⟩, ⟨by (with_reducible repeat (first | apply Kd.R_alloc | apply Kd.R_drewN | apply Kd.R_drew)); exact HO_5.out⟩, ⟨by (with_reducible repeat (first | apply Kd.R_alloc | apply Kd.R_drewN | apply Kd.R_drew)); exact HO_7.out⟩, ⟨by repeat (first | (with_reducible first | exact HB.out | apply below_alloc | apply pw_below_drewN | apply below_drew1) | exact HB.out)⟩⟩
                                          · replace c38 := Bool.eq_false_iff.mpr c38
                                            subst c38
                                            have H1 : (if x53_3 < (l0.length : Int) then (if x58_4 < (l0.length : Int) then (if (rd l0 x53_3) < (rd l0 x58_4) then (some false) else (credenzalaw20_PickKeeps.l2 k4 l0 a1 t364 x7_2 x53_3 (l0.length : Int) x53_3 (l0.length : Int) (wrap64 (x58_4 + 1)))) else (none)) else (none)) = some r := by rw [if_neg (show ¬ (false = true) by decide)] at H; exact H
                                            clear H
                                            have H := H1
                                            clear H1
                                            by_cases c40 : x53_3 < (l0.length : Int)
                                            · rw [if_pos c40] at H
                                              have c40b0 : decide (x53_3 < (l0.length : Int)) = true := decide_eq_true c40
                                              clear c40
                                              by_cases c41 : x58_4 < (l0.length : Int)
                                              · rw [if_pos c41] at H
                                                have c41b0 : decide (x58_4 < (l0.length : Int)) = true := decide_eq_true c41
                                                clear c41
                                                by_cases c42 : (rd l0 x53_3) < (rd l0 x58_4)
                                                · rw [if_pos c42] at H
                                                  have c42b0 : decide ((rd l0 x53_3) < (rd l0 x58_4)) = true := decide_eq_true c42
                                                  clear c42
                                                  obtain rfl := Option.some.inj H
                                                  obtain ⟨Ao43, co43, eo43⟩ := Kd.R_slice HO_7.out
                                                  subst eo43
                                                  have p378 : 0 ≤ (x53_3 : Int) := of_decide_eq_true (by first | (with_reducible assumption) | assumption)
                                                  have q378 : x53_3 < (x7_2.length : Int) := of_decide_eq_true (by first | (with_reducible assumption) | assumption)
                                                  obtain ⟨ad378, e378, hx378_0⟩ := Kd.at_bool (Kd.R_reads' HO_7.out).2.2 x53_3 p378 q378
                                                  (try rw [← Nbq33.out] at hx378_0)
                                                  (try rw [← Nbq37.out] at hx378_0)
                                                  cases e378
                                                  replace p378 := eq_true p378
                                                  replace q378 := eq_true q378
                                                  have p379 : 0 ≤ (x58_4 : Int) := of_decide_eq_true (by first | (with_reducible assumption) | assumption)
                                                  have q379 : x58_4 < (x7_2.length : Int) := of_decide_eq_true (by first | (with_reducible assumption) | assumption)
                                                  obtain ⟨ad379, e379, hx379_0⟩ := Kd.at_bool (Kd.R_reads' HO_7.out).2.2 x58_4 p379 q379
                                                  (try rw [← Nbq33.out] at hx379_0)
                                                  (try rw [← Nbq37.out] at hx379_0)
                                                  obtain rfl : ad378 = ad379 := (by injection e379)
                                                  replace p379 := eq_true p379
                                                  replace q379 := eq_true q379
                                                  have p380 : 0 ≤ (x53_3 : Int) := of_decide_eq_true (by first | (with_reducible assumption) | assumption)
                                                  have q380 : x53_3 < (l0.length : Int) := of_decide_eq_true (by first | (with_reducible assumption) | assumption)
                                                  obtain ⟨ad380, e380, hx380_0⟩ := Kd.at_int HR0.out x53_3 p380 q380
                                                  cases e380
                                                  replace hx380_0 := (HB.out.cell (World.block_lt_of_cell? w _ hx380_0)).trans hx380_0
                                                  replace p380 := eq_true p380
                                                  replace q380 := eq_true q380
                                                  have p381 : 0 ≤ (x58_4 : Int) := of_decide_eq_true (by first | (with_reducible assumption) | assumption)
                                                  have q381 : x58_4 < (l0.length : Int) := of_decide_eq_true (by first | (with_reducible assumption) | assumption)
                                                  obtain ⟨ad381, e381, hx381_0⟩ := Kd.at_int HR0.out x58_4 p381 q381
                                                  obtain rfl : ad380 = ad381 := (by injection e381)
                                                  replace hx381_0 := (HB.out.cell (World.block_lt_of_cell? w _ hx381_0)).trans hx381_0
                                                  replace p381 := eq_true p381
                                                  replace q381 := eq_true q381
                                                  go_wp2
                                                  repeat (go_quiet (fail); try go_wp2)
                                                  go_ret
                                                  exact ⟨by first | rfl | (simp [errW_none, errW_some] <;> rfl) | (simp [*, errW_none, errW_some] <;> rfl), by repeat (first | (with_reducible first | exact HB.out | apply below_alloc | apply pw_below_drewN | apply below_drew1) | exact HB.out)⟩
                                                · rw [if_neg c42] at H
                                                  have c42b0 : decide ((rd l0 x53_3) < (rd l0 x58_4)) = false := decide_eq_false c42
                                                  clear c42
                                                  have H' := Aside0.mk H
                                                  clear H
                                                  obtain ⟨Ao44, co44, eo44⟩ := Kd.R_slice HO_7.out
                                                  subst eo44
                                                  have p378 : 0 ≤ (x53_3 : Int) := of_decide_eq_true (by first | (with_reducible assumption) | assumption)
                                                  have q378 : x53_3 < (x7_2.length : Int) := of_decide_eq_true (by first | (with_reducible assumption) | assumption)
                                                  obtain ⟨ad378, e378, hx378_0⟩ := Kd.at_bool (Kd.R_reads' HO_7.out).2.2 x53_3 p378 q378
                                                  (try rw [← Nbq33.out] at hx378_0)
                                                  (try rw [← Nbq37.out] at hx378_0)
                                                  cases e378
                                                  replace p378 := eq_true p378
                                                  replace q378 := eq_true q378
                                                  have p379 : 0 ≤ (x58_4 : Int) := of_decide_eq_true (by first | (with_reducible assumption) | assumption)
                                                  have q379 : x58_4 < (x7_2.length : Int) := of_decide_eq_true (by first | (with_reducible assumption) | assumption)
                                                  obtain ⟨ad379, e379, hx379_0⟩ := Kd.at_bool (Kd.R_reads' HO_7.out).2.2 x58_4 p379 q379
                                                  (try rw [← Nbq33.out] at hx379_0)
                                                  (try rw [← Nbq37.out] at hx379_0)
                                                  obtain rfl : ad378 = ad379 := (by injection e379)
                                                  replace p379 := eq_true p379
                                                  replace q379 := eq_true q379
                                                  have p380 : 0 ≤ (x53_3 : Int) := of_decide_eq_true (by first | (with_reducible assumption) | assumption)
                                                  have q380 : x53_3 < (l0.length : Int) := of_decide_eq_true (by first | (with_reducible assumption) | assumption)
                                                  obtain ⟨ad380, e380, hx380_0⟩ := Kd.at_int HR0.out x53_3 p380 q380
                                                  cases e380
                                                  replace hx380_0 := (HB.out.cell (World.block_lt_of_cell? w _ hx380_0)).trans hx380_0
                                                  replace p380 := eq_true p380
                                                  replace q380 := eq_true q380
                                                  have p381 : 0 ≤ (x58_4 : Int) := of_decide_eq_true (by first | (with_reducible assumption) | assumption)
                                                  have q381 : x58_4 < (l0.length : Int) := of_decide_eq_true (by first | (with_reducible assumption) | assumption)
                                                  obtain ⟨ad381, e381, hx381_0⟩ := Kd.at_int HR0.out x58_4 p381 q381
                                                  obtain rfl : ad380 = ad381 := (by injection e381)
                                                  replace hx381_0 := (HB.out.cell (World.block_lt_of_cell? w _ hx381_0)).trans hx381_0
                                                  replace p381 := eq_true p381
                                                  replace q381 := eq_true q381
                                                  go_wp2
                                                  repeat (go_quiet (fail); try go_wp2)
                                                  go_roundg k4
                                                  case measure => have := HJ2.out; have := HK2.out; have := HK3.out; have := HK4.out; omega
                                                  case rel => exact ⟨(wrap64 (x58_4 + 1)), (by first | rfl | (simp; done) | (simp [*]; done)), H', ⟨by have := HJ2.out; have := HK2.out; have := HK3.out; have := HK4.out; omega⟩, ⟨by (with_reducible repeat (first | apply Kd.R_alloc | apply Kd.R_drewN | apply Kd.R_drew)); exact HO_5.out⟩, ⟨by (with_reducible repeat (first | apply Kd.R_alloc | apply Kd.R_drewN | apply Kd.R_drew)); exact HO_7.out⟩, ⟨by repeat (first | (with_reducible first | exact HB.out | apply below_alloc | apply pw_below_drewN | apply below_drew1) | exact HB.out)⟩⟩
                                              · rw [if_neg c41] at H
                                                exact absurd H (by simp)
                                            · rw [if_neg c40] at H
                                              exact absurd H (by simp)
                                        · rw [if_neg c36] at H
                                          exact absurd H (by simp)
                                      · rw [if_neg c35] at H
                                        exact absurd H (by simp)
                                    · replace c34 := Bool.eq_false_iff.mpr c34
                                      subst c34
                                      have H1 : (credenzalaw20_PickKeeps.l2 k4 l0 a1 t364 x7_2 x53_3 (l0.length : Int) x53_3 (l0.length : Int) (wrap64 (x58_4 + 1))) = some r := by rw [if_neg (show ¬ (false = true) by decide)] at H; exact H
                                      clear H
                                      have H := H1
                                      clear H1
                                      have H' := Aside0.mk H
                                      clear H
                                      obtain ⟨Ao45, co45, eo45⟩ := Kd.R_slice HO_7.out
                                      subst eo45
                                      have p378 : 0 ≤ (x53_3 : Int) := of_decide_eq_true (by first | (with_reducible assumption) | assumption)
                                      have q378 : x53_3 < (x7_2.length : Int) := of_decide_eq_true (by first | (with_reducible assumption) | assumption)
                                      obtain ⟨ad378, e378, hx378_0⟩ := Kd.at_bool (Kd.R_reads' HO_7.out).2.2 x53_3 p378 q378
                                      (try rw [← Nbq33.out] at hx378_0)
                                      cases e378
                                      replace p378 := eq_true p378
                                      replace q378 := eq_true q378
                                      go_wp2
                                      repeat (go_quiet (fail); try go_wp2)
                                      go_roundg k4
                                      case measure => have := HJ2.out; have := HK2.out; have := HK3.out; have := HK4.out; omega
                                      case rel => exact ⟨(wrap64 (x58_4 + 1)), (by first | rfl | (simp; done) | (simp [*]; done)), H', ⟨by have := HJ2.out; have := HK2.out; have := HK3.out; have := HK4.out; omega⟩, ⟨by (with_reducible repeat (first | apply Kd.R_alloc | apply Kd.R_drewN | apply Kd.R_drew)); exact HO_5.out⟩, ⟨by (with_reducible repeat (first | apply Kd.R_alloc | apply Kd.R_drewN | apply Kd.R_drew)); exact HO_7.out⟩, ⟨by repeat (first | (with_reducible first | exact HB.out | apply below_alloc | apply pw_below_drewN | apply below_drew1) | exact HB.out)⟩⟩
                                  · rw [if_neg c32] at H
                                    exact absurd H (by simp)
                                · rw [if_neg c31] at H
                                  exact absurd H (by simp)
                              · rw [if_neg c30] at H
                                have c30b0 : decide (x58_4 < (l0.length : Int)) = false := decide_eq_false c30
                                clear c30
                                have H' := Aside0.mk H
                                clear H
                                go_wp2
                                repeat (go_quiet (fail); try go_wp2)
                                go_roundg k4
                                case measure => have := HJ2.out; have := HK2.out; have := HK3.out; have := HK4.out; omega
                                case rel => exact ⟨(wrap64 (x53_3 + 1)), (by first | rfl | (simp; done) | (simp [*]; done)), H', ⟨by have := HJ2.out; have := HK2.out; have := HK3.out; have := HK4.out; omega⟩, ⟨by (with_reducible repeat (first | apply Kd.R_alloc | apply Kd.R_drewN | apply Kd.R_drew)); exact HO_5.out⟩, ⟨by (with_reducible repeat (first | apply Kd.R_alloc | apply Kd.R_drewN | apply Kd.R_drew)); exact HO_7.out⟩, ⟨by repeat (first | (with_reducible first | exact HB.out | apply below_alloc | apply pw_below_drewN | apply below_drew1) | exact HB.out)⟩⟩
                        · rw [if_neg c29] at H
                          have c29b0 : decide (x53_3 < (l0.length : Int)) = false := decide_eq_false c29
                          clear c29
                          by_cases c46 : a1 = 0
                          · rw [if_pos c46] at H
                            have c46b0 : (a1 == 0) = true := beq_iff_eq.mpr c46
                            have c46b1 : (a1 != 0) = false := bne_eq_false_iff_eq.mpr c46
                            clear c46
                            replace H := Option.bind_eq_some_iff.mp H
                            obtain ⟨t376, A470, H⟩ := H
                            replace H : (some t376) = some r := H
                            have A47 := Aside0.mk A470
                            clear A470
                            obtain rfl := Option.some.inj H
                            go_wp2_with (first | (go_at_call 8; (with_reducible refine (credenzalaw20_awake.calls k3  t376 _ A47.out).mono ?_); rintro e w48 ⟨rfl, hb⟩; have n0_ := Aside0.mk (Kd.R_below (by (with_reducible repeat (first | apply Kd.R_alloc | apply Kd.R_drewN | apply Kd.R_drew)); exact HO_5.out) hb); have n1_ := Aside0.mk (Kd.R_below (by (with_reducible repeat (first | apply Kd.R_alloc | apply Kd.R_drewN | apply Kd.R_drew)); exact HO_7.out) hb); have n2_ := Aside0.mk (below_step (by repeat (first | (with_reducible first | exact HB.out | apply below_alloc | apply pw_below_drewN | apply below_drew1) | exact HB.out)) hb); clear HO_5; clear HO_7; clear HB; have HO_5 := n0_; have HO_7 := n1_; have HB := n2_; clear n0_ n1_ n2_; (try clear hb); (try clear hb2); (try clear hk); (try clear hi)))
                            repeat (go_quiet (first | (go_at_call 8; (with_reducible refine (credenzalaw20_awake.calls k3  t376 _ A47.out).mono ?_); rintro e w48 ⟨rfl, hb⟩; have n0_ := Aside0.mk (Kd.R_below (by (with_reducible repeat (first | apply Kd.R_alloc | apply Kd.R_drewN | apply Kd.R_drew)); exact HO_5.out) hb); have n1_ := Aside0.mk (Kd.R_below (by (with_reducible repeat (first | apply Kd.R_alloc | apply Kd.R_drewN | apply Kd.R_drew)); exact HO_7.out) hb); have n2_ := Aside0.mk (below_step (by repeat (first | (with_reducible first | exact HB.out | apply below_alloc | apply pw_below_drewN | apply below_drew1) | exact HB.out)) hb); clear HO_5; clear HO_7; clear HB; have HO_5 := n0_; have HO_7 := n1_; have HB := n2_; clear n0_ n1_ n2_; (try clear hb); (try clear hb2); (try clear hk); (try clear hi))); try go_wp2_with (first | (go_at_call 8; (with_reducible refine (credenzalaw20_awake.calls k3  t376 _ A47.out).mono ?_); rintro e w48 ⟨rfl, hb⟩; have n0_ := Aside0.mk (Kd.R_below (by (with_reducible repeat (first | apply Kd.R_alloc | apply Kd.R_drewN | apply Kd.R_drew)); exact HO_5.out) hb); have n1_ := Aside0.mk (Kd.R_below (by (with_reducible repeat (first | apply Kd.R_alloc | apply Kd.R_drewN | apply Kd.R_drew)); exact HO_7.out) hb); have n2_ := Aside0.mk (below_step (by repeat (first | (with_reducible first | exact HB.out | apply below_alloc | apply pw_below_drewN | apply below_drew1) | exact HB.out)) hb); clear HO_5; clear HO_7; clear HB; have HO_5 := n0_; have HO_7 := n1_; have HB := n2_; clear n0_ n1_ n2_; (try clear hb); (try clear hb2); (try clear hk); (try clear hi))))
                            go_ret
                            exact ⟨by first | rfl | (simp [errW_none, errW_some] <;> rfl) | (simp [*, errW_none, errW_some] <;> rfl), by repeat (first | (with_reducible first | exact HB.out | apply below_alloc | apply pw_below_drewN | apply below_drew1) | exact HB.out)⟩
                          · rw [if_neg c46] at H
                            have c46b0 : (a1 == 0) = false := beq_eq_false_iff_ne.mpr c46
                            have c46b1 : (a1 != 0) = true := bne_iff_ne.mpr c46
                            obtain ⟨ji49, hji49⟩ : ∃ j_ : Int, (mn a1 (l0.length : Int)) = j_ := ⟨_, rfl⟩
                            replace H : (if (t364.length : Int) = (ji49) then ((credenzalaw20_awake.f k3).bind fun t377 => (some t377)) else (some false)) = some r := by first | (rw [hji49] at H; exact H) | (simp only [hji49] at H ⊢; exact H)
                            have hji49_ : (if (l0.length : Int) < a1 then (l0.length : Int) else a1) = ji49 := hji49
                            by_cases c50 : (t364.length : Int) = (ji49)
                            · rw [if_pos c50] at H
                              have c50b0 : ((t364.length : Int) == (ji49)) = true := beq_iff_eq.mpr c50
                              have c50b1 : ((t364.length : Int) != (ji49)) = false := bne_eq_false_iff_eq.mpr c50
                              clear c50
                              replace H := Option.bind_eq_some_iff.mp H
                              obtain ⟨t377, A510, H⟩ := H
                              replace H : (some t377) = some r := H
                              have A51 := Aside0.mk A510
                              clear A510
                              obtain rfl := Option.some.inj H
                              go_wp2_with (first | (go_at_call 8; (with_reducible refine (credenzalaw20_awake.calls k3  t377 _ A51.out).mono ?_); rintro e w52 ⟨rfl, hb⟩; have n0_ := Aside0.mk (Kd.R_below (by (with_reducible repeat (first | apply Kd.R_alloc | apply Kd.R_drewN | apply Kd.R_drew)); exact HO_5.out) hb); have n1_ := Aside0.mk (Kd.R_below (by (with_reducible repeat (first | apply Kd.R_alloc | apply Kd.R_drewN | apply Kd.R_drew)); exact HO_7.out) hb); have n2_ := Aside0.mk (below_step (by repeat (first | (with_reducible first | exact HB.out | apply below_alloc | apply pw_below_drewN | apply below_drew1) | exact HB.out)) hb); clear HO_5; clear HO_7; clear HB; have HO_5 := n0_; have HO_7 := n1_; have HB := n2_; clear n0_ n1_ n2_; (try clear hb); (try clear hb2); (try clear hk); (try clear hi)))
                              repeat (go_quiet (first | (go_at_call 8; (with_reducible refine (credenzalaw20_awake.calls k3  t377 _ A51.out).mono ?_); rintro e w52 ⟨rfl, hb⟩; have n0_ := Aside0.mk (Kd.R_below (by (with_reducible repeat (first | apply Kd.R_alloc | apply Kd.R_drewN | apply Kd.R_drew)); exact HO_5.out) hb); have n1_ := Aside0.mk (Kd.R_below (by (with_reducible repeat (first | apply Kd.R_alloc | apply Kd.R_drewN | apply Kd.R_drew)); exact HO_7.out) hb); have n2_ := Aside0.mk (below_step (by repeat (first | (with_reducible first | exact HB.out | apply below_alloc | apply pw_below_drewN | apply below_drew1) | exact HB.out)) hb); clear HO_5; clear HO_7; clear HB; have HO_5 := n0_; have HO_7 := n1_; have HB := n2_; clear n0_ n1_ n2_; (try clear hb); (try clear hb2); (try clear hk); (try clear hi))); try go_wp2_with (first | (go_at_call 8; (with_reducible refine (credenzalaw20_awake.calls k3  t377 _ A51.out).mono ?_); rintro e w52 ⟨rfl, hb⟩; have n0_ := Aside0.mk (Kd.R_below (by (with_reducible repeat (first | apply Kd.R_alloc | apply Kd.R_drewN | apply Kd.R_drew)); exact HO_5.out) hb); have n1_ := Aside0.mk (Kd.R_below (by (with_reducible repeat (first | apply Kd.R_alloc | apply Kd.R_drewN | apply Kd.R_drew)); exact HO_7.out) hb); have n2_ := Aside0.mk (below_step (by repeat (first | (with_reducible first | exact HB.out | apply below_alloc | apply pw_below_drewN | apply below_drew1) | exact HB.out)) hb); clear HO_5; clear HO_7; clear HB; have HO_5 := n0_; have HO_7 := n1_; have HB := n2_; clear n0_ n1_ n2_; (try clear hb); (try clear hb2); (try clear hk); (try clear hi))))
                              go_ret
                              exact ⟨by first | rfl | (simp [errW_none, errW_some] <;> rfl) | (simp only [← hji49]; first | rfl | (simp [errW_none, errW_some] <;> rfl)) | (simp [*, errW_none, errW_some] <;> rfl), by repeat (first | (with_reducible first | exact HB.out | apply below_alloc | apply pw_below_drewN | apply below_drew1) | exact HB.out)⟩
                            · rw [if_neg c50] at H
                              have c50b0 : ((t364.length : Int) == (ji49)) = false := beq_eq_false_iff_ne.mpr c50
                              have c50b1 : ((t364.length : Int) != (ji49)) = true := bne_iff_ne.mpr c50
                              obtain rfl := Option.some.inj H
                              go_wp2
                              repeat (go_quiet (fail); try go_wp2)
                              go_ret
                              exact ⟨by first | rfl | (simp [errW_none, errW_some] <;> rfl) | (simp only [← hji49]; first | rfl | (simp [errW_none, errW_some] <;> rfl)) | (simp [*, errW_none, errW_some] <;> rfl), by repeat (first | (with_reducible first | exact HB.out | apply below_alloc | apply pw_below_drewN | apply below_drew1) | exact HB.out)⟩
            · rw [if_neg c12] at H
              exact absurd H (by simp)
          · rw [if_neg c11] at H
            exact absurd H (by simp)
        · rw [if_neg c10] at H
          have c10b0 : ((t364.length : Int) == (t367.length : Int)) = false := beq_eq_false_iff_ne.mpr c10
          have c10b1 : ((t364.length : Int) != (t367.length : Int)) = true := bne_iff_ne.mpr c10
          have c10b2 : (t364.length == t367.length) = false := by first | simpa using c10 | (simp at c10 ⊢; omega)
          obtain rfl := Option.some.inj H
          go_wp2_with (first | (go_at_call 14; (with_reducible refine (pick_Kept.calls _ _ l0 a1 t364 _ ?side1 ?side2 A8.out).mono ?_); (case side1 => repeat (first | exact (Kd.C_below HR0.out HB.out) | (with_reducible refine Kd.C_alloc ?_ _) | (with_reducible refine Kd.C_drewN ?_ _) | (with_reducible refine Kd.C_drew ?_))); (case side2 => exact HC0.out); rintro e w53 ⟨v365, rfl, ho0, hb⟩; have n0_ := Aside0.mk (Kd.R_lower ho0 (below_size (by repeat (first | (with_reducible first | exact HB.out | apply below_alloc | apply pw_below_drewN | apply below_drew1) | exact HB.out)))); have n1_ := Aside0.mk (below_step (by repeat (first | (with_reducible first | exact HB.out | apply below_alloc | apply pw_below_drewN | apply below_drew1) | exact HB.out)) hb); clear HB; have HO366 := n0_; have HB := n1_; clear n0_ n1_; (try clear hb); (try clear hb2); (try clear hk); (try clear hi); (try clear ho0)) | (go_at_call 12; (with_reducible refine (credenzaref20_Kept.calls kj2 _ _ l0 a1 t367 _ ?side1 ?side2 A9.out).mono ?_); (case side1 => repeat (first | exact (Kd.C_below HR0.out HB.out) | (with_reducible refine Kd.C_alloc ?_ _) | (with_reducible refine Kd.C_drewN ?_ _) | (with_reducible refine Kd.C_drew ?_))); (case side2 => exact HC0.out); rintro e w54 ⟨v368, rfl, ho0, hb⟩; have n0_ := Aside0.mk (Kd.R_elder' (by (with_reducible repeat (first | apply Kd.R_alloc | apply Kd.R_drewN | apply Kd.R_drew)); exact HO366.out) (Kd.R_base ho0) hb); have n1_ := Aside0.mk (Kd.R_lower (Kd.R_new' ho0 (Kd.R_lt (by (with_reducible repeat (first | apply Kd.R_alloc | apply Kd.R_drewN | apply Kd.R_drew)); exact HO366.out))) (below_size (by repeat (first | (with_reducible first | exact HB.out | apply below_alloc | apply pw_below_drewN | apply below_drew1) | exact HB.out)))); have n2_ := Aside0.mk (below_step (by repeat (first | (with_reducible first | exact HB.out | apply below_alloc | apply pw_below_drewN | apply below_drew1) | exact HB.out)) hb); clear HO366; clear HB; have HO366 := n0_; have HO369 := n1_; have HB := n2_; clear n0_ n1_ n2_; (try clear hb); (try clear hb2); (try clear hk); (try clear hi); (try clear ho0); obtain ⟨Ao55, co55, eo55⟩ := Kd.R_slice HO366.out; subst eo55; obtain ⟨Ao56, co56, eo56⟩ := Kd.R_slice HO369.out; subst eo56))
          repeat (go_quiet (first | (go_at_call 14; (with_reducible refine (pick_Kept.calls _ _ l0 a1 t364 _ ?side1 ?side2 A8.out).mono ?_); (case side1 => repeat (first | exact (Kd.C_below HR0.out HB.out) | (with_reducible refine Kd.C_alloc ?_ _) | (with_reducible refine Kd.C_drewN ?_ _) | (with_reducible refine Kd.C_drew ?_))); (case side2 => exact HC0.out); rintro e w53 ⟨v365, rfl, ho0, hb⟩; have n0_ := Aside0.mk (Kd.R_lower ho0 (below_size (by repeat (first | (with_reducible first | exact HB.out | apply below_alloc | apply pw_below_drewN | apply below_drew1) | exact HB.out)))); have n1_ := Aside0.mk (below_step (by repeat (first | (with_reducible first | exact HB.out | apply below_alloc | apply pw_below_drewN | apply below_drew1) | exact HB.out)) hb); clear HB; have HO366 := n0_; have HB := n1_; clear n0_ n1_; (try clear hb); (try clear hb2); (try clear hk); (try clear hi); (try clear ho0)) | (go_at_call 12; (with_reducible refine (credenzaref20_Kept.calls kj2 _ _ l0 a1 t367 _ ?side1 ?side2 A9.out).mono ?_); (case side1 => repeat (first | exact (Kd.C_below HR0.out HB.out) | (with_reducible refine Kd.C_alloc ?_ _) | (with_reducible refine Kd.C_drewN ?_ _) | (with_reducible refine Kd.C_drew ?_))); (case side2 => exact HC0.out); rintro e w54 ⟨v368, rfl, ho0, hb⟩; have n0_ := Aside0.mk (Kd.R_elder' (by (with_reducible repeat (first | apply Kd.R_alloc | apply Kd.R_drewN | apply Kd.R_drew)); exact HO366.out) (Kd.R_base ho0) hb); have n1_ := Aside0.mk (Kd.R_lower (Kd.R_new' ho0 (Kd.R_lt (by (with_reducible repeat (first | apply Kd.R_alloc | apply Kd.R_drewN | apply Kd.R_drew)); exact HO366.out))) (below_size (by repeat (first | (with_reducible first | exact HB.out | apply below_alloc | apply pw_below_drewN | apply below_drew1) | exact HB.out)))); have n2_ := Aside0.mk (below_step (by repeat (first | (with_reducible first | exact HB.out | apply below_alloc | apply pw_below_drewN | apply below_drew1) | exact HB.out)) hb); clear HO366; clear HB; have HO366 := n0_; have HO369 := n1_; have HB := n2_; clear n0_ n1_ n2_; (try clear hb); (try clear hb2); (try clear hk); (try clear hi); (try clear ho0); obtain ⟨Ao55, co55, eo55⟩ := Kd.R_slice HO366.out; subst eo55; obtain ⟨Ao56, co56, eo56⟩ := Kd.R_slice HO369.out; subst eo56)); try go_wp2_with (first | (go_at_call 14; (with_reducible refine (pick_Kept.calls _ _ l0 a1 t364 _ ?side1 ?side2 A8.out).mono ?_); (case side1 => repeat (first | exact (Kd.C_below HR0.out HB.out) | (with_reducible refine Kd.C_alloc ?_ _) | (with_reducible refine Kd.C_drewN ?_ _) | (with_reducible refine Kd.C_drew ?_))); (case side2 => exact HC0.out); rintro e w53 ⟨v365, rfl, ho0, hb⟩; have n0_ := Aside0.mk (Kd.R_lower ho0 (below_size (by repeat (first | (with_reducible first | exact HB.out | apply below_alloc | apply pw_below_drewN | apply below_drew1) | exact HB.out)))); have n1_ := Aside0.mk (below_step (by repeat (first | (with_reducible first | exact HB.out | apply below_alloc | apply pw_below_drewN | apply below_drew1) | exact HB.out)) hb); clear HB; have HO366 := n0_; have HB := n1_; clear n0_ n1_; (try clear hb); (try clear hb2); (try clear hk); (try clear hi); (try clear ho0)) | (go_at_call 12; (with_reducible refine (credenzaref20_Kept.calls kj2 _ _ l0 a1 t367 _ ?side1 ?side2 A9.out).mono ?_); (case side1 => repeat (first | exact (Kd.C_below HR0.out HB.out) | (with_reducible refine Kd.C_alloc ?_ _) | (with_reducible refine Kd.C_drewN ?_ _) | (with_reducible refine Kd.C_drew ?_))); (case side2 => exact HC0.out); rintro e w54 ⟨v368, rfl, ho0, hb⟩; have n0_ := Aside0.mk (Kd.R_elder' (by (with_reducible repeat (first | apply Kd.R_alloc | apply Kd.R_drewN | apply Kd.R_drew)); exact HO366.out) (Kd.R_base ho0) hb); have n1_ := Aside0.mk (Kd.R_lower (Kd.R_new' ho0 (Kd.R_lt (by (with_reducible repeat (first | apply Kd.R_alloc | apply Kd.R_drewN | apply Kd.R_drew)); exact HO366.out))) (below_size (by repeat (first | (with_reducible first | exact HB.out | apply below_alloc | apply pw_below_drewN | apply below_drew1) | exact HB.out)))); have n2_ := Aside0.mk (below_step (by repeat (first | (with_reducible first | exact HB.out | apply below_alloc | apply pw_below_drewN | apply below_drew1) | exact HB.out)) hb); clear HO366; clear HB; have HO366 := n0_; have HO369 := n1_; have HB := n2_; clear n0_ n1_ n2_; (try clear hb); (try clear hb2); (try clear hk); (try clear hi); (try clear ho0); obtain ⟨Ao55, co55, eo55⟩ := Kd.R_slice HO366.out; subst eo55; obtain ⟨Ao56, co56, eo56⟩ := Kd.R_slice HO369.out; subst eo56)))
          go_ret
          exact ⟨by first | rfl | (simp [errW_none, errW_some] <;> rfl) | (simp [*, errW_none, errW_some] <;> rfl), by repeat (first | (with_reducible first | exact HB.out | apply below_alloc | apply pw_below_drewN | apply below_drew1) | exact HB.out)⟩

/-- THE ONE PURE STATEMENT of credenzalaw20_PickKeeps: yours. -/
def credenzalaw20_PickKeeps.Pure : Prop := ∀ (l0 : List Int) (a1 : Int), l0.length ≤ maxLen → l0.length * 4 ≤ 140737488351232 → (∀ x ∈ l0, (Lit.int .i32 x).wf = true) → (Lit.int .i64 a1).wf = true → ∃ k, credenzalaw20_PickKeeps.f k l0 a1 = some true
theorem credenzalaw20_PickKeeps.walk (P : credenzalaw20_PickKeeps.Pure) (a0 : Option Addr) (len0 cap0 : Nat) (z0 : List Int) (a1 : Int) (w : World) (w0 : (a0 = none ∧ len0 = 0 ∧ cap0 = 0 ∧ z0 = []) ∨ ∃ x, a0 = some x ∧ len0 ≤ cap0 ∧ cap0 ≤ maxLen ∧ z0.length = cap0 ∧ (∀ i, i < z0.length → w.cell? (x.add i) = some (.int .i32 (z0.getD i 0))) ∧ ∀ n ∈ z0, (Lit.int .i32 n).wf = true) (y0 : len0 * 4 ≤ 140737488351232) (w1 : (Lit.int .i64 a1).wf = true) :
    Calls Try.prog 4 #[.slice a0 len0 cap0, .int .i64 a1] w fun e w' => e = .returned (.bool true) ∧ Below w.heap.size w w' := by
  obtain ⟨l0, rfl, hr0, hm0, hw0, hc0⟩ := ReadsInt.ofRowC w0
  obtain ⟨k, h⟩ := P l0 a1 hm0 y0 hw0 w1
  refine (credenzalaw20_PickKeeps.calls k _ _ l0 a1 true w (Kd.C_of_reads (d := (0 : Int)) (h1 := fun _ => rfl) hr0) hc0 h).mono ?_
  rintro e w' ⟨rfl, hd⟩
  exact ⟨rfl, hd⟩

end Go.Proofs.Ytmldhpnkkkmloaa.Q

namespace Go.Proofs.Ytmldhpnkkkmloaa.Q
open Go.RowKit Go.Proofs.YtmldhpnkkkmloaaW.PrintWords Go.Proofs.YtmldhpnkkkmloaaW.PrintLast Go.Proofs.YtmldhpnkkkmloaaW.PrintMore
attribute [local go_sem] max2_int min2_int max_two min_two max_three min_three max_four min_four   -- for this text's walks alone
set_option linter.unusedVariables false
set_option linter.unusedSimpArgs false

/-! ### credenzaref01_Cut: function 47 -/
def credenzaref01_Cut.f (a0 : Int) (a1 : Int) (a2 : Int) : Option (Int) := if a0 < a1 then (some a1) else (if a0 > a2 then (some a2) else (some a0))
set_option maxHeartbeats 8000000 in
set_option maxRecDepth 100000 in
theorem credenzaref01_Cut.calls (a0 : Int) (a1 : Int) (a2 : Int) (r : Int) (w : World) (h : credenzaref01_Cut.f a0 a1 a2 = some r) :
    Calls Try.prog 47 #[.int .i64 a0, .int .i64 a1, .int .i64 a2] w fun e w' => e = .returned (.int .i64 r) ∧ Drawn0 w w' := by
  have H : (if a0 < a1 then (some a1) else (if a0 > a2 then (some a2) else (some a0))) = some r := h
  clear h
  by_cases c4 : a0 < a1
  · rw [if_pos c4] at H
    have c4b0 : decide (a0 < a1) = true := decide_eq_true c4
    clear c4
    obtain rfl := Option.some.inj H
    go_enter Try.func47, Try.ntmps47
    go_wp2
    go_ret
    exact ⟨by first | rfl | (simp; done) | (simp [*]; done), by repeat (first | exact Drawn0.refl _ | apply Drawn0.step)⟩
  · rw [if_neg c4] at H
    have c4b0 : decide (a0 < a1) = false := decide_eq_false c4
    clear c4
    by_cases c5 : a0 > a2
    · rw [if_pos c5] at H
      have c5b0 : decide (a2 < a0) = true := decide_eq_true c5
      clear c5
      obtain rfl := Option.some.inj H
      go_enter Try.func47, Try.ntmps47
      go_wp2
      go_ret
      exact ⟨by first | rfl | (simp; done) | (simp [*]; done), by repeat (first | exact Drawn0.refl _ | apply Drawn0.step)⟩
    · rw [if_neg c5] at H
      have c5b0 : decide (a2 < a0) = false := decide_eq_false c5
      clear c5
      obtain rfl := Option.some.inj H
      go_enter Try.func47, Try.ntmps47
      go_wp2
      go_ret
      exact ⟨by first | rfl | (simp; done) | (simp [*]; done), by repeat (first | exact Drawn0.refl _ | apply Drawn0.step)⟩

end Go.Proofs.Ytmldhpnkkkmloaa.Q

namespace Go.Proofs.Ytmldhpnkkkmloaa.Q
open Go.RowKit Go.Proofs.YtmldhpnkkkmloaaW.PrintWords Go.Proofs.YtmldhpnkkkmloaaW.PrintLast Go.Proofs.YtmldhpnkkkmloaaW.PrintMore
attribute [local go_sem] max2_int min2_int max_two min_two max_three min_three max_four min_four   -- for this text's walks alone
set_option linter.unusedVariables false
set_option linter.unusedSimpArgs false

/-! ### credenzaref01_Wide: function 37 -/
def credenzaref01_Wide.f (a0 : Int) : Option (Int) := (credenzaref01_Cut.f a0 (-2147483648) 2147483647).bind fun t311 => (some (wrap32 (t311)))
set_option maxHeartbeats 8000000 in
set_option maxRecDepth 100000 in
theorem credenzaref01_Wide.calls (a0 : Int) (r : Int) (w : World) (h : credenzaref01_Wide.f a0 = some r) :
    Calls Try.prog 37 #[.int .i64 a0] w fun e w' => e = .returned (.int .i32 r) ∧ Drawn0 w w' := by
  have H : ((credenzaref01_Cut.f a0 (-2147483648) 2147483647).bind fun t311 => (some (wrap32 (t311)))) = some r := h
  clear h
  replace H := Option.bind_eq_some_iff.mp H
  obtain ⟨t311, A20, H⟩ := H
  replace H : (some (wrap32 (t311))) = some r := H
  have A2 := Aside0.mk A20
  clear A20
  obtain rfl := Option.some.inj H
  go_enter Try.func37, Try.ntmps37
  go_wp2_with (first | ((with_reducible refine gate_callee (f := 47) rfl ?_); refine goesL_ (some 4) rfl rfl Try.func47 (by kernel_rfl) rfl #[.int .i64 a0, .int .i64 (-2147483648), .int .i64 2147483647] rfl (by (try simp only [List.map_toArray, List.map_cons, List.map_nil]); first | done | rfl | (simp only [List.length_drop, List.length_take]; rfl)) ?_; (with_reducible refine (credenzaref01_Cut.calls a0 (-2147483648) 2147483647 t311 _ A2.out).mono ?_); rintro e w' ⟨rfl, ⟨nd, rfl⟩⟩; refine ⟨_, rfl, ?_⟩))
  go_ret
  exact ⟨by first | rfl | (simp; done) | (simp [*]; done), by repeat (first | exact Drawn0.refl _ | apply Drawn0.step)⟩

end Go.Proofs.Ytmldhpnkkkmloaa.Q

namespace Go.Proofs.Ytmldhpnkkkmloaa.Q
open Go.RowKit Go.Proofs.YtmldhpnkkkmloaaW.PrintWords Go.Proofs.YtmldhpnkkkmloaaW.PrintLast Go.Proofs.YtmldhpnkkkmloaaW.PrintMore
attribute [local go_sem] max2_int min2_int max_two min_two max_three min_three max_four min_four   -- for this text's walks alone
set_option linter.unusedVariables false
set_option linter.unusedSimpArgs false

/-! ### credenzaref01_Floor: function 48 -/
def credenzaref01_Floor.f (a0 : Int) (a1 : Int) : Option (Int) := if a1 = 0 then (none) else (if (wrap64 ((wrap64 (Int.tdiv a0 a1)) * a1)) > a0 then (some (wrap64 ((wrap64 (Int.tdiv a0 a1)) - 1))) else (some (wrap64 (Int.tdiv a0 a1))))
set_option maxHeartbeats 8000000 in
set_option maxRecDepth 100000 in
theorem credenzaref01_Floor.calls (a0 : Int) (a1 : Int) (r : Int) (w : World) (h : credenzaref01_Floor.f a0 a1 = some r) :
    Calls Try.prog 48 #[.int .i64 a0, .int .i64 a1] w fun e w' => e = .returned (.int .i64 r) ∧ Drawn0 w w' := by
  have H : (if a1 = 0 then (none) else (if (wrap64 ((wrap64 (Int.tdiv a0 a1)) * a1)) > a0 then (some (wrap64 ((wrap64 (Int.tdiv a0 a1)) - 1))) else (some (wrap64 (Int.tdiv a0 a1))))) = some r := h
  clear h
  by_cases c3 : a1 = 0
  · rw [if_pos c3] at H
    exact absurd H (by simp)
  · rw [if_neg c3] at H
    have c3b0 : (a1 == 0) = false := beq_eq_false_iff_ne.mpr c3
    have c3b1 : (a1 != 0) = true := bne_iff_ne.mpr c3
    by_cases c4 : (wrap64 ((wrap64 (Int.tdiv a0 a1)) * a1)) > a0
    · rw [if_pos c4] at H
      have c4b0 : decide (a0 < (wrap64 ((wrap64 (Int.tdiv a0 a1)) * a1))) = true := decide_eq_true c4
      clear c4
      obtain rfl := Option.some.inj H
      go_enter Try.func48, Try.ntmps48
      go_wp2
      go_ret
      exact ⟨by first | rfl | (simp; done) | (simp [*]; done), by repeat (first | exact Drawn0.refl _ | apply Drawn0.step)⟩
    · rw [if_neg c4] at H
      have c4b0 : decide (a0 < (wrap64 ((wrap64 (Int.tdiv a0 a1)) * a1))) = false := decide_eq_false c4
      clear c4
      obtain rfl := Option.some.inj H
      go_enter Try.func48, Try.ntmps48
      go_wp2
      go_ret
      exact ⟨by first | rfl | (simp; done) | (simp [*]; done), by repeat (first | exact Drawn0.refl _ | apply Drawn0.step)⟩

end Go.Proofs.Ytmldhpnkkkmloaa.Q

namespace Go.Proofs.Ytmldhpnkkkmloaa.Q
open Go.RowKit Go.Proofs.YtmldhpnkkkmloaaW.PrintWords Go.Proofs.YtmldhpnkkkmloaaW.PrintLast Go.Proofs.YtmldhpnkkkmloaaW.PrintMore
attribute [local go_sem] max2_int min2_int max_two min_two max_three min_three max_four min_four   -- for this text's walks alone
set_option linter.unusedVariables false
set_option linter.unusedSimpArgs false

/-! ### credenzaref01_Ratio: function 38 -/
def credenzaref01_Ratio.f (a0 : Int) (a1 : Int) : Option (Int) := (credenzaref01_Floor.f a0 a1).bind fun t312 => (if (wrap64 (a0 - (wrap64 (t312 * a1)))) > (wrap64 (a1 - (wrap64 (a0 - (wrap64 (t312 * a1)))))) then (some (wrap64 (t312 + 1))) else (if (wrap64 (a0 - (wrap64 (t312 * a1)))) = (wrap64 (a1 - (wrap64 (a0 - (wrap64 (t312 * a1)))))) then (if (Int.tmod t312 2) = 0 then (some t312) else (some (wrap64 (t312 + 1)))) else (some t312)))
set_option maxHeartbeats 8000000 in
set_option maxRecDepth 100000 in
theorem credenzaref01_Ratio.calls (a0 : Int) (a1 : Int) (r : Int) (w : World) (h : credenzaref01_Ratio.f a0 a1 = some r) :
    Calls Try.prog 38 #[.int .i64 a0, .int .i64 a1] w fun e w' => e = .returned (.int .i64 r) ∧ Drawn0 w w' := by
  have H : ((credenzaref01_Floor.f a0 a1).bind fun t312 => (if (wrap64 (a0 - (wrap64 (t312 * a1)))) > (wrap64 (a1 - (wrap64 (a0 - (wrap64 (t312 * a1)))))) then (some (wrap64 (t312 + 1))) else (if (wrap64 (a0 - (wrap64 (t312 * a1)))) = (wrap64 (a1 - (wrap64 (a0 - (wrap64 (t312 * a1)))))) then (if (Int.tmod t312 2) = 0 then (some t312) else (some (wrap64 (t312 + 1)))) else (some t312)))) = some r := h
  clear h
  replace H := Option.bind_eq_some_iff.mp H
  obtain ⟨t312, A30, H⟩ := H
  replace H : (if (wrap64 (a0 - (wrap64 (t312 * a1)))) > (wrap64 (a1 - (wrap64 (a0 - (wrap64 (t312 * a1)))))) then (some (wrap64 (t312 + 1))) else (if (wrap64 (a0 - (wrap64 (t312 * a1)))) = (wrap64 (a1 - (wrap64 (a0 - (wrap64 (t312 * a1)))))) then (if (Int.tmod t312 2) = 0 then (some t312) else (some (wrap64 (t312 + 1)))) else (some t312))) = some r := H
  have A3 := Aside0.mk A30
  clear A30
  by_cases c4 : (wrap64 (a0 - (wrap64 (t312 * a1)))) > (wrap64 (a1 - (wrap64 (a0 - (wrap64 (t312 * a1))))))
  · rw [if_pos c4] at H
    have c4b0 : decide ((wrap64 (a1 - (wrap64 (a0 - (wrap64 (t312 * a1)))))) < (wrap64 (a0 - (wrap64 (t312 * a1))))) = true := decide_eq_true c4
    clear c4
    obtain rfl := Option.some.inj H
    go_enter Try.func38, Try.ntmps38
    go_wp2_with (first | ((with_reducible refine gate_callee (f := 48) rfl ?_); refine goesL_ (some 10) rfl rfl Try.func48 (by kernel_rfl) rfl #[.int .i64 a0, .int .i64 a1] rfl (by (try simp only [List.map_toArray, List.map_cons, List.map_nil]); first | done | rfl | (simp only [List.length_drop, List.length_take]; rfl)) ?_; (with_reducible refine (credenzaref01_Floor.calls a0 a1 t312 _ A3.out).mono ?_); rintro e w' ⟨rfl, ⟨nd, rfl⟩⟩; refine ⟨_, rfl, ?_⟩))
    go_ret
    exact ⟨by first | rfl | (simp; done) | (simp [*]; done), by repeat (first | exact Drawn0.refl _ | apply Drawn0.step)⟩
  · rw [if_neg c4] at H
    have c4b0 : decide ((wrap64 (a1 - (wrap64 (a0 - (wrap64 (t312 * a1)))))) < (wrap64 (a0 - (wrap64 (t312 * a1))))) = false := decide_eq_false c4
    clear c4
    by_cases c5 : (wrap64 (a0 - (wrap64 (t312 * a1)))) = (wrap64 (a1 - (wrap64 (a0 - (wrap64 (t312 * a1))))))
    · rw [if_pos c5] at H
      have c5b0 : ((wrap64 (a0 - (wrap64 (t312 * a1)))) == (wrap64 (a1 - (wrap64 (a0 - (wrap64 (t312 * a1))))))) = true := beq_iff_eq.mpr c5
      have c5b1 : ((wrap64 (a0 - (wrap64 (t312 * a1)))) != (wrap64 (a1 - (wrap64 (a0 - (wrap64 (t312 * a1))))))) = false := bne_eq_false_iff_eq.mpr c5
      clear c5
      by_cases c6 : (Int.tmod t312 2) = 0
      · rw [if_pos c6] at H
        have c6b0 : ((Int.tmod t312 2) == 0) = true := beq_iff_eq.mpr c6
        have c6b1 : ((Int.tmod t312 2) != 0) = false := bne_eq_false_iff_eq.mpr c6
        clear c6
        obtain rfl := Option.some.inj H
        go_enter Try.func38, Try.ntmps38
        go_wp2_with (first | ((with_reducible refine gate_callee (f := 48) rfl ?_); refine goesL_ (some 10) rfl rfl Try.func48 (by kernel_rfl) rfl #[.int .i64 a0, .int .i64 a1] rfl (by (try simp only [List.map_toArray, List.map_cons, List.map_nil]); first | done | rfl | (simp only [List.length_drop, List.length_take]; rfl)) ?_; (with_reducible refine (credenzaref01_Floor.calls a0 a1 t312 _ A3.out).mono ?_); rintro e w' ⟨rfl, ⟨nd, rfl⟩⟩; refine ⟨_, rfl, ?_⟩))
        go_ret
        exact ⟨by first | rfl | (simp; done) | (simp [*]; done), by repeat (first | exact Drawn0.refl _ | apply Drawn0.step)⟩
      · rw [if_neg c6] at H
        have c6b0 : ((Int.tmod t312 2) == 0) = false := beq_eq_false_iff_ne.mpr c6
        have c6b1 : ((Int.tmod t312 2) != 0) = true := bne_iff_ne.mpr c6
        obtain rfl := Option.some.inj H
        go_enter Try.func38, Try.ntmps38
        go_wp2_with (first | ((with_reducible refine gate_callee (f := 48) rfl ?_); refine goesL_ (some 10) rfl rfl Try.func48 (by kernel_rfl) rfl #[.int .i64 a0, .int .i64 a1] rfl (by (try simp only [List.map_toArray, List.map_cons, List.map_nil]); first | done | rfl | (simp only [List.length_drop, List.length_take]; rfl)) ?_; (with_reducible refine (credenzaref01_Floor.calls a0 a1 t312 _ A3.out).mono ?_); rintro e w' ⟨rfl, ⟨nd, rfl⟩⟩; refine ⟨_, rfl, ?_⟩))
        go_ret
        exact ⟨by first | rfl | (simp; done) | (simp [*]; done), by repeat (first | exact Drawn0.refl _ | apply Drawn0.step)⟩
    · rw [if_neg c5] at H
      have c5b0 : ((wrap64 (a0 - (wrap64 (t312 * a1)))) == (wrap64 (a1 - (wrap64 (a0 - (wrap64 (t312 * a1))))))) = false := beq_eq_false_iff_ne.mpr c5
      have c5b1 : ((wrap64 (a0 - (wrap64 (t312 * a1)))) != (wrap64 (a1 - (wrap64 (a0 - (wrap64 (t312 * a1))))))) = true := bne_iff_ne.mpr c5
      obtain rfl := Option.some.inj H
      go_enter Try.func38, Try.ntmps38
      go_wp2_with (first | ((with_reducible refine gate_callee (f := 48) rfl ?_); refine goesL_ (some 10) rfl rfl Try.func48 (by kernel_rfl) rfl #[.int .i64 a0, .int .i64 a1] rfl (by (try simp only [List.map_toArray, List.map_cons, List.map_nil]); first | done | rfl | (simp only [List.length_drop, List.length_take]; rfl)) ?_; (with_reducible refine (credenzaref01_Floor.calls a0 a1 t312 _ A3.out).mono ?_); rintro e w' ⟨rfl, ⟨nd, rfl⟩⟩; refine ⟨_, rfl, ?_⟩))
      go_ret
      exact ⟨by first | rfl | (simp; done) | (simp [*]; done), by repeat (first | exact Drawn0.refl _ | apply Drawn0.step)⟩

end Go.Proofs.Ytmldhpnkkkmloaa.Q

namespace Go.Proofs.Ytmldhpnkkkmloaa.Q
open Go.RowKit Go.Proofs.YtmldhpnkkkmloaaW.PrintWords Go.Proofs.YtmldhpnkkkmloaaW.PrintLast Go.Proofs.YtmldhpnkkkmloaaW.PrintMore
attribute [local go_sem] max2_int min2_int max_two min_two max_three min_three max_four min_four   -- for this text's walks alone
set_option linter.unusedVariables false
set_option linter.unusedSimpArgs false

/-! ### credenzaref01_Power: function 63 -/
def credenzaref01_Power.l0 : Nat → Int → Int → Int → Option (Int)
  | 0, _, _, _ => none
  | k + 1, x0, x3, x4 => if x4 < x0 then (credenzaref01_Power.l0 k x0 (wrap64 (x3 * 2)) (wrap64 (x4 + 1))) else (some x3)
def credenzaref01_Power.f (k : Nat) (a0 : Int) : Option (Int) := credenzaref01_Power.l0 k a0 1 0
theorem credenzaref01_Power.mono_l : ∀ k, (∀ y0 y1 y2, LeO (credenzaref01_Power.l0 k y0 y1 y2) (credenzaref01_Power.l0 (k + 1) y0 y1 y2))
  | 0 => fun _ _ _ r h => by simp [credenzaref01_Power.l0] at h
  | k + 1 => by
    have ih0 := credenzaref01_Power.mono_l k
    · intro y0 y1 y2
      unfold credenzaref01_Power.l0
      repeat' first
      | (with_reducible exact ih0 _ _ _)
      | (with_reducible exact LeO.refl _)
      | (with_reducible exact LeO.none _)
      | (with_reducible refine LeO.ite ?_ ?_)
      | (with_reducible refine LeO.bind ?_ (fun _ => ?_))
      | exact ih0 _ _ _
      | exact LeO.none _
      | refine LeO.ite ?_ ?_
      | refine LeO.bind ?_ (fun _ => ?_)
theorem credenzaref01_Power.mono : ∀ a0 k, LeO (credenzaref01_Power.f k a0) (credenzaref01_Power.f (k + 1) a0) := by
  intro a0 k
  have ih0 := credenzaref01_Power.mono_l k
  unfold credenzaref01_Power.f
  repeat' first
      | (with_reducible exact ih0 _ _ _)
      | (with_reducible exact LeO.refl _)
      | (with_reducible exact LeO.none _)
      | (with_reducible refine LeO.ite ?_ ?_)
      | (with_reducible refine LeO.bind ?_ (fun _ => ?_))
      | exact ih0 _ _ _
      | exact LeO.none _
      | refine LeO.ite ?_ ?_
      | refine LeO.bind ?_ (fun _ => ?_)
set_option maxHeartbeats 8000000 in
set_option maxRecDepth 100000 in
theorem credenzaref01_Power.calls (k : Nat) (a0 : Int) (r : Int) (w : World) (h : credenzaref01_Power.f k a0 = some r) :
    Calls Try.prog 63 #[.int .i64 a0] w fun e w' => e = .returned (.int .i64 r) ∧ Drawn0 w w' := by
  have H : (credenzaref01_Power.l0 k a0 1 0) = some r := h
  clear h
  have H' := Aside0.mk H
  clear H
  go_enter Try.func63, Try.ntmps63
  go_wp2
  go_loopg [3, 4] k (fun kq v3 v4 w' => ∃ (x3_1 : Int) (x4_1 : Int), v3 = .int .i64 x3_1 ∧ v4 = .int .i64 x4_1 ∧ Aside0 (credenzaref01_Power.l0 kq a0 x3_1 x4_1 = some r) ∧ Aside0 (kq ≤ k) ∧ Drawn0 w w')
  case atStart => exact ⟨(1), (0), (by first | rfl | (simp; done) | (simp [*]; done)), (by first | rfl | (simp; done) | (simp [*]; done)), H', ⟨Nat.le_refl _⟩, by repeat (first | exact Drawn0.refl _ | apply Drawn0.step)⟩
  case round =>
    clear H'
    obtain ⟨x3_1, x4_1, rfl, rfl, HA, HK1, ⟨m1, rfl⟩⟩ := hrel
    cases gk with
    | zero => exact absurd HA.out (by simp [credenzaref01_Power.l0])
    | succ k1 =>
      have H := HA.out
      clear HA
      simp only [credenzaref01_Power.l0] at H
      by_cases c2 : x4_1 < a0
      · rw [if_pos c2] at H
        have c2b0 : decide (x4_1 < a0) = true := decide_eq_true c2
        clear c2
        have H' := Aside0.mk H
        clear H
        go_wp2
        go_roundg k1
        case measure => have := HK1.out; omega
        case rel => exact ⟨(wrap64 (x3_1 * 2)), (wrap64 (x4_1 + 1)), (by first | rfl | (simp; done) | (simp [*]; done)), (by first | rfl | (simp; done) | (simp [*]; done)), H', ⟨by have := HK1.out; omega⟩, by repeat (first | exact Drawn0.refl _ | apply Drawn0.step)⟩
      · rw [if_neg c2] at H
        have c2b0 : decide (x4_1 < a0) = false := decide_eq_false c2
        clear c2
        obtain rfl := Option.some.inj H
        go_wp2
        go_ret
        exact ⟨by first | rfl | (simp; done) | (simp [*]; done), by repeat (first | exact Drawn0.refl _ | apply Drawn0.step)⟩

end Go.Proofs.Ytmldhpnkkkmloaa.Q

namespace Go.Proofs.Ytmldhpnkkkmloaa.Q
open Go.RowKit Go.Proofs.YtmldhpnkkkmloaaW.PrintWords Go.Proofs.YtmldhpnkkkmloaaW.PrintLast Go.Proofs.YtmldhpnkkkmloaaW.PrintMore
attribute [local go_sem] max2_int min2_int max_two min_two max_three min_three max_four min_four   -- for this text's walks alone
set_option linter.unusedVariables false
set_option linter.unusedSimpArgs false

/-! ### credenzaref01_Half: function 49 -/
def credenzaref01_Half.f (k : Nat) (a0 : Int) (a1 : Int) : Option (Int) := (credenzaref01_Cut.f a1 0 62).bind fun t318 => ((credenzaref01_Power.f k t318).bind fun t319 => ((credenzaref01_Ratio.f a0 t319).bind fun t320 => (some t320)))
theorem credenzaref01_Half.mono : ∀ a0 a1 k, LeO (credenzaref01_Half.f k a0 a1) (credenzaref01_Half.f (k + 1) a0 a1) := by
  intro a0 a1 k
  unfold credenzaref01_Half.f
  repeat' first
      | (with_reducible exact credenzaref01_Power.mono _ _)
      | (with_reducible exact LeO.refl _)
      | (with_reducible exact LeO.none _)
      | (with_reducible refine LeO.ite ?_ ?_)
      | (with_reducible refine LeO.bind ?_ (fun _ => ?_))
      | exact credenzaref01_Power.mono _ _
      | exact LeO.none _
      | refine LeO.ite ?_ ?_
      | refine LeO.bind ?_ (fun _ => ?_)
set_option maxHeartbeats 8000000 in
set_option maxRecDepth 100000 in
theorem credenzaref01_Half.calls (k : Nat) (a0 : Int) (a1 : Int) (r : Int) (w : World) (h : credenzaref01_Half.f k a0 a1 = some r) :
    Calls Try.prog 49 #[.int .i64 a0, .int .i64 a1] w fun e w' => e = .returned (.int .i64 r) ∧ Drawn0 w w' := by
  have H : ((credenzaref01_Cut.f a1 0 62).bind fun t318 => ((credenzaref01_Power.f k t318).bind fun t319 => ((credenzaref01_Ratio.f a0 t319).bind fun t320 => (some t320)))) = some r := h
  clear h
  replace H := Option.bind_eq_some_iff.mp H
  obtain ⟨t318, A30, H⟩ := H
  replace H : ((credenzaref01_Power.f k t318).bind fun t319 => ((credenzaref01_Ratio.f a0 t319).bind fun t320 => (some t320))) = some r := H
  have A3 := Aside0.mk A30
  clear A30
  replace H := Option.bind_eq_some_iff.mp H
  obtain ⟨t319, A40, H⟩ := H
  replace H : ((credenzaref01_Ratio.f a0 t319).bind fun t320 => (some t320)) = some r := H
  have A4 := Aside0.mk A40
  clear A40
  replace H := Option.bind_eq_some_iff.mp H
  obtain ⟨t320, A50, H⟩ := H
  replace H : (some t320) = some r := H
  have A5 := Aside0.mk A50
  clear A50
  obtain rfl := Option.some.inj H
  go_enter Try.func49, Try.ntmps49
  go_wp2_with (first | ((with_reducible refine gate_callee (f := 47) rfl ?_); refine goesL_ (some 7) rfl rfl Try.func47 (by kernel_rfl) rfl #[.int .i64 a1, .int .i64 0, .int .i64 62] rfl (by (try simp only [List.map_toArray, List.map_cons, List.map_nil]); first | done | rfl | (simp only [List.length_drop, List.length_take]; rfl)) ?_; (with_reducible refine (credenzaref01_Cut.calls a1 0 62 t318 _ A3.out).mono ?_); rintro e w' ⟨rfl, ⟨nd, rfl⟩⟩; refine ⟨_, rfl, ?_⟩) | ((with_reducible refine gate_callee (f := 63) rfl ?_); refine goesL_ (some 8) rfl rfl Try.func63 (by kernel_rfl) rfl #[.int .i64 t318] rfl (by (try simp only [List.map_toArray, List.map_cons, List.map_nil]); first | done | rfl | (simp only [List.length_drop, List.length_take]; rfl)) ?_; (with_reducible refine (credenzaref01_Power.calls k t318 t319 _ A4.out).mono ?_); rintro e w' ⟨rfl, ⟨nd, rfl⟩⟩; refine ⟨_, rfl, ?_⟩) | ((with_reducible refine gate_callee (f := 38) rfl ?_); refine goesL_ (some 9) rfl rfl Try.func38 (by kernel_rfl) rfl #[.int .i64 a0, .int .i64 t319] rfl (by (try simp only [List.map_toArray, List.map_cons, List.map_nil]); first | done | rfl | (simp only [List.length_drop, List.length_take]; rfl)) ?_; (with_reducible refine (credenzaref01_Ratio.calls a0 t319 t320 _ A5.out).mono ?_); rintro e w' ⟨rfl, ⟨nd, rfl⟩⟩; refine ⟨_, rfl, ?_⟩))
  go_ret
  exact ⟨by first | rfl | (simp; done) | (simp [*]; done), by repeat (first | exact Drawn0.refl _ | apply Drawn0.step)⟩

end Go.Proofs.Ytmldhpnkkkmloaa.Q

namespace Go.Proofs.Ytmldhpnkkkmloaa.Pure
open Go.RowKit Go.Proofs.Ytmldhpnkkkmloaa.Q Go.Proofs.YtmldhpnkkkmloaaW.PrintWords Go.Proofs.YtmldhpnkkkmloaaW.PrintLast

theorem bits_and1 (q : Int) : Go.bits .and .i64 q 1 = q % 2 := by
  have h1 : (BitVec.ofInt 64 1).toNat = 1 := by decide
  have h2 : ((BitVec.ofInt 64 q) &&& (BitVec.ofInt 64 1)).toNat = ((BitVec.ofInt 64 q).toNat % 2) := by
    rw [BitVec.toNat_and, h1, Nat.and_one_is_mod]
  have h3 : (BitVec.ofInt 64 q).toNat = (q % 18446744073709551616).toNat := by rw [BitVec.toNat_ofInt]; rfl
  have hb : IntKind.i64.bits = 64 := rfl
  unfold bits
  show IntKind.i64.wrap (((BitVec.ofInt 64 q) &&& (BitVec.ofInt 64 1)).toNat : Int) = q % 2
  rw [h2, h3, IntWalk.i64_in _ (by omega)]
  omega

/-- cut to a range -/
def cutR (v lo hi : Int) : Int := if v < lo then lo else if hi < v then hi else v
def wideR (v : Int) : Int := cutR v (-2147483648) 2147483647
def narR (v : Int) : Int := cutR v (-8388608) 8388608
theorem cutR_bd {v lo hi : Int} (h : lo ≤ hi) : lo ≤ cutR v lo hi ∧ cutR v lo hi ≤ hi := by unfold cutR; split <;> (try split) <;> omega
theorem narR_bd (v : Int) : -8388608 ≤ narR v ∧ narR v ≤ 8388608 := cutR_bd (by omega)
theorem wideR_bd (v : Int) : -2147483648 ≤ wideR v ∧ wideR v ≤ 2147483647 := cutR_bd (by omega)
theorem w64 {x : Int} (h1 : -9223372036854775808 ≤ x) (h2 : x ≤ 9223372036854775807) : wrap64 x = x := IntWalk.wrap64_in x ⟨h1, h2⟩
theorem w32 {x : Int} (h1 : -2147483648 ≤ x) (h2 : x ≤ 2147483647) : wrap32 x = x := IntWalk.wrap32_in x ⟨h1, h2⟩
theorem fix_cut_some (v lo hi : Int) (h : lo ≤ hi) (h1 : -2147483648 ≤ lo) (h2 : hi ≤ 2147483647) : fix_cut.f v lo hi = some (cutR v lo hi) := by
  have hb := cutR_bd (v := v) h
  have e : mn (mx v lo) hi = cutR v lo hi := by unfold mn mx cutR; omega
  unfold fix_cut.f
  rw [e, w32 (by omega) (by omega)]
theorem fix_Wide_some (v : Int) : fix_Wide.f v = some (wideR v) := by
  unfold fix_Wide.f
  rw [fix_cut_some v _ _ (by omega) (by omega) (by omega)]
  rfl
theorem ref_Cut_some (v lo hi : Int) : credenzaref01_Cut.f v lo hi = some (cutR v lo hi) := by
  unfold credenzaref01_Cut.f cutR
  by_cases h1 : v < lo
  · rw [if_pos h1, if_pos h1]
  · rw [if_neg h1, if_neg h1]
    by_cases h2 : v > hi
    · rw [if_pos h2, if_pos h2]
    · rw [if_neg h2, if_neg h2]
theorem ref_Wide_some (v : Int) : credenzaref01_Wide.f v = some (wideR v) := by
  have hb := wideR_bd v
  unfold credenzaref01_Wide.f
  rw [ref_Cut_some]
  show some (wrap32 (wideR v)) = _
  rw [w32 hb.1 hb.2]
/-- a by b (above 0), to the nearest; from the middle to the even one -/
def rnd (a b : Int) : Int := if b - a % b < a % b ∨ (a % b = b - a % b ∧ (a / b) % 2 ≠ 0) then a / b + 1 else a / b
theorem divmod {a b : Int} (hb : 0 < b) : b * (a / b) + a % b = a ∧ 0 ≤ a % b ∧ a % b < b := ⟨Int.mul_ediv_add_emod a b, Int.emod_nonneg _ (by omega), Int.emod_lt_of_pos _ hb⟩
theorem div_bd {a b : Int} (hb : 0 < b) (B : Int) (h1 : -B ≤ a) (h2 : a ≤ B) : -B ≤ a / b ∧ a / b ≤ B := by
  have hB : 0 ≤ B := by omega
  constructor
  · apply Int.le_ediv_of_mul_le hb
    have : -B * b ≤ -B * 1 := Int.mul_le_mul_of_nonpos_left (by omega) (by omega)
    omega
  · have : a / b < B + 1 := by
      apply Int.ediv_lt_of_lt_mul hb
      have : (B + 1) * 1 ≤ (B + 1) * b := Int.mul_le_mul_of_nonneg_left (by omega) (by omega)
      omega
    omega
theorem tdiv_cases {a b : Int} (hb : 0 < b) : (Int.tdiv a b = a / b ∧ (0 ≤ a ∨ a % b = 0)) ∨ (Int.tdiv a b = a / b + 1 ∧ a < 0 ∧ a % b ≠ 0) := by
  rw [Int.tdiv_eq_ediv]
  by_cases h : 0 ≤ a ∨ b ∣ a
  · rw [if_pos h]
    refine .inl ⟨by omega, h.imp_right (fun h => Int.emod_eq_zero_of_dvd h)⟩
  · rw [if_neg h]
    refine .inr ⟨by rw [Int.sign_eq_one_of_pos hb], by omega, fun h2 => h (.inr (Int.dvd_of_emod_eq_zero h2))⟩
theorem rnd_bd {a b : Int} (hb : 0 < b) (B : Int) (h1 : -B ≤ a) (h2 : a ≤ B) : -B ≤ rnd a b ∧ rnd a b ≤ B + 1 := by
  have := div_bd hb B h1 h2
  unfold rnd
  split <;> omega
theorem ref_Floor_some {a b : Int} (hb : 0 < b) (ha1 : -4611686018427387904 ≤ a) (ha2 : a ≤ 4611686018427387904) (hb2 : b ≤ 4611686018427387904) : credenzaref01_Floor.f a b = some (a / b) := by
  obtain ⟨h1, h2, h3⟩ := divmod (a := a) hb
  have h4 := div_bd hb 4611686018427387904 ha1 ha2
  have h5 : (a / b + 1) * b = b * (a / b) + b := by rw [Int.add_mul, Int.mul_comm]; omega
  have h6 : (a / b) * b = b * (a / b) := Int.mul_comm _ _
  unfold credenzaref01_Floor.f
  rw [if_neg (by omega)]
  rcases tdiv_cases (a := a) hb with ⟨e, h⟩ | ⟨e, h, h'⟩
  · rw [e, w64 (x := a / b) (by omega) (by omega), h6, w64 (x := b * (a / b)) (by omega) (by omega), if_neg (by omega)]
  · rw [e, w64 (x := a / b + 1) (by omega) (by omega), h5, w64 (x := b * (a / b) + b) (by omega) (by omega), if_pos (by omega), show a / b + 1 - 1 = a / b by omega, w64 (x := a / b) (by omega) (by omega)]
theorem ref_Ratio_some {a b : Int} (hb : 0 < b) (ha1 : -4611686018427387904 ≤ a) (ha2 : a ≤ 4611686018427387904) (hb2 : b ≤ 4611686018427387904) : credenzaref01_Ratio.f a b = some (rnd a b) := by
  obtain ⟨h1, h2, h3⟩ := divmod (a := a) hb
  have h4 := div_bd hb 4611686018427387904 ha1 ha2
  have h6 : (a / b) * b = b * (a / b) := Int.mul_comm _ _
  unfold credenzaref01_Ratio.f
  rw [ref_Floor_some hb ha1 ha2 hb2]
  simp only [Option.bind_some]
  rw [h6, w64 (x := b * (a / b)) (by omega) (by omega), show a - b * (a / b) = a % b by omega, w64 (x := a % b) (by omega) (by omega), w64 (x := b - a % b) (by omega) (by omega), w64 (x := a / b + 1) (by omega) (by omega)]
  have ht : Int.tmod (a / b) 2 = 0 ↔ (a / b) % 2 = 0 := by rw [Int.tmod_eq_emod]; split <;> omega
  unfold rnd
  by_cases c1 : a % b > b - a % b
  · rw [if_pos c1, if_pos (.inl c1)]
  · rw [if_neg c1]
    by_cases c2 : a % b = b - a % b
    · rw [if_pos c2]
      by_cases c3 : (a / b) % 2 = 0
      · rw [if_pos (ht.2 c3), if_neg (by omega)]
      · rw [if_neg (fun h => c3 (ht.1 h)), if_pos (.inr ⟨c2, c3⟩)]
    · rw [if_neg c2, if_neg (by omega)]
theorem fix_Ratio_some {a b : Int} (hb : 0 < b) (ha1 : -4611686018427387904 ≤ a) (ha2 : a ≤ 4611686018427387904) (hb2 : b ≤ 4611686018427387904) : fix_Ratio.f a b = some (rnd a b) := by
  obtain ⟨h1, h2, h3⟩ := divmod (a := a) hb
  have h4 := div_bd hb 4611686018427387904 ha1 ha2
  have hm : Int.tmod a b = a - b * Int.tdiv a b := by have := Int.mul_tdiv_add_tmod a b; omega
  unfold fix_Ratio.f
  rw [if_neg (by omega), if_neg (by omega)]
  rcases tdiv_cases (a := a) hb with ⟨e, h⟩ | ⟨e, h, h'⟩
  · have hm2 : Int.tmod a b = a % b := by rw [hm, e]; omega
    rw [e, hm2, if_neg (by omega), w64 (x := b - a % b) (by omega) (by omega), w64 (x := a / b) (by omega) (by omega), w64 (x := a / b + 1) (by omega) (by omega), bits_and1]
    unfold rnd
    by_cases c1 : a % b > b - a % b
    · rw [if_pos c1, if_pos (.inl c1)]
    · rw [if_neg c1]
      by_cases c2 : a % b = b - a % b
      · rw [if_pos c2]
        by_cases c3 : (a / b) % 2 = 0
        · rw [if_pos c3, if_neg (by omega)]
        · rw [if_neg c3, if_pos (.inr ⟨c2, c3⟩)]
      · rw [if_neg c2, if_neg (by omega)]
  · have h5 : b * (a / b + 1) = b * (a / b) + b := by rw [Int.mul_add]; omega
    have hm2 : Int.tmod a b = a % b - b := by rw [hm, e, h5]; omega
    rw [e, hm2, if_pos (by omega), w64 (x := a % b - b + b) (by omega) (by omega), show a % b - b + b = a % b by omega, w64 (x := b - a % b) (by omega) (by omega), w64 (x := a / b + 1) (by omega) (by omega), show a / b + 1 - 1 = a / b by omega, w64 (x := a / b) (by omega) (by omega), w64 (x := a / b + 1) (by omega) (by omega), bits_and1]
    unfold rnd
    by_cases c1 : a % b > b - a % b
    · rw [if_pos c1, if_pos (.inl c1)]
    · rw [if_neg c1]
      by_cases c2 : a % b = b - a % b
      · rw [if_pos c2]
        by_cases c3 : (a / b) % 2 = 0
        · rw [if_pos c3, if_neg (by omega)]
        · rw [if_neg c3, if_pos (.inr ⟨c2, c3⟩)]
      · rw [if_neg c2, if_neg (by omega)]
theorem pow2_bd {n : Nat} (hn : n ≤ 62) : 1 ≤ (2 : Int) ^ n ∧ (2 : Int) ^ n ≤ 4611686018427387904 := by
  have h1 : (2 : Nat) ^ n ≤ 2 ^ 62 := Nat.pow_le_pow_right (by decide) hn
  have h2 : 1 ≤ (2 : Nat) ^ n := Nat.one_le_two_pow
  have h3 : (2 : Int) ^ n = ((2 ^ n : Nat) : Int) := by simp
  rw [h3]
  have h4 : (2 : Nat) ^ 62 = 4611686018427387904 := by decide
  omega
theorem fix_Half_some {a : Int} {n : Nat} (hn : n ≤ 62) (ha1 : -4611686018427387904 ≤ a) (ha2 : a ≤ 4611686018427387904) : fix_Half.f a (n : Int) = some (rnd a (2 ^ n)) := by
  obtain ⟨hp1, hp2⟩ := pow2_bd hn
  have e : (mn (mx (n : Int) 0) 62) = (n : Int) := by unfold mn mx; omega
  have heven : n = 0 ∧ (2 : Int) ^ n = 1 ∨ 0 < n ∧ (2 : Int) ^ n % 2 = 0 := by
    cases n with
    | zero => exact .inl ⟨rfl, rfl⟩
    | succ m => exact .inr ⟨by omega, by rw [Int.pow_succ]; omega⟩
  unfold fix_Half.f
  rw [e, Int.toNat_natCast]
  generalize (2 : Int) ^ n = b at *
  obtain ⟨h1, h2, h3⟩ := divmod (a := a) (b := b) (by omega)
  have h4 := div_bd (b := b) (by omega) 4611686018427387904 ha1 ha2
  have h6 : (a / b) * b = b * (a / b) := Int.mul_comm _ _
  rw [h6, w64 (x := b * (a / b)) (by omega) (by omega), show a - b * (a / b) = a % b by omega, w64 (x := a % b) (by omega) (by omega), w64 (x := b) (by omega) (by omega), w64 (x := a / b + 1) (by omega) (by omega), bits_and1]
  unfold rnd
  by_cases c1 : a % b > b / 2
  · rw [if_pos c1, if_pos (.inl (by omega))]
  · rw [if_neg c1]
    by_cases c2 : a % b = b / 2
    · rw [if_pos c2]
      rcases heven with ⟨h0, h0'⟩ | ⟨h0, h0'⟩
      · rw [if_neg (by omega), if_neg (by omega)]
      · rw [if_pos (by omega)]
        by_cases c3 : (a / b) % 2 = 1
        · rw [if_pos c3, if_pos (.inr (by omega))]
        · rw [if_neg c3, if_neg (by omega)]
    · rw [if_neg c2, if_neg (by omega)]
theorem fix_Half_16 {a : Int} (ha1 : -4611686018427387904 ≤ a) (ha2 : a ≤ 4611686018427387904) : fix_Half.f a 16 = some (rnd a 65536) := fix_Half_some (n := 16) (by omega) ha1 ha2
/-- the product of two numbers with 16 bits behind the point -/
def mulR (a b : Int) : Int := wideR (rnd (a * b) 65536)
theorem mul_bd {a b A B : Int} (h1 : -A ≤ a) (h2 : a ≤ A) (h3 : -B ≤ b) (h4 : b ≤ B) : -(A * B) ≤ a * b ∧ a * b ≤ A * B := by
  have hA : 0 ≤ A := by omega
  have hB : 0 ≤ B := by omega
  have e : (a * b).natAbs ≤ A.natAbs * B.natAbs := by rw [Int.natAbs_mul]; exact Nat.mul_le_mul (by omega) (by omega)
  have e2 : (A * B).natAbs = A.natAbs * B.natAbs := Int.natAbs_mul _ _
  have e3 : 0 ≤ A * B := Int.mul_nonneg hA hB
  rw [← e2] at e
  generalize a * b = p at *
  generalize A * B = q at *
  omega
theorem mul32_bd {a b : Int} (h1 : -2147483648 ≤ a) (h2 : a ≤ 2147483648) (h3 : -2147483648 ≤ b) (h4 : b ≤ 2147483648) : -4611686018427387904 ≤ a * b ∧ a * b ≤ 4611686018427387904 := mul_bd (A := 2147483648) (B := 2147483648) h1 h2 h3 h4

/-! ### lists -/
def I32 (x : Int) : Prop := -2147483648 ≤ x ∧ x ≤ 2147483647
def A32 (l : List Int) : Prop := ∀ x ∈ l, I32 x
theorem rd_at {l : List Int} {p : Nat} (h : p < l.length) : rd l (p : Int) = l[p] := by simp [rd, List.getD_eq_getElem?_getD, List.getElem?_eq_getElem h]
theorem rd_mem {l : List Int} {p : Nat} (h : p < l.length) : rd l (p : Int) ∈ l := by rw [rd_at h]; exact List.getElem_mem h
theorem drop_rd {l : List Int} {p : Nat} (h : p < l.length) : l.drop p = rd l (p : Int) :: l.drop (p + 1) := by rw [rd_at h]; exact List.drop_eq_getElem_cons h
theorem take_rd {l : List Int} {p : Nat} (h : p < l.length) : l.take (p + 1) = l.take p ++ [rd l (p : Int)] := by rw [rd_at h, List.take_succ_eq_append_getElem h]
theorem wnext {p n : Nat} (h : p < n) (hn : n ≤ 4611686018427387904) : wrap64 ((p : Int) + 1) = ((p + 1 : Nat) : Int) := by rw [w64 (by omega) (by omega)]; omega
end Go.Proofs.Ytmldhpnkkkmloaa.Pure

namespace Go.Proofs.Ytmldhpnkkkmloaa.Pure
open Go.RowKit Go.Proofs.Ytmldhpnkkkmloaa.Q Go.Proofs.YtmldhpnkkkmloaaW.PrintWords Go.Proofs.YtmldhpnkkkmloaaW.PrintLast Go.Proofs.Ytmldhpnkkkmloaa.SortM
set_option linter.unusedVariables false

/-- The kept ones, whatever 'top' is. -/
def kpt (l : List Int) (t : Int) : List Int := if t = 0 then iota l.length else keptOf l t.toNat
theorem pk_eq (l : List Int) (t : Int) (h : 0 ≤ t) : KeptW.pk l t = kpt l t := by
  unfold KeptW.pk kpt
  by_cases h0 : t = 0
  · rw [if_pos (.inl h0), if_pos h0]
  · rw [if_neg h0]
    by_cases h1 : (l.length : Int) ≤ t
    · rw [if_pos (.inr h1), kept_all l _ (by omega)]
    · rw [if_neg (by omega)]
theorem pick_Kept_some {l : List Int} {t : Int} (h : l.length ≤ 1000000) (ht : 0 ≤ t) : pick_Kept.f l t = some (kpt l t) := by
  unfold pick_Kept.f
  rw [if_pos ⟨h, ht⟩, pk_eq l t ht]

theorem iota_succ (n : Nat) : iota (n + 1) = iota n ++ [(n : Int)] := by simp [iota, List.range_succ]
theorem iota_take {n p : Nat} (h : p ≤ n) : ∃ r, iota n = iota p ++ r := by
  induction n with
  | zero => exact ⟨[], by obtain rfl : p = 0 := by omega
                          simp⟩
  | succ n ih =>
    by_cases e : p = n + 1
    · subst e; exact ⟨[], by simp⟩
    · obtain ⟨r, hr⟩ := ih (by omega)
      exact ⟨r ++ [(n : Int)], by rw [iota_succ, hr]; simp⟩

/-- How the reference asks whether a place is kept. -/
def inK (l : List Int) (t x : Int) : Bool := decide (t = 0 ∨ (SortM.ahead l x : Int) < t)
theorem kpt_filter (l : List Int) (t : Int) : kpt l t = (iota l.length).filter (inK l t) := by
  unfold kpt
  by_cases h0 : t = 0
  · rw [if_pos h0, Eq.comm, List.filter_eq_self]
    intro x _
    simp [inK, h0]
  · rw [if_neg h0, keptOf]
    congr 1
    funext x
    unfold inK
    congr 1
    apply propext
    constructor
    · intro h; right; omega
    · rintro (h | h) <;> omega

def cnt (l : List Int) (i : Int) (p : Nat) : Nat := (iota p).countP (fun y => before l y i)
theorem cnt_succ (l : List Int) (i : Int) (p : Nat) : cnt l i (p + 1) = cnt l i p + if before l (p : Int) i = true then 1 else 0 := by
  unfold cnt; rw [iota_succ, List.countP_append, List.countP_singleton]
theorem cnt_le (l : List Int) (i : Int) (p : Nat) : cnt l i p ≤ p := by
  have := List.countP_le_length (p := fun y => before l y i) (l := iota p); rw [iota_length] at this; exact this

theorem ref_kept_l1 (l : List Int) (t : Int) (out : List Int) (i : Nat) (hi : i < l.length) (hn : l.length ≤ 1000000) (ho : out.length ≤ 1000000) {r : List Int}
    (hnext : Ev (fun k => credenzaref20_Kept.l0 k l t (if inK l t (i : Int) = true then out ++ [(i : Int)] else out) ((i + 1 : Nat) : Int)) r) :
    ∀ d p : Nat, p + d = l.length → Ev (fun k => credenzaref20_Kept.l1 k l t out (i : Int) (cnt l (i : Int) p : Int) (p : Int)) r := by
  intro d
  induction d with
  | zero =>
    intro p hp
    obtain rfl : p = l.length := by omega
    refine Ev.step (fun k => ?_) hnext
    have hb : (inK l t (i : Int) = true) ↔ (t = 0 ∨ (cnt l (i : Int) l.length : Int) < t) := by unfold inK SortM.ahead cnt; rw [decide_eq_true_iff]
    rw [credenzaref20_Kept.l1, if_neg (by omega), wnext (n := l.length) hi (by omega)]
    by_cases h0 : t = 0
    · rw [if_pos h0, if_pos (by omega), if_pos (hb.2 (.inl h0))]
    · rw [if_neg h0]
      by_cases h1 : (cnt l (i : Int) l.length : Int) < t
      · rw [if_pos h1, if_pos (by omega), if_pos (hb.2 (.inr h1))]
      · rw [if_neg h1, if_neg (fun h => by rcases hb.1 h with h | h <;> omega)]
  | succ d ih =>
    intro p hp
    have hlt : p < l.length := by omega
    refine Ev.step (fun k => ?_) (ih (p + 1) (by omega))
    have hc := cnt_le l (i : Int) p
    have hs := cnt_succ l (i : Int) p
    have e2 : wrap64 ((cnt l (i : Int) p : Int) + 1) = ((cnt l (i : Int) p + 1 : Nat) : Int) := by rw [w64 (by omega) (by omega)]; omega
    rw [credenzaref20_Kept.l1, if_pos (by omega), if_pos (by omega), if_pos (by omega), if_pos (by omega), wnext hlt (by omega), e2]
    have hbf : before l (p : Int) (i : Int) = true ↔ (rd l (p : Int) > rd l (i : Int) ∨ rd l (p : Int) = rd l (i : Int) ∧ (p : Int) < (i : Int)) := by unfold before; rw [decide_eq_true_iff]
    by_cases h1 : rd l (p : Int) > rd l (i : Int)
    · rw [if_pos h1, hs, if_pos (hbf.2 (.inl h1))]
    · rw [if_neg h1]
      by_cases h2 : rd l (p : Int) = rd l (i : Int)
      · rw [if_pos h2]
        by_cases h3 : (p : Int) < (i : Int)
        · rw [if_pos h3, hs, if_pos (hbf.2 (.inr ⟨h2, h3⟩))]
        · rw [if_neg h3, hs, if_neg (fun h => by rcases hbf.1 h with h | h <;> omega)]; rfl
      · rw [if_neg h2, hs, if_neg (fun h => by rcases hbf.1 h with h | h <;> omega)]; rfl

theorem filter_le (l : List Int) (t : Int) (p : Nat) : ((iota p).filter (inK l t)).length ≤ p := by
  have := List.length_filter_le (inK l t) (iota p); rw [iota_length] at this; exact this
theorem ref_kept_l0 (l : List Int) (t : Int) (hn : l.length ≤ 1000000) : ∀ d p : Nat, p + d = l.length → Ev (fun k => credenzaref20_Kept.l0 k l t ((iota p).filter (inK l t)) (p : Int)) (kpt l t) := by
  intro d
  induction d with
  | zero =>
    intro p hp
    obtain rfl : p = l.length := by omega
    refine Ev.step (fun k => ?_) (Ev.now _)
    rw [credenzaref20_Kept.l0, if_neg (by omega), kpt_filter]
  | succ d ih =>
    intro p hp
    have hlt : p < l.length := by omega
    have hf := filter_le l t p
    have h := ref_kept_l1 l t ((iota p).filter (inK l t)) p hlt hn (by omega) (r := kpt l t) (by
      have h0 := ih (p + 1) (by omega)
      rw [iota_succ, List.filter_append] at h0
      refine Ev.congr (fun k => ?_) h0
      congr 1
      by_cases c : inK l t (p : Int) = true
      · rw [if_pos c]; simp [c]
      · rw [if_neg c]; simp [c]) l.length 0 (by omega)
    refine Ev.step (fun k => ?_) h
    rw [credenzaref20_Kept.l0, if_pos (by omega)]
    rfl
theorem ref_Kept_ev (l : List Int) (t : Int) (hn : l.length ≤ 1000000) : Ev (fun k => credenzaref20_Kept.f k l t) (kpt l t) := by
  have h := ref_kept_l0 l t hn l.length 0 (by omega)
  exact Ev.congr (fun k => rfl) h

/-! ### what is kept -/
theorem sorted_ex (l : List Int) : ∃ M : List Int, M.Perm (iota l.length) ∧ M.Pairwise (Bef l) := by
  refine ⟨(iota l.length).mergeSort (fun x y => !before l y x), List.mergeSort_perm _ _, ?_⟩
  have hp := List.pairwise_mergeSort (le := fun x y => !before l y x) (fun a b c h1 h2 => by
      simp only [Bool.not_eq_true', Bool.eq_false_iff, ne_eq, before_iff] at *
      unfold Bef at *; omega)
    (fun a b => by
      simp only [Bool.or_eq_true, Bool.not_eq_true', Bool.eq_false_iff, ne_eq, before_iff]
      unfold Bef; omega) (iota l.length)
  have hn : ((iota l.length).mergeSort (fun x y => !before l y x)).Pairwise (· ≠ ·) := ((List.mergeSort_perm _ _).symm.nodup ((iota_lt _).imp (fun h => by omega)))
  refine (hp.and hn).imp ?_
  rintro x y ⟨h1, h2⟩
  simp only [Bool.not_eq_true', Bool.eq_false_iff, ne_eq, before_iff] at h1
  unfold Bef at *
  omega
theorem kpt_length (l : List Int) (t : Int) (h0 : 0 ≤ t) : ((kpt l t).length : Int) = if t = 0 then (l.length : Int) else mn t (l.length : Int) := by
  unfold kpt
  by_cases h : t = 0
  · rw [if_pos h, if_pos h, iota_length]
  · rw [if_neg h, if_neg h, kept_length l _ (sorted_ex l)]
    unfold mn; omega
theorem kpt_mem {l : List Int} {t x : Int} : x ∈ kpt l t ↔ (0 ≤ x ∧ x < l.length) ∧ inK l t x = true := by rw [kpt_filter, List.mem_filter, mem_iota]
theorem kpt_rd {l : List Int} {t : Int} {p : Nat} (h : p < (kpt l t).length) : 0 ≤ rd (kpt l t) (p : Int) ∧ rd (kpt l t) (p : Int) < l.length := (kpt_mem.1 (rd_mem h)).1

/-- A place that is kept is not less than one that is not. -/
theorem kept_best {l : List Int} {t x y : Int} (hx : inK l t x = true) (hy : inK l t y = false) (hy0 : 0 ≤ y) (hyn : y < l.length) : ¬ rd l x < rd l y := by
  intro hlt
  unfold inK at hx hy
  rw [decide_eq_true_iff] at hx
  rw [decide_eq_false_iff_not] at hy
  have hle : SortM.ahead l y ≤ SortM.ahead l x := by
    unfold SortM.ahead
    apply List.countP_mono_left
    intro z _ hz
    rw [before_iff] at hz ⊢
    unfold Bef at *
    omega
  omega
end Go.Proofs.Ytmldhpnkkkmloaa.Pure

namespace Go.Proofs.Ytmldhpnkkkmloaa.Q
open Go.RowKit Go.Proofs.YtmldhpnkkkmloaaW.PrintWords Go.Proofs.YtmldhpnkkkmloaaW.PrintLast Go.Proofs.YtmldhpnkkkmloaaW.PrintMore
attribute [local go_sem] max2_int min2_int max_two min_two max_three min_three max_four min_four   -- for this text's walks alone
set_option linter.unusedVariables false
set_option linter.unusedSimpArgs false

/-! ### credenzaref20_shift: function 30 -/
def credenzaref20_shift.l0 : Nat → Int → Int → Int → Int → Option (Int)
  | 0, _, _, _, _ => none
  | k + 1, x0, x1, x5, x6 => if x6 < x1 then (credenzaref20_shift.l0 k x0 x1 (IntKind.u64.wrap (Int.tdiv x5 2)) (wrap64 (x6 + 1))) else (some (Go.bits .xor .u64 x0 x5))
def credenzaref20_shift.f (k : Nat) (a0 : Int) (a1 : Int) : Option (Int) := credenzaref20_shift.l0 k a0 a1 a0 0
theorem credenzaref20_shift.mono_l : ∀ k, (∀ y0 y1 y2 y3, LeO (credenzaref20_shift.l0 k y0 y1 y2 y3) (credenzaref20_shift.l0 (k + 1) y0 y1 y2 y3))
  | 0 => fun _ _ _ _ r h => by simp [credenzaref20_shift.l0] at h
  | k + 1 => by
    have ih0 := credenzaref20_shift.mono_l k
    · intro y0 y1 y2 y3
      unfold credenzaref20_shift.l0
      repeat' first
      | (with_reducible exact ih0 _ _ _ _)
      | (with_reducible exact LeO.refl _)
      | (with_reducible exact LeO.none _)
      | (with_reducible refine LeO.ite ?_ ?_)
      | (with_reducible refine LeO.bind ?_ (fun _ => ?_))
      | exact ih0 _ _ _ _
      | exact LeO.none _
      | refine LeO.ite ?_ ?_
      | refine LeO.bind ?_ (fun _ => ?_)
theorem credenzaref20_shift.mono : ∀ a0 a1 k, LeO (credenzaref20_shift.f k a0 a1) (credenzaref20_shift.f (k + 1) a0 a1) := by
  intro a0 a1 k
  have ih0 := credenzaref20_shift.mono_l k
  unfold credenzaref20_shift.f
  repeat' first
      | (with_reducible exact ih0 _ _ _ _)
      | (with_reducible exact LeO.refl _)
      | (with_reducible exact LeO.none _)
      | (with_reducible refine LeO.ite ?_ ?_)
      | (with_reducible refine LeO.bind ?_ (fun _ => ?_))
      | exact ih0 _ _ _ _
      | exact LeO.none _
      | refine LeO.ite ?_ ?_
      | refine LeO.bind ?_ (fun _ => ?_)
set_option maxHeartbeats 8000000 in
set_option maxRecDepth 100000 in
theorem credenzaref20_shift.calls (k : Nat) (a0 : Int) (a1 : Int) (r : Int) (w : World) (h : credenzaref20_shift.f k a0 a1 = some r) :
    Calls Try.prog 30 #[.int .u64 a0, .int .i64 a1] w fun e w' => e = .returned (.int .u64 r) ∧ Drawn0 w w' := by
  have H : (credenzaref20_shift.l0 k a0 a1 a0 0) = some r := h
  clear h
  have H' := Aside0.mk H
  clear H
  go_enter Try.func30, Try.ntmps30
  go_wp2
  go_loopg [5, 6] k (fun kq v5 v6 w' => ∃ (x5_1 : Int) (x6_1 : Int), v5 = .int .u64 x5_1 ∧ v6 = .int .i64 x6_1 ∧ Aside0 (credenzaref20_shift.l0 kq a0 a1 x5_1 x6_1 = some r) ∧ Aside0 (kq ≤ k) ∧ Drawn0 w w')
  case atStart => exact ⟨(a0), (0), (by first | rfl | (simp; done) | (simp [*]; done)), (by first | rfl | (simp; done) | (simp [*]; done)), H', ⟨Nat.le_refl _⟩, by repeat (first | exact Drawn0.refl _ | apply Drawn0.step)⟩
  case round =>
    clear H'
    try clear p2
    obtain ⟨x5_1, x6_1, rfl, rfl, HA, HK1, ⟨m1, rfl⟩⟩ := hrel
    cases gk with
    | zero => exact absurd HA.out (by simp [credenzaref20_shift.l0])
    | succ k1 =>
      have H := HA.out
      clear HA
      simp only [credenzaref20_shift.l0] at H
      by_cases c3 : x6_1 < a1
      · rw [if_pos c3] at H
        have c3b0 : decide (x6_1 < a1) = true := decide_eq_true c3
        clear c3
        have H' := Aside0.mk H
        clear H
        go_wp2
        go_roundg k1
        case measure => have := HK1.out; omega
        case rel => exact ⟨(IntKind.u64.wrap (Int.tdiv x5_1 2)), (wrap64 (x6_1 + 1)), (by first | rfl | (simp; done) | (simp [*]; done)), (by first | rfl | (simp; done) | (simp [*]; done)), H', ⟨by have := HK1.out; omega⟩, by repeat (first | exact Drawn0.refl _ | apply Drawn0.step)⟩
      · rw [if_neg c3] at H
        have c3b0 : decide (x6_1 < a1) = false := decide_eq_false c3
        clear c3
        obtain rfl := Option.some.inj H
        go_wp2
        go_ret
        exact ⟨by first | rfl | (simp; done) | (simp [*]; done), by repeat (first | exact Drawn0.refl _ | apply Drawn0.step)⟩

end Go.Proofs.Ytmldhpnkkkmloaa.Q

namespace Go.Proofs.Ytmldhpnkkkmloaa.Q
open Go.RowKit Go.Proofs.YtmldhpnkkkmloaaW.PrintWords Go.Proofs.YtmldhpnkkkmloaaW.PrintLast Go.Proofs.YtmldhpnkkkmloaaW.PrintMore
attribute [local go_sem] max2_int min2_int max_two min_two max_three min_three max_four min_four   -- for this text's walks alone
set_option linter.unusedVariables false
set_option linter.unusedSimpArgs false

/-! ### credenzaref20_Draw: function 16 -/
def credenzaref20_Draw.f (k : Nat) (a0 : Int) (a1 : Int) : Option (Int) := (credenzaref20_shift.f k (IntKind.u64.wrap (a0 + (IntKind.u64.wrap ((IntKind.u64.wrap ((IntKind.u64.wrap (a1)) + 1)) * 11400714819323198485)))) 30).bind fun t306 => ((credenzaref20_shift.f k (IntKind.u64.wrap (t306 * 13787848793156543929)) 27).bind fun t307 => ((credenzaref20_shift.f k (IntKind.u64.wrap (t307 * 10723151780598845931)) 31).bind fun t308 => (some t308)))
theorem credenzaref20_Draw.mono : ∀ a0 a1 k, LeO (credenzaref20_Draw.f k a0 a1) (credenzaref20_Draw.f (k + 1) a0 a1) := by
  intro a0 a1 k
  unfold credenzaref20_Draw.f
  repeat' first
      | (with_reducible exact credenzaref20_shift.mono _ _ _)
      | (with_reducible exact LeO.refl _)
      | (with_reducible exact LeO.none _)
      | (with_reducible refine LeO.ite ?_ ?_)
      | (with_reducible refine LeO.bind ?_ (fun _ => ?_))
      | exact credenzaref20_shift.mono _ _ _
      | exact LeO.none _
      | refine LeO.ite ?_ ?_
      | refine LeO.bind ?_ (fun _ => ?_)
set_option maxHeartbeats 8000000 in
set_option maxRecDepth 100000 in
theorem credenzaref20_Draw.calls (k : Nat) (a0 : Int) (a1 : Int) (r : Int) (w : World) (h : credenzaref20_Draw.f k a0 a1 = some r) :
    Calls Try.prog 16 #[.int .u64 a0, .int .i64 a1] w fun e w' => e = .returned (.int .u64 r) ∧ Drawn0 w w' := by
  have H : ((credenzaref20_shift.f k (IntKind.u64.wrap (a0 + (IntKind.u64.wrap ((IntKind.u64.wrap ((IntKind.u64.wrap (a1)) + 1)) * 11400714819323198485)))) 30).bind fun t306 => ((credenzaref20_shift.f k (IntKind.u64.wrap (t306 * 13787848793156543929)) 27).bind fun t307 => ((credenzaref20_shift.f k (IntKind.u64.wrap (t307 * 10723151780598845931)) 31).bind fun t308 => (some t308)))) = some r := h
  clear h
  replace H := Option.bind_eq_some_iff.mp H
  obtain ⟨t306, A30, H⟩ := H
  replace H : ((credenzaref20_shift.f k (IntKind.u64.wrap (t306 * 13787848793156543929)) 27).bind fun t307 => ((credenzaref20_shift.f k (IntKind.u64.wrap (t307 * 10723151780598845931)) 31).bind fun t308 => (some t308))) = some r := H
  have A3 := Aside0.mk A30
  clear A30
  replace H := Option.bind_eq_some_iff.mp H
  obtain ⟨t307, A40, H⟩ := H
  replace H : ((credenzaref20_shift.f k (IntKind.u64.wrap (t307 * 10723151780598845931)) 31).bind fun t308 => (some t308)) = some r := H
  have A4 := Aside0.mk A40
  clear A40
  replace H := Option.bind_eq_some_iff.mp H
  obtain ⟨t308, A50, H⟩ := H
  replace H : (some t308) = some r := H
  have A5 := Aside0.mk A50
  clear A50
  obtain rfl := Option.some.inj H
  go_enter Try.func16, Try.ntmps16
  go_wp2_with (first | ((with_reducible refine gate_callee (f := 30) rfl ?_); refine goesL_ (some 13) rfl rfl Try.func30 (by kernel_rfl) rfl #[.int .u64 (IntKind.u64.wrap (a0 + (IntKind.u64.wrap ((IntKind.u64.wrap ((IntKind.u64.wrap (a1)) + 1)) * 11400714819323198485)))), .int .i64 30] rfl (by (try simp only [List.map_toArray, List.map_cons, List.map_nil]); first | done | rfl | (simp only [List.length_drop, List.length_take]; rfl)) ?_; (with_reducible refine (credenzaref20_shift.calls k (IntKind.u64.wrap (a0 + (IntKind.u64.wrap ((IntKind.u64.wrap ((IntKind.u64.wrap (a1)) + 1)) * 11400714819323198485)))) 30 t306 _ A3.out).mono ?_); rintro e w' ⟨rfl, ⟨nd, rfl⟩⟩; refine ⟨_, rfl, ?_⟩) | ((with_reducible refine gate_callee (f := 30) rfl ?_); refine goesL_ (some 16) rfl rfl Try.func30 (by kernel_rfl) rfl #[.int .u64 (IntKind.u64.wrap (t306 * 13787848793156543929)), .int .i64 27] rfl (by (try simp only [List.map_toArray, List.map_cons, List.map_nil]); first | done | rfl | (simp only [List.length_drop, List.length_take]; rfl)) ?_; (with_reducible refine (credenzaref20_shift.calls k (IntKind.u64.wrap (t306 * 13787848793156543929)) 27 t307 _ A4.out).mono ?_); rintro e w' ⟨rfl, ⟨nd, rfl⟩⟩; refine ⟨_, rfl, ?_⟩) | ((with_reducible refine gate_callee (f := 30) rfl ?_); refine goesL_ (some 19) rfl rfl Try.func30 (by kernel_rfl) rfl #[.int .u64 (IntKind.u64.wrap (t307 * 10723151780598845931)), .int .i64 31] rfl (by (try simp only [List.map_toArray, List.map_cons, List.map_nil]); first | done | rfl | (simp only [List.length_drop, List.length_take]; rfl)) ?_; (with_reducible refine (credenzaref20_shift.calls k (IntKind.u64.wrap (t307 * 10723151780598845931)) 31 t308 _ A5.out).mono ?_); rintro e w' ⟨rfl, ⟨nd, rfl⟩⟩; refine ⟨_, rfl, ?_⟩))
  go_ret
  exact ⟨by first | rfl | (simp; done) | (simp [*]; done), by repeat (first | exact Drawn0.refl _ | apply Drawn0.step)⟩

end Go.Proofs.Ytmldhpnkkkmloaa.Q

namespace Go.Proofs.Ytmldhpnkkkmloaa.Q
open Go.RowKit Go.Proofs.YtmldhpnkkkmloaaW.PrintWords Go.Proofs.YtmldhpnkkkmloaaW.PrintLast Go.Proofs.YtmldhpnkkkmloaaW.PrintMore
attribute [local go_sem] max2_int min2_int max_two min_two max_three min_three max_four min_four   -- for this text's walks alone
set_option linter.unusedVariables false
set_option linter.unusedSimpArgs false

/-! ### credenzalaw20_PickDraws: function 5 -/
def credenzalaw20_PickDraws.j0 : Nat → Int → Int → Int → Bool → Option (Bool)
  | 0, _, _, _, _ => none
  | k + 1, x0, x2, x7, x26 => if x26 = true then (some false) else ((pick_Draw.f x0 (Go.bits .xor .i64 x2 1)).bind fun t385 => (if t385 = x7 then (some false) else ((credenzalaw20_awake.f k).bind fun t386 => (some t386))))
def credenzalaw20_PickDraws.f (k : Nat) (a0 : Int) (a1 : Int) (a2 : Int) : Option (Bool) := (pick_Draw.f a0 a2).bind fun t382 => ((credenzaref20_Draw.f k a0 a2).bind fun t383 => (if t382 = t383 then ((pick_Draw.f a1 a2).bind fun t384 => (credenzalaw20_PickDraws.j0 k a0 a2 t382 ((t384 == t382) != (a1 == a0)))) else (credenzalaw20_PickDraws.j0 k a0 a2 t382 true)))
theorem credenzalaw20_PickDraws.mono_l : ∀ k, (∀ y0 y1 y2 y3, LeO (credenzalaw20_PickDraws.j0 k y0 y1 y2 y3) (credenzalaw20_PickDraws.j0 (k + 1) y0 y1 y2 y3))
  | 0 => fun _ _ _ _ r h => by simp [credenzalaw20_PickDraws.j0] at h
  | k + 1 => by
    have ih0 := credenzalaw20_PickDraws.mono_l k
    · intro y0 y1 y2 y3
      unfold credenzalaw20_PickDraws.j0
      repeat' first
      | (with_reducible exact ih0 _ _ _ _)
      | (with_reducible exact credenzalaw20_awake.mono _)
      | (with_reducible exact credenzaref20_Draw.mono _ _ _)
      | (with_reducible exact LeO.refl _)
      | (with_reducible exact LeO.none _)
      | (with_reducible refine LeO.ite ?_ ?_)
      | (with_reducible refine LeO.bind ?_ (fun _ => ?_))
      | exact ih0 _ _ _ _
      | exact credenzalaw20_awake.mono _
      | exact credenzaref20_Draw.mono _ _ _
      | exact LeO.none _
      | refine LeO.ite ?_ ?_
      | refine LeO.bind ?_ (fun _ => ?_)
theorem credenzalaw20_PickDraws.mono : ∀ a0 a1 a2 k, LeO (credenzalaw20_PickDraws.f k a0 a1 a2) (credenzalaw20_PickDraws.f (k + 1) a0 a1 a2) := by
  intro a0 a1 a2 k
  have ih0 := credenzalaw20_PickDraws.mono_l k
  unfold credenzalaw20_PickDraws.f
  repeat' first
      | (with_reducible exact ih0 _ _ _ _)
      | (with_reducible exact credenzalaw20_awake.mono _)
      | (with_reducible exact credenzaref20_Draw.mono _ _ _)
      | (with_reducible exact LeO.refl _)
      | (with_reducible exact LeO.none _)
      | (with_reducible refine LeO.ite ?_ ?_)
      | (with_reducible refine LeO.bind ?_ (fun _ => ?_))
      | exact ih0 _ _ _ _
      | exact credenzalaw20_awake.mono _
      | exact credenzaref20_Draw.mono _ _ _
      | exact LeO.none _
      | refine LeO.ite ?_ ?_
      | refine LeO.bind ?_ (fun _ => ?_)
set_option maxHeartbeats 8000000 in
set_option maxRecDepth 100000 in
theorem credenzalaw20_PickDraws.calls (k : Nat) (a0 : Int) (a1 : Int) (a2 : Int) (r : Bool) (w : World) (h : credenzalaw20_PickDraws.f k a0 a1 a2 = some r) :
    Calls Try.prog 5 #[.int .u64 a0, .int .u64 a1, .int .i64 a2] w fun e w' => e = .returned (.bool r) ∧ Below w.heap.size w w' := by
  have HB := Aside0.mk (Below.refl w.heap.size w)
  have H : ((pick_Draw.f a0 a2).bind fun t382 => ((credenzaref20_Draw.f k a0 a2).bind fun t383 => (if t382 = t383 then ((pick_Draw.f a1 a2).bind fun t384 => (credenzalaw20_PickDraws.j0 k a0 a2 t382 ((t384 == t382) != (a1 == a0)))) else (credenzalaw20_PickDraws.j0 k a0 a2 t382 true)))) = some r := h
  clear h
  replace H := Option.bind_eq_some_iff.mp H
  obtain ⟨t382, A40, H⟩ := H
  replace H : ((credenzaref20_Draw.f k a0 a2).bind fun t383 => (if t382 = t383 then ((pick_Draw.f a1 a2).bind fun t384 => (credenzalaw20_PickDraws.j0 k a0 a2 t382 ((t384 == t382) != (a1 == a0)))) else (credenzalaw20_PickDraws.j0 k a0 a2 t382 true))) = some r := H
  have A4 := Aside0.mk A40
  clear A40
  have HC5 := Aside0.mk H
  clear H
  go_enter Try.func5, Try.ntmps5
  go_upto_region 2 with (first | ((with_reducible refine gate_callee (f := 15) rfl ?_); refine goesL_ (some 10) rfl rfl Try.func15 (by kernel_rfl) rfl #[.int .u64 a0, .int .i64 a2] rfl (by (try simp only [List.map_toArray, List.map_cons, List.map_nil]); first | done | rfl | (simp only [List.length_drop, List.length_take]; rfl)) ?_; (with_reducible refine (pick_Draw.calls a0 a2 t382 _ A4.out).mono ?_); rintro e w' ⟨rfl, ⟨nd, rfl⟩⟩; refine ⟨_, rfl, ?_⟩))
  (try simp only [Act.put, List.setIfInBounds_toArray, List.set_cons_zero, List.set_cons_succ])
  go_cut [26] (fun v26 wc => ∃ (kq : Nat) (x26_4 : Bool), v26 = .bool x26_4 ∧ Aside0 (credenzalaw20_PickDraws.j0 kq a0 a2 t382 x26_4 = some r) ∧ Aside0 (kq ≤ k) ∧ Aside0 (Below w.heap.size w wc))
  case first =>
    have H := HC5.out
    clear HC5
    replace H := Option.bind_eq_some_iff.mp H
    obtain ⟨t383, A60, H⟩ := H
    replace H : (if t382 = t383 then ((pick_Draw.f a1 a2).bind fun t384 => (credenzalaw20_PickDraws.j0 k a0 a2 t382 ((t384 == t382) != (a1 == a0)))) else (credenzalaw20_PickDraws.j0 k a0 a2 t382 true)) = some r := H
    have A6 := Aside0.mk A60
    clear A60
    by_cases c7 : t382 = t383
    · rw [if_pos c7] at H
      have c7b0 : (t382 == t383) = true := beq_iff_eq.mpr c7
      have c7b1 : (t382 != t383) = false := bne_eq_false_iff_eq.mpr c7
      clear c7
      (first | rw [c7b0] | (simp only [i64_w, i32_w]; rw [c7b0]) | skip)
      replace H := Option.bind_eq_some_iff.mp H
      obtain ⟨t384, A80, H⟩ := H
      replace H : (credenzalaw20_PickDraws.j0 k a0 a2 t382 ((t384 == t382) != (a1 == a0))) = some r := H
      have A8 := Aside0.mk A80
      clear A80
      have H' := Aside0.mk H
      clear H
      go_wp2_with (first | ((with_reducible refine gate_callee (f := 16) rfl ?_); refine goesL_ (some 14) rfl rfl Try.func16 (by kernel_rfl) rfl #[.int .u64 a0, .int .i64 a2] rfl (by (try simp only [List.map_toArray, List.map_cons, List.map_nil]); first | done | rfl | (simp only [List.length_drop, List.length_take]; rfl)) ?_; (with_reducible refine (credenzaref20_Draw.calls k a0 a2 t383 _ A6.out).mono ?_); rintro e w' ⟨rfl, ⟨nd, rfl⟩⟩; refine ⟨_, rfl, ?_⟩) | (go_at_call 15; (with_reducible refine (pick_Draw.calls a1 a2 t384 _ A8.out).mono ?_); rintro e w' ⟨rfl, ⟨nd, rfl⟩⟩))
      go_meet
      case rel => exact ⟨_, (((t384 == t382) != (a1 == a0))), (by first | rfl | (simp; done) | (simp [*]; done)), H', ⟨by first | omega | exact Nat.le_refl _⟩, ⟨by repeat (first | (with_reducible first | exact HB.out | apply below_alloc | apply pw_below_drewN | apply below_drew1) | exact HB.out)⟩⟩
    · rw [if_neg c7] at H
      have c7b0 : (t382 == t383) = false := beq_eq_false_iff_ne.mpr c7
      have c7b1 : (t382 != t383) = true := bne_iff_ne.mpr c7
      (first | rw [c7b0] | (simp only [i64_w, i32_w]; rw [c7b0]) | skip)
      have H' := Aside0.mk H
      clear H
      go_wp2_with (first | ((with_reducible refine gate_callee (f := 16) rfl ?_); refine goesL_ (some 14) rfl rfl Try.func16 (by kernel_rfl) rfl #[.int .u64 a0, .int .i64 a2] rfl (by (try simp only [List.map_toArray, List.map_cons, List.map_nil]); first | done | rfl | (simp only [List.length_drop, List.length_take]; rfl)) ?_; (with_reducible refine (credenzaref20_Draw.calls k a0 a2 t383 _ A6.out).mono ?_); rintro e w' ⟨rfl, ⟨nd, rfl⟩⟩; refine ⟨_, rfl, ?_⟩))
      go_meet
      case rel => exact ⟨_, (true), (by first | rfl | (simp; done) | (simp [*]; done)), H', ⟨by first | omega | exact Nat.le_refl _⟩, ⟨by repeat (first | (with_reducible first | exact HB.out | apply below_alloc | apply pw_below_drewN | apply below_drew1) | exact HB.out)⟩⟩
  case rest =>
    clear HC5
    try clear c1
    try clear p2
    try clear c5
    try clear c7
    try clear c7b0
    try clear c7b1
    obtain ⟨kq, x26_4, rfl, HA, HJ4, HB⟩ := hcut
    cases kq with
    | zero => exact absurd HA.out (by simp [credenzalaw20_PickDraws.j0])
    | succ kj4 =>
      have H := HA.out
      clear HA
      simp only [credenzalaw20_PickDraws.j0] at H
      by_cases c9 : x26_4 = true
      · subst c9
        have H1 : (some false) = some r := by rw [if_pos rfl] at H; exact H
        clear H
        have H := H1
        clear H1
        obtain rfl := Option.some.inj H
        go_wp2
        go_ret
        exact ⟨by first | rfl | (simp [errW_none, errW_some] <;> rfl) | (simp [*, errW_none, errW_some] <;> rfl), by repeat (first | (with_reducible first | exact HB.out | apply below_alloc | apply pw_below_drewN | apply below_drew1) | exact HB.out)⟩
      · replace c9 := Bool.eq_false_iff.mpr c9
        subst c9
        have H1 : ((pick_Draw.f a0 (Go.bits .xor .i64 a2 1)).bind fun t385 => (if t385 = t382 then (some false) else ((credenzalaw20_awake.f kj4).bind fun t386 => (some t386)))) = some r := by rw [if_neg (show ¬ (false = true) by decide)] at H; exact H
        clear H
        have H := H1
        clear H1
        replace H := Option.bind_eq_some_iff.mp H
        obtain ⟨t385, A100, H⟩ := H
        replace H : (if t385 = t382 then (some false) else ((credenzalaw20_awake.f kj4).bind fun t386 => (some t386))) = some r := H
        have A10 := Aside0.mk A100
        clear A100
        by_cases c11 : t385 = t382
        · rw [if_pos c11] at H
          have c11b0 : (t385 == t382) = true := beq_iff_eq.mpr c11
          have c11b1 : (t385 != t382) = false := bne_eq_false_iff_eq.mpr c11
          clear c11
          obtain rfl := Option.some.inj H
          go_wp2_with (first | ((with_reducible refine gate_callee (f := 15) rfl ?_); refine goesL_ (some 30) rfl rfl Try.func15 (by kernel_rfl) rfl #[.int .u64 a0, .int .i64 (Go.bits .xor .i64 a2 1)] rfl (by (try simp only [List.map_toArray, List.map_cons, List.map_nil]); first | done | rfl | (simp only [List.length_drop, List.length_take]; rfl)) ?_; (with_reducible refine (pick_Draw.calls a0 (Go.bits .xor .i64 a2 1) t385 _ A10.out).mono ?_); rintro e w' ⟨rfl, ⟨nd, rfl⟩⟩; refine ⟨_, rfl, ?_⟩))
          go_ret
          exact ⟨by first | rfl | (simp [errW_none, errW_some] <;> rfl) | (simp [*, errW_none, errW_some] <;> rfl), by repeat (first | (with_reducible first | exact HB.out | apply below_alloc | apply pw_below_drewN | apply below_drew1) | exact HB.out)⟩
        · rw [if_neg c11] at H
          have c11b0 : (t385 == t382) = false := beq_eq_false_iff_ne.mpr c11
          have c11b1 : (t385 != t382) = true := bne_iff_ne.mpr c11
          replace H := Option.bind_eq_some_iff.mp H
          obtain ⟨t386, A120, H⟩ := H
          replace H : (some t386) = some r := H
          have A12 := Aside0.mk A120
          clear A120
          obtain rfl := Option.some.inj H
          go_wp2_with (first | ((with_reducible refine gate_callee (f := 15) rfl ?_); refine goesL_ (some 30) rfl rfl Try.func15 (by kernel_rfl) rfl #[.int .u64 a0, .int .i64 (Go.bits .xor .i64 a2 1)] rfl (by (try simp only [List.map_toArray, List.map_cons, List.map_nil]); first | done | rfl | (simp only [List.length_drop, List.length_take]; rfl)) ?_; (with_reducible refine (pick_Draw.calls a0 (Go.bits .xor .i64 a2 1) t385 _ A10.out).mono ?_); rintro e w' ⟨rfl, ⟨nd, rfl⟩⟩; refine ⟨_, rfl, ?_⟩) | (go_at_call 8; (with_reducible refine (credenzalaw20_awake.calls kj4  t386 _ A12.out).mono ?_); rintro e w13 ⟨rfl, hb⟩; have n0_ := Aside0.mk (below_step (by repeat (first | (with_reducible first | exact HB.out | apply below_alloc | apply pw_below_drewN | apply below_drew1) | exact HB.out)) hb); clear HB; have HB := n0_; clear n0_; (try clear hb); (try clear hb2); (try clear hk); (try clear hi)))
          go_ret
          exact ⟨by first | rfl | (simp [errW_none, errW_some] <;> rfl) | (simp [*, errW_none, errW_some] <;> rfl), by repeat (first | (with_reducible first | exact HB.out | apply below_alloc | apply pw_below_drewN | apply below_drew1) | exact HB.out)⟩

/-- THE ONE PURE STATEMENT of credenzalaw20_PickDraws: yours. -/
def credenzalaw20_PickDraws.Pure : Prop := ∀ (a0 : Int) (a1 : Int) (a2 : Int), (Lit.int .u64 a0).wf = true → (Lit.int .u64 a1).wf = true → (Lit.int .i64 a2).wf = true → ∃ k, credenzalaw20_PickDraws.f k a0 a1 a2 = some true
theorem credenzalaw20_PickDraws.walk (P : credenzalaw20_PickDraws.Pure) (a0 : Int) (a1 : Int) (a2 : Int) (w : World) (w0 : (Lit.int .u64 a0).wf = true) (w1 : (Lit.int .u64 a1).wf = true) (w2 : (Lit.int .i64 a2).wf = true) :
    Calls Try.prog 5 #[.int .u64 a0, .int .u64 a1, .int .i64 a2] w fun e w' => e = .returned (.bool true) ∧ Below w.heap.size w w' := by
  obtain ⟨k, h⟩ := P a0 a1 a2 w0 w1 w2
  refine (credenzalaw20_PickDraws.calls k a0 a1 a2 true w h).mono ?_
  rintro e w' ⟨rfl, hd⟩
  exact ⟨rfl, hd⟩

end Go.Proofs.Ytmldhpnkkkmloaa.Q

namespace Go.Proofs.Ytmldhpnkkkmloaa.Pure
open Go.RowKit Go.Proofs.Ytmldhpnkkkmloaa.Q Go.Proofs.YtmldhpnkkkmloaaW.PrintWords Go.Proofs.YtmldhpnkkkmloaaW.PrintLast
set_option linter.unusedVariables false

/-- A number that is odd can be divided by, modulo 2^64. -/
theorem mul_inj0 (M c i q : Nat) (h : c * i = M * q + 1) (a b : Nat) (ha : a < M) (hb : b < M) (e : a * c % M = b * c % M) : a = b := by
  have key : ∀ x : Nat, x * c % M * i % M = x % M := by
    intro x
    rw [Nat.mod_mul_mod, Nat.mul_assoc, h, Nat.mul_add, Nat.mul_one, ← Nat.mul_assoc, Nat.mul_comm x, Nat.mul_assoc, Nat.mul_add_mod]
  have h1 := key a
  have h2 := key b
  rw [e, h2] at h1
  rw [Nat.mod_eq_of_lt ha, Nat.mod_eq_of_lt hb] at h1
  exact h1.symm
def InvOK (c i q : Nat) : Bool := c * i == 18446744073709551616 * q + 1
theorem mul_inj (c i q : Nat) (h : InvOK c i q = true) (a b : Nat) (ha : a < 18446744073709551616) (hb : b < 18446744073709551616) (e : a * c % 18446744073709551616 = b * c % 18446744073709551616) : a = b :=
  mul_inj0 18446744073709551616 c i q (by simpa [InvOK] using h) a b ha hb e

theorem inv0 : InvOK 11400714819323198485 17428512612931826493 10771413168148108919 = true := by kernel_rfl
theorem inv1 : InvOK 13787848793156543929 10871156337175269513 8125545580553827436 = true := by kernel_rfl
theorem inv2 : InvOK 10723151780598845931 3573116690164977347 2077064247507883091 = true := by kernel_rfl
theorem shift_inj (s : Nat) (hs : 0 < s) (a b : Nat) (e : a ^^^ a / 2 ^ s = b ^^^ b / 2 ^ s) : a = b := by
  have h : a ^^^ b = (a ^^^ b) / 2 ^ s := by
    rw [← Nat.shiftRight_eq_div_pow, Nat.shiftRight_xor_distrib]
    rw [← Nat.shiftRight_eq_div_pow, ← Nat.shiftRight_eq_div_pow] at e
    have h1 : a ^^^ b = (a ^^^ a >>> s) ^^^ (a >>> s ^^^ b) := by
      rw [← Nat.xor_assoc, Nat.xor_assoc a, Nat.xor_self, Nat.xor_zero]
    rw [h1, e, Nat.xor_comm (a >>> s) b, ← Nat.xor_assoc, Nat.xor_comm b, Nat.xor_assoc (b >>> s), Nat.xor_self, Nat.xor_zero, Nat.xor_comm]
  have h0 : a ^^^ b = 0 := by
    rcases Nat.eq_zero_or_pos (a ^^^ b) with h1 | h1
    · exact h1
    · have : (a ^^^ b) / 2 ^ s < a ^^^ b := Nat.div_lt_self h1 (Nat.one_lt_two_pow (by omega))
      omega
  have := congrArg (· ^^^ b) h0
  simpa [Nat.xor_assoc] using this

theorem shift_inj' (s d : Nat) (hs : 0 < s) (hd : (d == 2 ^ s) = true) (a b : Nat) (e : a ^^^ a / d = b ^^^ b / d) : a = b := by
  have : d = 2 ^ s := by simpa using hd
  subst this
  exact shift_inj s hs a b e
theorem p31 : (2147483648 == 2 ^ 31) = true := by kernel_rfl
theorem p27 : (134217728 == 2 ^ 27) = true := by kernel_rfl
theorem p30 : (1073741824 == 2 ^ 30) = true := by kernel_rfl
def fin (X : Nat) : Nat :=
  let y := (X ^^^ X / 1073741824) * 13787848793156543929 % 18446744073709551616
  let z := (y ^^^ y / 134217728) * 10723151780598845931 % 18446744073709551616
  z ^^^ z / 2147483648
theorem xs_lt (X s : Nat) (hX : X < 18446744073709551616) : X ^^^ X / s < 18446744073709551616 := by
  have : X ^^^ X / s < 2 ^ 64 := Nat.xor_lt_two_pow (by omega) (Nat.lt_of_le_of_lt (Nat.div_le_self _ _) (by omega))
  omega
def st (d c X : Nat) : Nat := (X ^^^ X / d) * c % 18446744073709551616
theorem st_lt (d c X : Nat) : st d c X < 18446744073709551616 := Nat.mod_lt _ (Nat.succ_pos _)
theorem st_inj (s d c i q : Nat) (hs : 0 < s) (hd : (d == 2 ^ s) = true) (hi : InvOK c i q = true) (a b : Nat) (ha : a < 18446744073709551616) (hb : b < 18446744073709551616) (e : st d c a = st d c b) : a = b :=
  shift_inj' s d hs hd a b (mul_inj c i q hi _ _ (xs_lt a d ha) (xs_lt b d hb) e)
theorem fin_st (X : Nat) : fin X = st 134217728 10723151780598845931 (st 1073741824 13787848793156543929 X) ^^^ st 134217728 10723151780598845931 (st 1073741824 13787848793156543929 X) / 2147483648 := rfl
theorem fin_inj (a b : Nat) (ha : a < 18446744073709551616) (hb : b < 18446744073709551616) (e : fin a = fin b) : a = b := by
  rw [fin_st, fin_st] at e
  have e1 := shift_inj' 31 2147483648 (by omega) p31 _ _ e
  have e2 := st_inj 27 134217728 _ _ _ (by omega) p27 inv2 _ _ (st_lt _ _ _) (st_lt _ _ _) e1
  exact st_inj 30 1073741824 _ _ _ (by omega) p30 inv1 _ _ ha hb e2

/-- Where the draw begins. -/
def seedOf (a0 a1 : Int) : Nat := ((a0 + ((a1 % 18446744073709551616 + 1) % 18446744073709551616 * 11400714819323198485) % 18446744073709551616) % 18446744073709551616).toNat
theorem seedOf_lt (a0 a1 : Int) : seedOf a0 a1 < 18446744073709551616 := by unfold seedOf; omega
theorem seedOf_eq (a0 a1 : Int) : IntKind.u64.wrap (a0 + (IntKind.u64.wrap ((IntKind.u64.wrap ((IntKind.u64.wrap (a1)) + 1)) * 11400714819323198485))) = (seedOf a0 a1 : Int) := by
  unfold seedOf
  rw [IntKind.wrap_u64, IntKind.wrap_u64, IntKind.wrap_u64, IntKind.wrap_u64]
  omega
theorem seedOf_seed (a b i : Int) (ha : 0 ≤ a) (ha' : a < 18446744073709551616) (hb : 0 ≤ b) (hb' : b < 18446744073709551616) (e : seedOf a i = seedOf b i) : a = b := by
  unfold seedOf at e
  generalize ((i % 18446744073709551616 + 1) % 18446744073709551616 * 11400714819323198485) % 18446744073709551616 = x at e
  omega
theorem gold (x y : Nat) (hx : x < 18446744073709551616) (hy : y < 18446744073709551616) (h : x * 11400714819323198485 % 18446744073709551616 = y * 11400714819323198485 % 18446744073709551616) : x = y :=
  mul_inj _ _ _ inv0 x y hx hy h
def idx (i : Int) : Nat := ((i % 18446744073709551616 + 1) % 18446744073709551616).toNat
theorem idx_lt (i : Int) : idx i < 18446744073709551616 := by unfold idx; omega
theorem idx_eq (i : Int) : (i % 18446744073709551616 + 1) % 18446744073709551616 = (idx i : Int) := by unfold idx; omega
theorem seedOf_idx (a i : Int) : seedOf a i = ((a + ((idx i * 11400714819323198485 % 18446744073709551616 : Nat) : Int)) % 18446744073709551616).toNat := by
  unfold seedOf
  rw [idx_eq]
  congr 2
theorem add_inj (a : Int) (u v : Nat) (hu : u < 18446744073709551616) (hv : v < 18446744073709551616) (e : ((a + (u : Int)) % 18446744073709551616).toNat = ((a + (v : Int)) % 18446744073709551616).toNat) : u = v := by omega
theorem seedOf_index (a i j : Int) (hi : -9223372036854775808 ≤ i) (hi' : i < 9223372036854775808) (hj : -9223372036854775808 ≤ j) (hj' : j < 9223372036854775808) (e : seedOf a i = seedOf a j) : i = j := by
  rw [seedOf_idx, seedOf_idx] at e
  have h1 := add_inj a _ _ (Nat.mod_lt _ (Nat.succ_pos _)) (Nat.mod_lt _ (Nat.succ_pos _)) e
  have h := gold _ _ (idx_lt i) (idx_lt j) h1
  have e1 := idx_eq i
  have e2 := idx_eq j
  rw [h] at e1
  rw [← e1] at e2
  clear h h1 e e1
  omega

theorem draw_some (a0 a1 : Int) : pick_Draw.f a0 a1 = some (fin (seedOf a0 a1) : Int) := by
  unfold pick_Draw.f
  rw [seedOf_eq]
  generalize hX : seedOf a0 a1 = X
  have hlt : X < 18446744073709551616 := by rw [← hX]; exact seedOf_lt _ _
  have m1 := mixStep_u64 X 1073741824 13787848793156543929 hlt
  have m1' : IntKind.u64.wrap (bits .xor .u64 (X : Int) ((X : Int) / 1073741824) * 13787848793156543929) = _ := m1
  rw [m1']
  generalize hY : (X ^^^ X / 1073741824) * 13787848793156543929 % 18446744073709551616 = Y
  have hlt2 : Y < 18446744073709551616 := by rw [← hY]; exact Nat.mod_lt _ (by omega)
  have m2 : IntKind.u64.wrap (bits .xor .u64 (Y : Int) ((Y : Int) / 134217728) * 10723151780598845931) = _ := mixStep_u64 Y 134217728 10723151780598845931 hlt2
  rw [m2]
  generalize hZ : (Y ^^^ Y / 134217728) * 10723151780598845931 % 18446744073709551616 = Z
  have hlt3 : Z < 18446744073709551616 := by rw [← hZ]; exact Nat.mod_lt _ (by omega)
  have m3 : bits .xor .u64 (Z : Int) ((Z : Int) / 2147483648) = _ := xorShift_u64 Z 2147483648 hlt3
  rw [m3]
  unfold fin
  simp only [hY, hZ]

theorem shift_loop (x0 : Int) (n : Nat) (hn : n ≤ 64) : ∀ (d k i : Nat) (x : Nat), i + d = n → d < k → x < 18446744073709551616 → credenzaref20_shift.l0 k x0 (n : Int) (x : Int) (i : Int) = some (bits .xor .u64 x0 ((x / 2 ^ d : Nat) : Int)) := by
  intro d
  induction d with
  | zero =>
    intro k i x h1 h2 h3
    obtain ⟨k, rfl⟩ : ∃ m, k = m + 1 := ⟨k - 1, by omega⟩
    rw [credenzaref20_shift.l0, if_neg (by omega)]
    simp
  | succ d ih =>
    intro k i x h1 h2 h3
    obtain ⟨k, rfl⟩ : ∃ m, k = m + 1 := ⟨k - 1, by omega⟩
    rw [credenzaref20_shift.l0, if_pos (by omega)]
    have e1 : IntKind.u64.wrap (Int.tdiv (x : Int) 2) = ((x / 2 : Nat) : Int) := by
      rw [IntKind.wrap_u64, Int.tdiv_eq_ediv_of_nonneg (by omega)]; omega
    have e2 : wrap64 ((i : Int) + 1) = ((i + 1 : Nat) : Int) := by unfold wrap64; omega
    rw [e1, e2, ih k (i + 1) (x / 2) (by omega) (by omega) (by omega), Nat.div_div_eq_div_mul, Nat.pow_succ, Nat.mul_comm]

theorem ref_shift (x : Nat) (n : Nat) (hn : n ≤ 64) (hx : x < 18446744073709551616) {k : Nat} (hk : 65 ≤ k) : credenzaref20_shift.f k (x : Int) (n : Int) = some ((x ^^^ x / 2 ^ n : Nat) : Int) := by
  unfold credenzaref20_shift.f
  have h := shift_loop (x : Int) n hn n k 0 x (by omega) (by omega) hx
  rw [show ((0 : Nat) : Int) = 0 from rfl] at h
  rw [h, bits_xor_u64_nat _ _ hx (Nat.lt_of_le_of_lt (Nat.div_le_self _ _) hx)]

theorem ref_draw (a0 a1 : Int) {k : Nat} (hk : 65 ≤ k) : credenzaref20_Draw.f k a0 a1 = some (fin (seedOf a0 a1) : Int) := by
  unfold credenzaref20_Draw.f
  rw [seedOf_eq]
  have hlt := seedOf_lt a0 a1
  generalize seedOf a0 a1 = X at hlt ⊢
  have s1 : credenzaref20_shift.f k (X : Int) 30 = _ := ref_shift X 30 (by omega) hlt hk
  rw [s1, Option.bind_some]
  have e1 : IntKind.u64.wrap ((((X ^^^ X / 2 ^ 30 : Nat) : Int)) * 13787848793156543929) = (((X ^^^ X / 1073741824) * 13787848793156543929 % 18446744073709551616 : Nat) : Int) := by
    rw [IntKind.wrap_u64]; simp
  rw [e1]
  generalize hY : (X ^^^ X / 1073741824) * 13787848793156543929 % 18446744073709551616 = Y
  have hlt2 : Y < 18446744073709551616 := by rw [← hY]; exact Nat.mod_lt _ (by omega)
  have s2 : credenzaref20_shift.f k (Y : Int) 27 = _ := ref_shift Y 27 (by omega) hlt2 hk
  rw [s2, Option.bind_some]
  have e2 : IntKind.u64.wrap ((((Y ^^^ Y / 2 ^ 27 : Nat) : Int)) * 10723151780598845931) = (((Y ^^^ Y / 134217728) * 10723151780598845931 % 18446744073709551616 : Nat) : Int) := by
    rw [IntKind.wrap_u64]; simp
  rw [e2]
  generalize hZ : (Y ^^^ Y / 134217728) * 10723151780598845931 % 18446744073709551616 = Z
  have hlt3 : Z < 18446744073709551616 := by rw [← hZ]; exact Nat.mod_lt _ (by omega)
  have s3 : credenzaref20_shift.f k (Z : Int) 31 = _ := ref_shift Z 31 (by omega) hlt3 hk
  rw [s3, Option.bind_some]
  unfold fin
  simp only [hY, hZ]

/-- One bit turned makes another number. -/
theorem flip_ne (x : Int) : bits .xor .i64 x 1 ≠ x ∧ -9223372036854775808 ≤ bits .xor .i64 x 1 ∧ bits .xor .i64 x 1 < 9223372036854775808 := by
  have hw : ∀ n : Int, -9223372036854775808 ≤ IntKind.i64.wrap n ∧ IntKind.i64.wrap n < 9223372036854775808 ∧ (IntKind.i64.wrap n - n) % 18446744073709551616 = 0 := by
    intro n; rw [IntKind.wrap_i64]; omega
  obtain ⟨m, hm⟩ : ∃ m : BitVec 64, m = BitVec.ofInt 64 x ^^^ BitVec.ofInt 64 1 := ⟨_, rfl⟩
  have hb : bits .xor .i64 x 1 = IntKind.i64.wrap ((m.toNat : Nat) : Int) := by rw [hm]; rfl
  rw [hb]
  obtain ⟨h1, h2, h3⟩ := hw ((m.toNat : Nat) : Int)
  refine ⟨fun e => ?_, h1, h2⟩
  rw [e] at h3
  have hx : m = BitVec.ofInt 64 x := by
    apply BitVec.eq_of_toNat_eq
    rw [BitVec.toNat_ofInt]
    have := m.isLt
    omega
  rw [hx] at hm
  have h0 : BitVec.ofInt 64 1 = 0#64 := by
    have := congrArg (fun v => BitVec.ofInt 64 x ^^^ v) hm
    simpa [← BitVec.xor_assoc] using this.symm
  exact absurd h0 (by decide)

theorem awake20_at : credenzalaw20_awake.f 100 = some true := by kernel_rfl
theorem awake20 {k : Nat} (hk : 100 ≤ k) : credenzalaw20_awake.f k = some true := at_rounds credenzalaw20_awake.mono hk awake20_at

theorem u64_wf {x : Int} (h : (Lit.int .u64 x).wf = true) : 0 ≤ x ∧ x < 18446744073709551616 := by
  simp [Lit.wf, IntKind.min, IntKind.max, IntKind.signed, IntKind.bits] at h; omega
theorem i64_wf {x : Int} (h : (Lit.int .i64 x).wf = true) : -9223372036854775808 ≤ x ∧ x < 9223372036854775808 := by
  simp [Lit.wf, IntKind.min, IntKind.max, IntKind.signed, IntKind.bits] at h; omega

theorem PickDraws : credenzalaw20_PickDraws.Pure := by
  intro a0 a1 a2 w0 w1 w2
  have r0 := u64_wf w0
  have r1 := u64_wf w1
  have r2 := i64_wf w2
  refine ⟨200, ?_⟩
  rw [credenzalaw20_PickDraws.f, draw_some, Option.bind_some, ref_draw a0 a2 (by omega), Option.bind_some, if_pos rfl, draw_some, Option.bind_some]
  have e : (((fin (seedOf a1 a2) : Nat) : Int) == ((fin (seedOf a0 a2) : Nat) : Int)) = (a1 == a0) := by
    rw [Bool.eq_iff_iff, beq_iff_eq, beq_iff_eq]
    constructor
    · intro h
      exact seedOf_seed a1 a0 a2 r1.1 r1.2 r0.1 r0.2 (fin_inj _ _ (seedOf_lt _ _) (seedOf_lt _ _) (Int.ofNat.inj h))
    · rintro rfl; rfl
  rw [e]
  rw [show ((a1 == a0) != (a1 == a0)) = false by cases (a1 == a0) <;> rfl]
  rw [credenzalaw20_PickDraws.j0, if_neg (by simp), draw_some, Option.bind_some]
  obtain ⟨f1, f2, f3⟩ := flip_ne a2
  rw [if_neg (fun h => f1 (seedOf_index a0 _ _ f2 f3 r2.1 r2.2 (fin_inj _ _ (seedOf_lt _ _) (seedOf_lt _ _) (Int.natCast_inj.1 h)))), awake20 (by omega), Option.bind_some]
end Go.Proofs.Ytmldhpnkkkmloaa.Pure

namespace Go.Proofs.Ytmldhpnkkkmloaa.Pure
open Go.RowKit Go.Proofs.Ytmldhpnkkkmloaa.Q Go.Proofs.YtmldhpnkkkmloaaW.PrintWords Go.Proofs.YtmldhpnkkkmloaaW.PrintLast Go.Proofs.Ytmldhpnkkkmloaa.SortM
set_option linter.unusedVariables false

theorem awake20_ev : Ev (fun k => (credenzalaw20_awake.f k).bind fun t => some t) true := Ev.bind (Ev.of credenzalaw20_awake.mono awake20_at) (Ev.now _)

theorem rdOf_set (xs : List Bool) (i : Nat) (h : i < xs.length) (j : Nat) : rdOf false (xs.set i true) (j : Int) = if j = i then true else rdOf false xs (j : Int) := by
  unfold rdOf
  simp only [Int.toNat_natCast, List.getD_eq_getElem?_getD, List.getElem?_set]
  by_cases e : j = i
  · subst e; simp [h]
  · rw [if_neg (fun e' => e e'.symm), if_neg e]

/-- Which places stand in the list of what is kept: all are looked at. -/
theorem keeps_l2 (l : List Int) (t : Int) (g : List Int) (x7 : List Bool) (hn : l.length ≤ 1000000) (h7 : x7.length = l.length) (hx : ∀ j : Nat, j < l.length → rdOf false x7 (j : Int) = inK l t (j : Int)) (i : Nat) (hi : i < l.length)
    (hnext : Ev (fun k => credenzalaw20_PickKeeps.l1 k l t g x7 (l.length : Int) ((i + 1 : Nat) : Int)) true) :
    ∀ d p : Nat, p + d = l.length → Ev (fun k => credenzalaw20_PickKeeps.l2 k l t g x7 (i : Int) (l.length : Int) (i : Int) (l.length : Int) (p : Int)) true := by
  intro d
  induction d with
  | zero =>
    intro p hp
    refine Ev.step (fun k => ?_) hnext
    rw [credenzalaw20_PickKeeps.l2, if_neg (by omega), wnext hi (by omega)]
  | succ d ih =>
    intro p hp
    have hlt : p < l.length := by omega
    refine Ev.step (fun k => ?_) (ih (p + 1) (by omega))
    rw [credenzalaw20_PickKeeps.l2, if_pos (by omega), if_pos (by omega), if_pos (by omega), wnext hlt (by omega), hx i hi, hx p hlt]
    by_cases c1 : inK l t (i : Int) = true
    · rw [if_pos c1, if_pos (by omega), if_pos (by omega)]
      by_cases c2 : inK l t (p : Int) = true
      · rw [if_pos c2]
      · rw [if_neg c2, if_pos (by omega), if_pos (by omega), if_neg (kept_best c1 (Bool.eq_false_iff.2 c2) (by omega) (by omega))]
    · rw [if_neg c1]

theorem keeps_l1 (l : List Int) (t : Int) (ht : 0 ≤ t) (x7 : List Bool) (hn : l.length ≤ 1000000) (h7 : x7.length = l.length) (hx : ∀ j : Nat, j < l.length → rdOf false x7 (j : Int) = inK l t (j : Int)) :
    ∀ d p : Nat, p + d = l.length → Ev (fun k => credenzalaw20_PickKeeps.l1 k l t (kpt l t) x7 (l.length : Int) (p : Int)) true := by
  intro d
  induction d with
  | zero =>
    intro p hp
    refine Ev.step (fun k => ?_) awake20_ev
    rw [credenzalaw20_PickKeeps.l1, if_neg (by omega)]
    by_cases h0 : t = 0
    · rw [if_pos h0]
    · rw [if_neg h0, if_pos (by rw [kpt_length l t ht, if_neg h0])]
  | succ d ih =>
    intro p hp
    have hlt : p < l.length := by omega
    refine Ev.step (fun k => ?_) (keeps_l2 l t (kpt l t) x7 hn h7 hx p hlt (ih (p + 1) (by omega)) l.length 0 (by omega))
    rw [credenzalaw20_PickKeeps.l1, if_pos (by omega)]
    rfl

theorem keeps_l0 (l : List Int) (t : Int) (ht : 0 ≤ t) (hn : l.length ≤ 1000000) :
    ∀ (d p : Nat) (x7 : List Bool), p + d = (kpt l t).length → x7.length = l.length → (∀ j : Nat, j < l.length → rdOf false x7 (j : Int) = decide ((j : Int) ∈ (kpt l t).take p)) →
      Ev (fun k => credenzalaw20_PickKeeps.l0 k l t (kpt l t) (kpt l t) x7 (kpt l t) ((kpt l t).length : Int) (p : Int)) true := by
  have hgl : (kpt l t).length ≤ l.length := by
    rw [kpt_filter]; have := List.length_filter_le (inK l t) (iota l.length); rw [iota_length] at this; exact this
  intro d
  induction d with
  | zero =>
    intro p x7 hp h7 hx
    obtain rfl : p = (kpt l t).length := by omega
    refine Ev.step (fun k => ?_) (keeps_l1 l t ht x7 hn h7 (fun j hj => ?_) l.length 0 (by omega))
    · rw [credenzalaw20_PickKeeps.l0, if_neg (by omega)]
      rfl
    · rw [hx j hj, List.take_length]
      have := kpt_mem (l := l) (t := t) (x := (j : Int))
      by_cases c : inK l t (j : Int) = true
      · rw [c]; exact decide_eq_true (this.2 ⟨⟨by omega, by omega⟩, c⟩)
      · rw [Bool.eq_false_iff.2 c]; exact decide_eq_false (fun h => c (this.1 h).2)
  | succ d ih =>
    intro p x7 hp h7 hx
    have hlt : p < (kpt l t).length := by omega
    have hr := kpt_rd hlt
    obtain ⟨q, hq⟩ : ∃ q : Nat, rd (kpt l t) (p : Int) = (q : Int) := ⟨(rd (kpt l t) (p : Int)).toNat, by omega⟩
    refine Ev.step (fun k => ?_) (ih (p + 1) (x7.set q true) (by omega) (by simpa using h7) (fun j hj => ?_))
    · rw [credenzalaw20_PickKeeps.l0, if_pos (by omega), if_pos (by omega), if_pos (by omega), if_pos (by omega), if_pos rfl, hq, if_pos (by omega), if_pos (by omega), wnext hlt (by omega)]
      rfl
    · rw [rdOf_set x7 q (by omega) j, take_rd hlt, hq, hx j hj]
      by_cases e : j = q
      · subst e; rw [if_pos rfl]; simp
      · rw [if_neg e]
        congr 1
        apply propext
        simp only [List.mem_append, List.mem_singleton]
        constructor
        · exact .inl
        · rintro (h | h)
          · exact h
          · omega

theorem PickKeeps : credenzalaw20_PickKeeps.Pure := by
  intro l t _ _ _ _
  have aw : Ev (fun k => credenzalaw20_PickKeeps.j0 k l t true) true := by
    refine Ev.step (fun k => ?_) awake20_ev
    rw [credenzalaw20_PickKeeps.j0, if_pos rfl]
  refine Ev.rounds ?_
  by_cases h1 : (l.length : Int) > 100
  · exact Ev.congr (fun k => by rw [credenzalaw20_PickKeeps.f, if_pos h1]) aw
  · by_cases h2 : t < 0
    · exact Ev.congr (fun k => by rw [credenzalaw20_PickKeeps.f, if_neg h1, decide_eq_true h2]) aw
    · have ht : 0 ≤ t := by omega
      refine Ev.congr (f := fun k => credenzalaw20_PickKeeps.j0 k l t false) (fun k => by rw [credenzalaw20_PickKeeps.f, if_neg h1, decide_eq_false h2]) ?_
      refine Ev.step (f := fun k => (credenzaref20_Kept.f k l t).bind fun t367 => (if ((kpt l t).length : Int) = (t367.length : Int) then (credenzalaw20_PickKeeps.l0 k l t (kpt l t) t367 (List.replicate l.length false) (kpt l t) ((kpt l t).length : Int) 0) else some false)) (fun k => ?_) ?_
      · rw [credenzalaw20_PickKeeps.j0, if_neg (by simp), pick_Kept_some (by omega) ht, Option.bind_some]
        congr 1
        funext t367
        rw [if_pos (show (0 : Int) ≤ (l.length : Int) by omega), Int.toNat_natCast, if_pos (show l.length ≤ 281474976710656 by omega)]
      · refine Ev.bind (ref_Kept_ev l t (by omega)) ?_
        refine Ev.congr (fun k => by rw [if_pos rfl]; rfl) (keeps_l0 l t ht (by omega) (kpt l t).length 0 (List.replicate l.length false) (by omega) (by simp) (fun j hj => by simp [rdOf, hj]))
end Go.Proofs.Ytmldhpnkkkmloaa.Pure

namespace Go.Proofs.Ytmldhpnkkkmloaa.pickKeeps
open Go.ChangeShapes Go.WideShapes Go.ChangeAt Go.RowKit
open Go.ChangeMaps (open_string shut_string)
set_option linter.unusedVariables false
theorem own : ownKnob Try.prog.godebug = none := by kernel_rfl
theorem laidOut : laidOutB Try.prog = true := by kernel_rfl
def IsRow (k : IntKind) (w : World) (a : Option Addr) (len cap : Nat) (zs : List Int) : Prop :=
  (a = none ∧ len = 0 ∧ cap = 0 ∧ zs = []) ∨
  ∃ x, a = some x ∧ len ≤ cap ∧ cap ≤ maxLen ∧ zs.length = cap ∧ (∀ i, i < zs.length → w.cell? (x.add i) = some (.int k (zs.getD i 0))) ∧ ∀ n ∈ zs, (Lit.int k n).wf = true
set_option maxRecDepth 100000 in
theorem lifted (os : Os) (started : os.Started) (H : Type) (enc : TypeId × Value → H) :
    ReturnsInHanded {} Try.checked os 4 .any (Rows.pickKeepsSpec.pre6 enc Try.prog Try.f4 Rows.pickKeepsRow.domain false) (Rows.pickKeepsSpec.post enc Try.prog Try.f4 false true false false) := by
  refine returnsInHanded_of_change_sized (C := Try.checked) own started (by kernel_rfl) Try.func4
    (ChangeSpec.witness6 (enc := enc) (C := Try.checked) false ⟨#[], #[.slice none 0 0, .int .i64 0], []⟩ 8 (by kernel_rfl) (by kernel_rfl) (by kernel_rfl) (by kernel_rfl)) ?_
  intro W base args ds gs before hval0 hW hcnd hsz0 _
  have hsz : (DataW.weightsEach Try.prog (Try.f4.params.toList ++ Rows.pickKeepsSpec.plain.varTypes Try.prog) (ds ++ gs)).all (· ≤ reachBytes) = true := hsz0
  have hval : ∀ (j : Nat) t v, Try.f4.params[j]? = some t → args[j]? = some v → Value.okWide Try.prog W .any base t v := hval0
  have hW' := hW
  obtain ⟨p, q, hA0, hV, rfl, hfz, hnd⟩ := hW
  have hA : DataW.TrodAll enc Try.prog W 0 (fun _ => true) true Try.f4.params.toList args.toList ds p := hA0
  rw [Try.params4] at hA hval hsz
  obtain ⟨v0, vs0, d0, ds0, p0, q0, hargs, rfl, rfl, h0, r0⟩ := trodAll_cons hA
  obtain ⟨v1, vs1, d1, ds1, p1, q1, rfl, rfl, rfl, h1, r1⟩ := trodAll_cons r0
  obtain ⟨rfl, rfl, rfl⟩ := trodAll_nil r1
  obtain rfl : args = #[v0, v1] := by cases args; simp_all
  obtain ⟨rfl, rfl⟩ := trodVars_none hV
  obtain ⟨a0, len0, cap0, rfl⟩ := okWide_slice Try.underlying22 (hval 0 22 v0 rfl rfl)
  have k0 := h0
  have lt0 : ∀ x ∈ p0, x.block < W.heap.size := by obtain ⟨m, hm⟩ := k0; exact DataW.trod_lt m _ _ _ hm
  obtain ⟨z0, w0⟩ : ∃ zs, IsRow .i32 W a0 len0 cap0 zs := by
    obtain ⟨fuel, hf⟩ := h0
    rcases open_ints Try.underlying22 Try.underlying21 (by kernel_rfl) hf with ⟨hcs, _⟩ | ⟨x, l, c, zs, hcs, _, hl, hm, hz, _, hcell, hwz⟩
    · simp [Value.cells] at hcs
      obtain ⟨rfl, rfl, rfl⟩ := hcs
      exact ⟨[], .inl ⟨rfl, rfl, rfl, rfl⟩⟩
    · simp [Value.cells] at hcs
      obtain ⟨rfl, rfl, rfl⟩ := hcs
      exact ⟨zs, .inr ⟨_, rfl, hl, hm, by simpa using hz, hcell, hwz⟩⟩
  have y0 : len0 * 4 ≤ 140737488351232 := Go.Proofs.YtmldhpnkkkmloaaW.PrintWords.sized_ints hsz (j := 0) (t := 22) rfl rfl Try.underlying22 Try.underlying21 (by kernel_rfl) (by kernel_rfl) h0
  obtain ⟨a1, rfl, rfl, rfl, w1⟩ := open_int Try.underlying3 (hval 1 3 v1 rfl rfl) h1
  clear hA0 hval0 hsz0 hsz
  refine (Q.credenzalaw20_PickKeeps.walk Pure.PickKeeps a0 len0 cap0 z0 a1 W w0 y0 w1).mono fun e W' ⟨he, bel⟩ => ?_
  subst he
  exact ⟨_, rfl, _, _, _, [], _, [], hW', trodAll_mk1 (shut_bool Try.underlying4 _), (trodAll_cons_mk (Below.trod laidOut (by kernel_rfl) (of_decide_eq_true (by kernel_rfl)) k0 bel lt0) (trodAll_cons_mk (shut_int Try.underlying3 w1) trodAll_mk0)), rfl, bel.frame _, fun h => by cases h⟩
theorem over : Rows.pickKeepsRow.holds Try.pinned (OpenSpec.ofChange Rows.pickKeepsSpec) :=
  OpenClaim.holds_of_wide 4 Try.f4 rfl rfl rfl rfl rfl rfl rfl ⟨rfl, rfl, rfl, rfl, rfl⟩ rfl rfl rfl rfl rfl (by kernel_rfl) Try.func4 (by kernel_rfl)
    (of_decide_eq_true (by kernel_rfl)) (by unfold Func.isWrapper; first | (rw [if_pos (by decide +kernel)]; kernel_rfl) | (rw [if_neg (by decide +kernel)]; exact ⟨rfl, rfl⟩))
    (fun os started H enc _ => lifted os started H enc)
theorem proved : Rows.PickKeepsSaid := over
end Go.Proofs.Ytmldhpnkkkmloaa.pickKeeps
namespace Go.Proofs.Ytmldhpnkkkmloaa
/-- The row, under a short name, for the claim. -/
theorem pickKeeps_holds : Rows.PickKeepsSaid := pickKeeps.proved
end Go.Proofs.Ytmldhpnkkkmloaa
