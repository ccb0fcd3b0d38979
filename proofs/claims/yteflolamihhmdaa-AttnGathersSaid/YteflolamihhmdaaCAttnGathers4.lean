/- AttnGathers: for every input the Go function returns true and leaves its arguments as they were. Conditions: as each theorem states; the last one has none. -/
import Derived.Test.YteflolamihhmdaaRows
import Derived.WalkKit
import Derived.ProofKit
import Derived.OpenShut
import Derived.ShutString
import Derived.ChangeOld
import Derived.Below
import Derived.SizedLaws
import Derived.Test.YteflolamihhmdaaWSized
import Derived.Test.YteflolamihhmdaaCAttnGathers1
import Derived.Test.YteflolamihhmdaaCAttnGathers2
import Derived.Test.YteflolamihhmdaaCAttnGathers3
namespace Go.Proofs.Yteflolamihhmdaa.Q
open Go.RowKit Go.Proofs.YteflolamihhmdaaW.PrintWords Go.Proofs.YteflolamihhmdaaW.PrintLast Go.Proofs.YteflolamihhmdaaW.PrintMore
attribute [local go_sem] max2_int min2_int max_two min_two max_three min_three max_four min_four   -- for this text's walks alone
set_option linter.unusedVariables false
set_option linter.unusedSimpArgs false

/-! ### credenzalaw14_AttnGathers: function 4 -/
def credenzalaw14_AttnGathers.j0 : Nat → List Int → List (List Int) → List (List Int) → Bool → Option (Bool)
  | 0, _, _, _, _ => none
  | k + 1, x0, x1, x2, x19 => if x19 = true then ((credenzalaw14_awake.f k).bind fun t280 => (some t280)) else ((attn_Gather.f k x0 x1 x2).bind fun bt281 => ((credenzaref14_Right.f k x0 x1 x2).bind fun t285 => (if t285 = 0 then (if bt281.2 = 0 then ((credenzaref14_Gather.f k x0 x1 x2).bind fun t286 => ((credenzaref03_Same.f k bt281.1 t286).bind fun t289 => (if t289 = true then ((credenzalaw14_awake.f k).bind fun t290 => (some t290)) else (some false)))) else (some false)) else (if bt281.2 = t285 then (if (bt281.1.length : Int) = 0 then ((credenzalaw14_awake.f k).bind fun t291 => (some t291)) else (some false)) else (some false)))))
def credenzalaw14_AttnGathers.f (k : Nat) (l0 : List Int) (l1 : List (List Int)) (l2 : List (List Int)) : Option (Bool) := (credenzalaw14_light.f k (([l1, l2] : List (List (List Int))))).bind fun t279 => (if t279 = true then (credenzalaw14_AttnGathers.j0 k l0 l1 l2 (decide ((l0.length : Int) > 100))) else (credenzalaw14_AttnGathers.j0 k l0 l1 l2 true))
theorem credenzalaw14_AttnGathers.mono_l : ∀ k, (∀ y0 y1 y2 y3, LeO (credenzalaw14_AttnGathers.j0 k y0 y1 y2 y3) (credenzalaw14_AttnGathers.j0 (k + 1) y0 y1 y2 y3))
  | 0 => fun _ _ _ _ r h => by simp [credenzalaw14_AttnGathers.j0] at h
  | k + 1 => by
    have ih0 := credenzalaw14_AttnGathers.mono_l k
    · intro y0 y1 y2 y3
      unfold credenzalaw14_AttnGathers.j0
      repeat' first
      | (with_reducible exact ih0 _ _ _ _)
      | (with_reducible exact attn_Gather.mono _ _ _ _)
      | (with_reducible exact credenzalaw14_awake.mono _)
      | (with_reducible exact credenzalaw14_light.mono _ _)
      | (with_reducible exact credenzaref03_Same.mono _ _ _)
      | (with_reducible exact credenzaref14_Gather.mono _ _ _ _)
      | (with_reducible exact credenzaref14_Right.mono _ _ _ _)
      | (with_reducible exact LeO.refl _)
      | (with_reducible exact LeO.none _)
      | (with_reducible refine LeO.ite ?_ ?_)
      | (with_reducible refine LeO.bind ?_ (fun _ => ?_))
      | exact ih0 _ _ _ _
      | exact attn_Gather.mono _ _ _ _
      | exact credenzalaw14_awake.mono _
      | exact credenzalaw14_light.mono _ _
      | exact credenzaref03_Same.mono _ _ _
      | exact credenzaref14_Gather.mono _ _ _ _
      | exact credenzaref14_Right.mono _ _ _ _
      | exact LeO.none _
      | refine LeO.ite ?_ ?_
      | refine LeO.bind ?_ (fun _ => ?_)
theorem credenzalaw14_AttnGathers.mono : ∀ a0 a1 a2 k, LeO (credenzalaw14_AttnGathers.f k a0 a1 a2) (credenzalaw14_AttnGathers.f (k + 1) a0 a1 a2) := by
  intro a0 a1 a2 k
  have ih0 := credenzalaw14_AttnGathers.mono_l k
  unfold credenzalaw14_AttnGathers.f
  repeat' first
      | (with_reducible exact ih0 _ _ _ _)
      | (with_reducible exact attn_Gather.mono _ _ _ _)
      | (with_reducible exact credenzalaw14_awake.mono _)
      | (with_reducible exact credenzalaw14_light.mono _ _)
      | (with_reducible exact credenzaref03_Same.mono _ _ _)
      | (with_reducible exact credenzaref14_Gather.mono _ _ _ _)
      | (with_reducible exact credenzaref14_Right.mono _ _ _ _)
      | (with_reducible exact LeO.refl _)
      | (with_reducible exact LeO.none _)
      | (with_reducible refine LeO.ite ?_ ?_)
      | (with_reducible refine LeO.bind ?_ (fun _ => ?_))
      | exact ih0 _ _ _ _
      | exact attn_Gather.mono _ _ _ _
      | exact credenzalaw14_awake.mono _
      | exact credenzalaw14_light.mono _ _
      | exact credenzaref03_Same.mono _ _ _
      | exact credenzaref14_Gather.mono _ _ _ _
      | exact credenzaref14_Right.mono _ _ _ _
      | exact LeO.none _
      | refine LeO.ite ?_ ?_
      | refine LeO.bind ?_ (fun _ => ?_)
set_option maxHeartbeats 8000000 in
set_option maxRecDepth 100000 in
theorem credenzalaw14_AttnGathers.calls (k : Nat) (A0 : Option Addr) (c0 : Nat) (l0 : List Int) (P1_ : Nat → Prop) (A1 : Option Addr) (c1 : Nat) (l1 : List (List Int)) (P2_ : Nat → Prop) (A2 : Option Addr) (c2 : Nat) (l2 : List (List Int)) (r : Bool) (w : World) (hr0 : Kd.C (Kd.int .i32) w A0 l0.length l0) (hc0 : l0.length ≤ c0) (hs1 : Kd.V (Kd.slice 21 (Kd.int .i32)) 22 w w.heap.size (fun k_ => P1_ k_) (.slice A1 l1.length c1) l1) (hs2 : Kd.V (Kd.slice 21 (Kd.int .i32)) 22 w w.heap.size (fun k_ => P2_ k_) (.slice A2 l2.length c2) l2) (h : credenzalaw14_AttnGathers.f k l0 l1 l2 = some r) :
    Calls Try.prog 4 #[.slice A0 l0.length c0, .slice A1 l1.length c1, .slice A2 l2.length c2] w fun e w' => e = .returned (.bool r) ∧ Below w.heap.size w w' := by
  have HR0 := Aside0.mk hr0
  have HC0 := Aside0.mk hc0
  clear hr0 hc0
  have HO1 := Aside0.mk (show Kd.V (Kd.slice 21 (Kd.int .i32)) 22 w w.heap.size (fun k_ => ((P1_ k_ ∨ P2_ k_) ∨ w.heap.size ≤ k_)) (.slice A1 l1.length c1) l1 from Kd.V_mono hs1 (fun k_ hk => .inl (.inl hk)))
  have HO2 := Aside0.mk (show Kd.V (Kd.slice 21 (Kd.int .i32)) 22 w w.heap.size (fun k_ => ((P1_ k_ ∨ P2_ k_) ∨ w.heap.size ≤ k_)) (.slice A2 l2.length c2) l2 from Kd.V_mono hs2 (fun k_ hk => .inl (.inr hk)))
  have HB := Aside0.mk (Below.refl w.heap.size w)
  have H : ((credenzalaw14_light.f k (([l1, l2] : List (List (List Int))))).bind fun t279 => (if t279 = true then (credenzalaw14_AttnGathers.j0 k l0 l1 l2 (decide ((l0.length : Int) > 100))) else (credenzalaw14_AttnGathers.j0 k l0 l1 l2 true))) = some r := h
  clear h
  have HC4 := Aside0.mk H
  clear H
  go_enter Try.func4, Try.ntmps4
  go_upto_region 1 with (fail)
  go_cut [19] (fun v19 wc => ∃ (kq : Nat) (x19_3 : Bool), v19 = .bool x19_3 ∧ Aside0 (credenzalaw14_AttnGathers.j0 kq l0 l1 l2 x19_3 = some r) ∧ Aside0 (kq ≤ k) ∧ Aside0 (Kd.V (Kd.slice 21 (Kd.int .i32)) 22 wc w.heap.size (fun k_ => ((P1_ k_ ∨ P2_ k_) ∨ w.heap.size ≤ k_)) (.slice A1 l1.length c1) l1) ∧ Aside0 (Kd.V (Kd.slice 21 (Kd.int .i32)) 22 wc w.heap.size (fun k_ => ((P1_ k_ ∨ P2_ k_) ∨ w.heap.size ≤ k_)) (.slice A2 l2.length c2) l2) ∧ Aside0 (Below w.heap.size w wc))
  case first =>
    have H := HC4.out
    clear HC4
    obtain ⟨y276, hy276⟩ : ∃ y_ : List (List (List Int)), y_ = (([l1, l2] : List (List (List Int)))) := ⟨_, rfl⟩
    replace H : ((credenzalaw14_light.f k y276).bind fun t279 => (if t279 = true then (credenzalaw14_AttnGathers.j0 k l0 l1 l2 (decide ((l0.length : Int) > 100))) else (credenzalaw14_AttnGathers.j0 k l0 l1 l2 true))) = some r := by first | (rw [hy276]; with_reducible exact H) | (have H2_ := (Option.bind_some _ _).symm.trans H; rw [hy276]; with_reducible exact H2_) | (have H2_ := (Option.bind_some _ _).symm.trans H; with_reducible exact H2_) | with_reducible exact H | (rw [hy276]; exact H) | exact H
    have Ny276 := Aside0.mk hy276
    clear hy276
    replace H := Option.bind_eq_some_iff.mp H
    obtain ⟨t279, A50, H⟩ := H
    replace H : (if t279 = true then (credenzalaw14_AttnGathers.j0 k l0 l1 l2 (decide ((l0.length : Int) > 100))) else (credenzalaw14_AttnGathers.j0 k l0 l1 l2 true)) = some r := H
    have A5 := Aside0.mk A50
    clear A50
    by_cases c6 : t279 = true
    · subst c6
      have H1 : (credenzalaw14_AttnGathers.j0 k l0 l1 l2 (decide ((l0.length : Int) > 100))) = some r := by rw [if_pos rfl] at H; exact H
      clear H
      have H := H1
      clear H1
      have H' := Aside0.mk H
      clear H
      go_wp2_with (first | ((with_reducible refine gate_dst (N := 12) rfl ?_); (try (refine gate_guard (by rfl) ?_; dsimp only)); refine Kd.N_lit (Kd.slice 22 (Kd.slice 21 (Kd.int .i32))) _ 29 ?hg (N' := 12) ?hd (xs := ([l1, l2] : List (List (List Int)))) (inner := [.slice A1 l1.length c1, .slice A2 l2.length c2]) (ok := (fun k_ => ((P1_ k_ ∨ P2_ k_) ∨ w.heap.size ≤ k_))) (okp := (fun k_ => ((P1_ k_ ∨ P2_ k_) ∨ w.heap.size ≤ k_))) ?hr ?hp (fun _ hk => hk) ((show ∀ k_, w.heap.size ≤ k_ → (fun k_ => ((P1_ k_ ∨ P2_ k_) ∨ w.heap.size ≤ k_)) k_ from fun k_ hk => (.inr (Nat.le_trans (below_size (by repeat (first | (with_reducible first | exact HB.out | apply below_alloc | apply pw_below_drewN | apply below_drew1) | exact HB.out))) hk))) _ (Nat.le_refl _)) (Below.refl _ _) (Nat.le_refl _) (by simp) ?_; (case hd => rfl); (case hg => rfl); (case hr => first | (go_simp; done) | (go_simp; rfl)); (case hp => exact (Reps.one (show Kd.FK (Kd.slice 22 (Kd.slice 21 (Kd.int .i32))) _ _ l1 [.slice A1 l1.length c1] from (Kd.FK_slice_mk (Kd.V_reads' (Kd.V_mono (ok' := (fun k_ => ((P1_ k_ ∨ P2_ k_) ∨ w.heap.size ≤ k_))) (HO1.out) (fun k_ hk => hk))).2.1 (Kd.V_F (Kd.V_mono (ok' := (fun k_ => ((P1_ k_ ∨ P2_ k_) ∨ w.heap.size ≤ k_))) (HO1.out) (fun k_ hk => hk))))) (Reps.one (show Kd.FK (Kd.slice 22 (Kd.slice 21 (Kd.int .i32))) _ _ l2 [.slice A2 l2.length c2] from (Kd.FK_slice_mk (Kd.V_reads' (Kd.V_mono (ok' := (fun k_ => ((P1_ k_ ∨ P2_ k_) ∨ w.heap.size ≤ k_))) (HO2.out) (fun k_ hk => hk))).2.1 (Kd.V_F (Kd.V_mono (ok' := (fun k_ => ((P1_ k_ ∨ P2_ k_) ∨ w.heap.size ≤ k_))) (HO2.out) (fun k_ hk => hk))))) (Reps.none _ _)))); intro v277 w7 ho8 hb hg_ hnew_; clear hg_ hnew_; (first | rw [← Ny276.out] at ho8 | (simp only [Int.reduceToNat] at ho8; rw [← Ny276.out] at ho8)); have n0_ := Aside0.mk (Kd.V_elder' (by (with_reducible repeat (first | apply Kd.V_alloc | apply Kd.V_drewN | apply Kd.V_drew)); exact HO1.out) (Kd.N_base ho8) hb); have n1_ := Aside0.mk (Kd.V_elder' (by (with_reducible repeat (first | apply Kd.V_alloc | apply Kd.V_drewN | apply Kd.V_drew)); exact HO2.out) (Kd.N_base ho8) hb); have n2_ := Aside0.mk (Kd.N_lower ho8 (below_size (by repeat (first | (with_reducible first | exact HB.out | apply below_alloc | apply pw_below_drewN | apply below_drew1) | exact HB.out)))); have n3_ := Aside0.mk (below_step (by repeat (first | (with_reducible first | exact HB.out | apply below_alloc | apply pw_below_drewN | apply below_drew1) | exact HB.out)) hb); clear HO1; clear HO2; clear HB; have HO1 := n0_; have HO2 := n1_; have HO278 := n2_; have HB := n3_; clear n0_ n1_ n2_ n3_; clear hb ho8; obtain ⟨Ao9, co9, eo9⟩ := Kd.N_slice HO278.out; subst eo9) | ((with_reducible refine gate_callee (f := 11) rfl ?_); refine goesL_ (some 13) rfl rfl Try.func11 (by kernel_rfl) rfl #[.slice Ao9 y276.length co9] rfl (by (try simp only [List.map_toArray, List.map_cons, List.map_nil]); first | done | rfl | (simp only [List.length_drop, List.length_take]; rfl)) ?_; (with_reducible refine (credenzalaw14_light.calls k _ _ y276 true _ ?side1 ?side2 A5.out).mono ?_); (case side1 => repeat (first | exact (Kd.N_reads' HO278.out).2.2 | (with_reducible refine Kd.C_alloc ?_ _) | (with_reducible refine Kd.C_drewN ?_ _) | (with_reducible refine Kd.C_drew ?_))); (case side2 => exact (Kd.N_reads' HO278.out).2.1); rintro e w' ⟨rfl, ⟨nd, rfl⟩⟩; refine ⟨_, rfl, ?_⟩))
      go_meet
      case rel => exact ⟨_, (decide ((l0.length : Int) > 100)), (by first | rfl | (simp; done) | (simp [*]; done)), H', ⟨by first | omega | exact Nat.le_refl _⟩, ⟨by (with_reducible repeat (first | apply Kd.V_alloc | apply Kd.V_drewN | apply Kd.V_drew)); exact Kd.V_mono HO1.out (fun _ hk => hk.1)⟩, ⟨by (with_reducible repeat (first | apply Kd.V_alloc | apply Kd.V_drewN | apply Kd.V_drew)); exact Kd.V_mono HO2.out (fun _ hk => hk.1)⟩, ⟨by repeat (first | (with_reducible first | exact HB.out | apply below_alloc | apply pw_below_drewN | apply below_drew1) | exact HB.out)⟩⟩
    · replace c6 := Bool.eq_false_iff.mpr c6
      subst c6
      have H1 : (credenzalaw14_AttnGathers.j0 k l0 l1 l2 true) = some r := by rw [if_neg (show ¬ (false = true) by decide)] at H; exact H
      clear H
      have H := H1
      clear H1
      have H' := Aside0.mk H
      clear H
      go_wp2_with (first | ((with_reducible refine gate_dst (N := 12) rfl ?_); (try (refine gate_guard (by rfl) ?_; dsimp only)); refine Kd.N_lit (Kd.slice 22 (Kd.slice 21 (Kd.int .i32))) _ 29 ?hg (N' := 12) ?hd (xs := ([l1, l2] : List (List (List Int)))) (inner := [.slice A1 l1.length c1, .slice A2 l2.length c2]) (ok := (fun k_ => ((P1_ k_ ∨ P2_ k_) ∨ w.heap.size ≤ k_))) (okp := (fun k_ => ((P1_ k_ ∨ P2_ k_) ∨ w.heap.size ≤ k_))) ?hr ?hp (fun _ hk => hk) ((show ∀ k_, w.heap.size ≤ k_ → (fun k_ => ((P1_ k_ ∨ P2_ k_) ∨ w.heap.size ≤ k_)) k_ from fun k_ hk => (.inr (Nat.le_trans (below_size (by repeat (first | (with_reducible first | exact HB.out | apply below_alloc | apply pw_below_drewN | apply below_drew1) | exact HB.out))) hk))) _ (Nat.le_refl _)) (Below.refl _ _) (Nat.le_refl _) (by simp) ?_; (case hd => rfl); (case hg => rfl); (case hr => first | (go_simp; done) | (go_simp; rfl)); (case hp => exact (Reps.one (show Kd.FK (Kd.slice 22 (Kd.slice 21 (Kd.int .i32))) _ _ l1 [.slice A1 l1.length c1] from (Kd.FK_slice_mk (Kd.V_reads' (Kd.V_mono (ok' := (fun k_ => ((P1_ k_ ∨ P2_ k_) ∨ w.heap.size ≤ k_))) (HO1.out) (fun k_ hk => hk))).2.1 (Kd.V_F (Kd.V_mono (ok' := (fun k_ => ((P1_ k_ ∨ P2_ k_) ∨ w.heap.size ≤ k_))) (HO1.out) (fun k_ hk => hk))))) (Reps.one (show Kd.FK (Kd.slice 22 (Kd.slice 21 (Kd.int .i32))) _ _ l2 [.slice A2 l2.length c2] from (Kd.FK_slice_mk (Kd.V_reads' (Kd.V_mono (ok' := (fun k_ => ((P1_ k_ ∨ P2_ k_) ∨ w.heap.size ≤ k_))) (HO2.out) (fun k_ hk => hk))).2.1 (Kd.V_F (Kd.V_mono (ok' := (fun k_ => ((P1_ k_ ∨ P2_ k_) ∨ w.heap.size ≤ k_))) (HO2.out) (fun k_ hk => hk))))) (Reps.none _ _)))); intro v277 w10 ho11 hb hg_ hnew_; clear hg_ hnew_; (first | rw [← Ny276.out] at ho11 | (simp only [Int.reduceToNat] at ho11; rw [← Ny276.out] at ho11)); have n0_ := Aside0.mk (Kd.V_elder' (by (with_reducible repeat (first | apply Kd.V_alloc | apply Kd.V_drewN | apply Kd.V_drew)); exact HO1.out) (Kd.N_base ho11) hb); have n1_ := Aside0.mk (Kd.V_elder' (by (with_reducible repeat (first | apply Kd.V_alloc | apply Kd.V_drewN | apply Kd.V_drew)); exact HO2.out) (Kd.N_base ho11) hb); have n2_ := Aside0.mk (Kd.N_lower ho11 (below_size (by repeat (first | (with_reducible first | exact HB.out | apply below_alloc | apply pw_below_drewN | apply below_drew1) | exact HB.out)))); have n3_ := Aside0.mk (below_step (by repeat (first | (with_reducible first | exact HB.out | apply below_alloc | apply pw_below_drewN | apply below_drew1) | exact HB.out)) hb); clear HO1; clear HO2; clear HB; have HO1 := n0_; have HO2 := n1_; have HO278 := n2_; have HB := n3_; clear n0_ n1_ n2_ n3_; clear hb ho11; obtain ⟨Ao12, co12, eo12⟩ := Kd.N_slice HO278.out; subst eo12) | ((with_reducible refine gate_callee (f := 11) rfl ?_); refine goesL_ (some 13) rfl rfl Try.func11 (by kernel_rfl) rfl #[.slice Ao12 y276.length co12] rfl (by (try simp only [List.map_toArray, List.map_cons, List.map_nil]); first | done | rfl | (simp only [List.length_drop, List.length_take]; rfl)) ?_; (with_reducible refine (credenzalaw14_light.calls k _ _ y276 false _ ?side1 ?side2 A5.out).mono ?_); (case side1 => repeat (first | exact (Kd.N_reads' HO278.out).2.2 | (with_reducible refine Kd.C_alloc ?_ _) | (with_reducible refine Kd.C_drewN ?_ _) | (with_reducible refine Kd.C_drew ?_))); (case side2 => exact (Kd.N_reads' HO278.out).2.1); rintro e w' ⟨rfl, ⟨nd, rfl⟩⟩; refine ⟨_, rfl, ?_⟩))
      go_meet
      case rel => exact ⟨_, (true), (by first | rfl | (simp; done) | (simp [*]; done)), H', ⟨by first | omega | exact Nat.le_refl _⟩, ⟨by (with_reducible repeat (first | apply Kd.V_alloc | apply Kd.V_drewN | apply Kd.V_drew)); exact Kd.V_mono HO1.out (fun _ hk => hk.1)⟩, ⟨by (with_reducible repeat (first | apply Kd.V_alloc | apply Kd.V_drewN | apply Kd.V_drew)); exact Kd.V_mono HO2.out (fun _ hk => hk.1)⟩, ⟨by repeat (first | (with_reducible first | exact HB.out | apply below_alloc | apply pw_below_drewN | apply below_drew1) | exact HB.out)⟩⟩
  case rest =>
    clear HC4
    try clear c1
    try clear c2
    try clear p2
    try clear c4
    try clear c6
    try clear c11
    obtain ⟨kq, x19_3, rfl, HA, HJ3, HO_1, HO_2, HB⟩ := hcut
    cases kq with
    | zero => exact absurd HA.out (by simp [credenzalaw14_AttnGathers.j0])
    | succ kj3 =>
      have H := HA.out
      clear HA
      simp only [credenzalaw14_AttnGathers.j0] at H
      by_cases c13 : x19_3 = true
      · subst c13
        have H1 : ((credenzalaw14_awake.f kj3).bind fun t280 => (some t280)) = some r := by rw [if_pos rfl] at H; exact H
        clear H
        have H := H1
        clear H1
        replace H := Option.bind_eq_some_iff.mp H
        obtain ⟨t280, A140, H⟩ := H
        replace H : (some t280) = some r := H
        have A14 := Aside0.mk A140
        clear A140
        obtain rfl := Option.some.inj H
        go_wp2_with (first | ((with_reducible refine gate_callee (f := 8) rfl ?_); refine goesL_ (some 20) rfl rfl Try.func8 (by kernel_rfl) rfl #[] rfl (by (try simp only [List.map_toArray, List.map_cons, List.map_nil]); first | done | rfl | (simp only [List.length_drop, List.length_take]; rfl)) ?_; (with_reducible refine (credenzalaw14_awake.calls kj3  t280 _ A14.out).mono ?_); rintro e w15 ⟨rfl, hb⟩; refine ⟨_, rfl, ?_⟩; have n0_ := Aside0.mk (Kd.V_below (by (with_reducible repeat (first | apply Kd.V_alloc | apply Kd.V_drewN | apply Kd.V_drew)); exact HO_1.out) hb); have n1_ := Aside0.mk (Kd.V_below (by (with_reducible repeat (first | apply Kd.V_alloc | apply Kd.V_drewN | apply Kd.V_drew)); exact HO_2.out) hb); have n2_ := Aside0.mk (below_step (by repeat (first | (with_reducible first | exact HB.out | apply below_alloc | apply pw_below_drewN | apply below_drew1) | exact HB.out)) hb); clear HO_1; clear HO_2; clear HB; have HO_1 := n0_; have HO_2 := n1_; have HB := n2_; clear n0_ n1_ n2_; (try clear hb); (try clear hb2); (try clear hk); (try clear hi)))
        go_ret
        exact ⟨by first | rfl | (simp [errW_none, errW_some] <;> rfl) | (simp [*, errW_none, errW_some] <;> rfl), by repeat (first | (with_reducible first | exact HB.out | apply below_alloc | apply pw_below_drewN | apply below_drew1) | exact HB.out)⟩
      · replace c13 := Bool.eq_false_iff.mpr c13
        subst c13
        have H1 : ((attn_Gather.f kj3 l0 l1 l2).bind fun bt281 => ((credenzaref14_Right.f kj3 l0 l1 l2).bind fun t285 => (if t285 = 0 then (if bt281.2 = 0 then ((credenzaref14_Gather.f kj3 l0 l1 l2).bind fun t286 => ((credenzaref03_Same.f kj3 bt281.1 t286).bind fun t289 => (if t289 = true then ((credenzalaw14_awake.f kj3).bind fun t290 => (some t290)) else (some false)))) else (some false)) else (if bt281.2 = t285 then (if (bt281.1.length : Int) = 0 then ((credenzalaw14_awake.f kj3).bind fun t291 => (some t291)) else (some false)) else (some false))))) = some r := by rw [if_neg (show ¬ (false = true) by decide)] at H; exact H
        clear H
        have H := H1
        clear H1
        replace H := Option.bind_eq_some_iff.mp H
        obtain ⟨⟨t281, t282⟩, A160, H⟩ := H
        replace H : ((credenzaref14_Right.f kj3 l0 l1 l2).bind fun t285 => (if t285 = 0 then (if t282 = 0 then ((credenzaref14_Gather.f kj3 l0 l1 l2).bind fun t286 => ((credenzaref03_Same.f kj3 t281 t286).bind fun t289 => (if t289 = true then ((credenzalaw14_awake.f kj3).bind fun t290 => (some t290)) else (some false)))) else (some false)) else (if t282 = t285 then (if (t281.length : Int) = 0 then ((credenzalaw14_awake.f kj3).bind fun t291 => (some t291)) else (some false)) else (some false)))) = some r := H
        have A16 := Aside0.mk A160
        clear A160
        replace H := Option.bind_eq_some_iff.mp H
        obtain ⟨t285, A170, H⟩ := H
        replace H : (if t285 = 0 then (if t282 = 0 then ((credenzaref14_Gather.f kj3 l0 l1 l2).bind fun t286 => ((credenzaref03_Same.f kj3 t281 t286).bind fun t289 => (if t289 = true then ((credenzalaw14_awake.f kj3).bind fun t290 => (some t290)) else (some false)))) else (some false)) else (if t282 = t285 then (if (t281.length : Int) = 0 then ((credenzalaw14_awake.f kj3).bind fun t291 => (some t291)) else (some false)) else (some false))) = some r := H
        have A17 := Aside0.mk A170
        clear A170
        by_cases c18 : t285 = 0
        · rw [if_pos c18] at H
          have c18b0 : (t285 == 0) = true := beq_iff_eq.mpr c18
          have c18b1 : (t285 != 0) = false := bne_eq_false_iff_eq.mpr c18
          clear c18
          by_cases c19 : t282 = 0
          · rw [if_pos c19] at H
            have c19b0 : (t282 == 0) = true := beq_iff_eq.mpr c19
            have c19b1 : (t282 != 0) = false := bne_eq_false_iff_eq.mpr c19
            clear c19
            replace H := Option.bind_eq_some_iff.mp H
            obtain ⟨t286, A200, H⟩ := H
            replace H : ((credenzaref03_Same.f kj3 t281 t286).bind fun t289 => (if t289 = true then ((credenzalaw14_awake.f kj3).bind fun t290 => (some t290)) else (some false))) = some r := H
            have A20 := Aside0.mk A200
            clear A200
            replace H := Option.bind_eq_some_iff.mp H
            obtain ⟨t289, A210, H⟩ := H
            replace H : (if t289 = true then ((credenzalaw14_awake.f kj3).bind fun t290 => (some t290)) else (some false)) = some r := H
            have A21 := Aside0.mk A210
            clear A210
            by_cases c22 : t289 = true
            · subst c22
              have H1 : ((credenzalaw14_awake.f kj3).bind fun t290 => (some t290)) = some r := by rw [if_pos rfl] at H; exact H
              clear H
              have H := H1
              clear H1
              replace H := Option.bind_eq_some_iff.mp H
              obtain ⟨t290, A230, H⟩ := H
              replace H : (some t290) = some r := H
              have A23 := Aside0.mk A230
              clear A230
              obtain rfl := Option.some.inj H
              go_wp2_with (first | ((with_reducible refine gate_callee (f := 12) rfl ?_); refine goesL_ (some 25) rfl rfl Try.func12 (by kernel_rfl) rfl #[.slice A0 l0.length c0, .slice A1 l1.length c1, .slice A2 l2.length c2] rfl (by (try simp only [List.map_toArray, List.map_cons, List.map_nil]); first | done | rfl | (simp only [List.length_drop, List.length_take]; rfl)) ?_; (with_reducible refine (attn_Gather.calls kj3 _ _ l0 _ _ l1 _ _ l2 t281 t282 _ ?side1 ?side2 ?side3 ?side4 ?side5 ?side6 A16.out).mono ?_); (case side1 => repeat (first | exact (Kd.C_below HR0.out HB.out) | (with_reducible refine Kd.C_alloc ?_ _) | (with_reducible refine Kd.C_drewN ?_ _) | (with_reducible refine Kd.C_drew ?_))); (case side2 => exact HC0.out); (case side3 => repeat (first | exact (Kd.V_reads' HO_1.out).2.2 | (with_reducible refine Kd.C_alloc ?_ _) | (with_reducible refine Kd.C_drewN ?_ _) | (with_reducible refine Kd.C_drew ?_))); (case side4 => exact (Kd.V_reads' HO_1.out).2.1); (case side5 => repeat (first | exact (Kd.V_reads' HO_2.out).2.2 | (with_reducible refine Kd.C_alloc ?_ _) | (with_reducible refine Kd.C_drewN ?_ _) | (with_reducible refine Kd.C_drew ?_))); (case side6 => exact (Kd.V_reads' HO_2.out).2.1); rintro e w24 ⟨v283, rfl, ho0, hb⟩; refine ⟨_, rfl, ?_⟩; have n0_ := Aside0.mk (Kd.V_elder' (by (with_reducible repeat (first | apply Kd.V_alloc | apply Kd.V_drewN | apply Kd.V_drew)); exact HO_1.out) (Kd.R_base ho0) hb); have n1_ := Aside0.mk (Kd.V_elder' (by (with_reducible repeat (first | apply Kd.V_alloc | apply Kd.V_drewN | apply Kd.V_drew)); exact HO_2.out) (Kd.R_base ho0) hb); have n2_ := Aside0.mk (Kd.R_lower (Kd.R_newM (M := fun k_ => (w.heap.size ≤ k_)) ho0 (below_size (by repeat (first | (with_reducible first | exact HB.out | apply below_alloc | apply pw_below_drewN | apply below_drew1) | exact HB.out))) (fun k_ h_ => h_)) (below_size (by repeat (first | (with_reducible first | exact HB.out | apply below_alloc | apply pw_below_drewN | apply below_drew1) | exact HB.out)))); have n3_ := Aside0.mk (below_step (by repeat (first | (with_reducible first | exact HB.out | apply below_alloc | apply pw_below_drewN | apply below_drew1) | exact HB.out)) hb); clear HO_1; clear HO_2; clear HB; have HO_1 := n0_; have HO_2 := n1_; have HO284 := n2_; have HB := n3_; clear n0_ n1_ n2_ n3_; (try clear hb); (try clear hb2); (try clear hk); (try clear hi); (try clear ho0)) | ((with_reducible refine gate_callee (f := 13) rfl ?_); refine goesL_ (some 31) rfl rfl Try.func13 (by kernel_rfl) rfl #[.slice A0 l0.length c0, .slice A1 l1.length c1, .slice A2 l2.length c2] rfl (by (try simp only [List.map_toArray, List.map_cons, List.map_nil]); first | done | rfl | (simp only [List.length_drop, List.length_take]; rfl)) ?_; (with_reducible refine (credenzaref14_Right.calls kj3 _ _ l0 _ _ l1 _ _ l2 t285 _ ?side1 ?side2 ?side3 ?side4 ?side5 ?side6 A17.out).mono ?_); (case side1 => repeat (first | exact (Kd.C_below HR0.out HB.out) | (with_reducible refine Kd.C_alloc ?_ _) | (with_reducible refine Kd.C_drewN ?_ _) | (with_reducible refine Kd.C_drew ?_))); (case side2 => exact HC0.out); (case side3 => repeat (first | exact (Kd.V_reads' HO_1.out).2.2 | (with_reducible refine Kd.C_alloc ?_ _) | (with_reducible refine Kd.C_drewN ?_ _) | (with_reducible refine Kd.C_drew ?_))); (case side4 => exact (Kd.V_reads' HO_1.out).2.1); (case side5 => repeat (first | exact (Kd.V_reads' HO_2.out).2.2 | (with_reducible refine Kd.C_alloc ?_ _) | (with_reducible refine Kd.C_drewN ?_ _) | (with_reducible refine Kd.C_drew ?_))); (case side6 => exact (Kd.V_reads' HO_2.out).2.1); rintro e w' ⟨rfl, ⟨nd, rfl⟩⟩; refine ⟨_, rfl, ?_⟩) | (go_at_call 15; (with_reducible refine (credenzaref14_Gather.calls kj3 _ _ l0 _ _ l1 _ _ l2 t286 _ ?side1 ?side2 ?side3 ?side4 ?side5 ?side6 A20.out).mono ?_); (case side1 => repeat (first | exact (Kd.C_below HR0.out (by repeat (first | (with_reducible first | exact HB.out | apply below_alloc | apply pw_below_drewN | apply below_drew1) | exact HB.out))) | (with_reducible refine Kd.C_alloc ?_ _) | (with_reducible refine Kd.C_drewN ?_ _) | (with_reducible refine Kd.C_drew ?_))); (case side2 => exact HC0.out); (case side3 => repeat (first | exact (Kd.V_reads' HO_1.out).2.2 | (with_reducible refine Kd.C_alloc ?_ _) | (with_reducible refine Kd.C_drewN ?_ _) | (with_reducible refine Kd.C_drew ?_))); (case side4 => exact (Kd.V_reads' HO_1.out).2.1); (case side5 => repeat (first | exact (Kd.V_reads' HO_2.out).2.2 | (with_reducible refine Kd.C_alloc ?_ _) | (with_reducible refine Kd.C_drewN ?_ _) | (with_reducible refine Kd.C_drew ?_))); (case side6 => exact (Kd.V_reads' HO_2.out).2.1); rintro e w25 ⟨v287, rfl, ho0, hb⟩; have n0_ := Aside0.mk (Kd.V_elder' (by (with_reducible repeat (first | apply Kd.V_alloc | apply Kd.V_drewN | apply Kd.V_drew)); exact HO_1.out) (Kd.R_base ho0) hb); have n1_ := Aside0.mk (Kd.V_elder' (by (with_reducible repeat (first | apply Kd.V_alloc | apply Kd.V_drewN | apply Kd.V_drew)); exact HO_2.out) (Kd.R_base ho0) hb); have n2_ := Aside0.mk (Kd.R_elder' (by (with_reducible repeat (first | apply Kd.R_alloc | apply Kd.R_drewN | apply Kd.R_drew)); exact HO284.out) (Kd.R_base ho0) hb); have n3_ := Aside0.mk (Kd.R_lower (Kd.R_new' (Kd.R_newM (M := fun k_ => (w.heap.size ≤ k_)) ho0 (below_size (by repeat (first | (with_reducible first | exact HB.out | apply below_alloc | apply pw_below_drewN | apply below_drew1) | exact HB.out))) (fun k_ h_ => h_)) (Kd.R_lt (by (with_reducible repeat (first | apply Kd.R_alloc | apply Kd.R_drewN | apply Kd.R_drew)); exact HO284.out))) (below_size (by repeat (first | (with_reducible first | exact HB.out | apply below_alloc | apply pw_below_drewN | apply below_drew1) | exact HB.out)))); have n4_ := Aside0.mk (below_step (by repeat (first | (with_reducible first | exact HB.out | apply below_alloc | apply pw_below_drewN | apply below_drew1) | exact HB.out)) hb); clear HO_1; clear HO_2; clear HO284; clear HB; have HO_1 := n0_; have HO_2 := n1_; have HO284 := n2_; have HO288 := n3_; have HB := n4_; clear n0_ n1_ n2_ n3_ n4_; (try clear hb); (try clear hb2); (try clear hk); (try clear hi); (try clear ho0); obtain ⟨Ao26, co26, eo26⟩ := Kd.R_slice HO284.out; subst eo26; obtain ⟨Ao27, co27, eo27⟩ := Kd.R_slice HO288.out; subst eo27) | (go_at_call 14; (with_reducible refine (credenzaref03_Same.calls kj3 _ _ t281 _ _ t286 true _ ?side1 ?side2 ?side3 ?side4 A21.out).mono ?_); (case side1 => repeat (first | exact (Kd.R_reads' HO284.out).2.2 | (with_reducible refine Kd.C_alloc ?_ _) | (with_reducible refine Kd.C_drewN ?_ _) | (with_reducible refine Kd.C_drew ?_))); (case side2 => exact (Kd.R_reads' HO284.out).2.1); (case side3 => repeat (first | exact (Kd.R_reads' HO288.out).2.2 | (with_reducible refine Kd.C_alloc ?_ _) | (with_reducible refine Kd.C_drewN ?_ _) | (with_reducible refine Kd.C_drew ?_))); (case side4 => exact (Kd.R_reads' HO288.out).2.1); rintro e w' ⟨rfl, ⟨nd, rfl⟩⟩) | (go_at_call 8; (with_reducible refine (credenzalaw14_awake.calls kj3  t290 _ A23.out).mono ?_); rintro e w28 ⟨rfl, hb⟩; have n0_ := Aside0.mk (Kd.V_below (by (with_reducible repeat (first | apply Kd.V_alloc | apply Kd.V_drewN | apply Kd.V_drew)); exact HO_1.out) hb); have n1_ := Aside0.mk (Kd.V_below (by (with_reducible repeat (first | apply Kd.V_alloc | apply Kd.V_drewN | apply Kd.V_drew)); exact HO_2.out) hb); have n2_ := Aside0.mk (Kd.R_below (by (with_reducible repeat (first | apply Kd.R_alloc | apply Kd.R_drewN | apply Kd.R_drew)); exact HO284.out) hb); have n3_ := Aside0.mk (Kd.R_below (by (with_reducible repeat (first | apply Kd.R_alloc | apply Kd.R_drewN | apply Kd.R_drew)); exact HO288.out) hb); have n4_ := Aside0.mk (below_step (by repeat (first | (with_reducible first | exact HB.out | apply below_alloc | apply pw_below_drewN | apply below_drew1) | exact HB.out)) hb); clear HO_1; clear HO_2; clear HO284; clear HO288; clear HB; have HO_1 := n0_; have HO_2 := n1_; have HO284 := n2_; have HO288 := n3_; have HB := n4_; clear n0_ n1_ n2_ n3_ n4_; (try clear hb); (try clear hb2); (try clear hk); (try clear hi)))
              go_ret
              exact ⟨by first | rfl | (simp [errW_none, errW_some] <;> rfl) | (simp [*, errW_none, errW_some] <;> rfl), by repeat (first | (with_reducible first | exact HB.out | apply below_alloc | apply pw_below_drewN | apply below_drew1) | exact HB.out)⟩
            · replace c22 := Bool.eq_false_iff.mpr c22
              subst c22
              have H1 : (some false) = some r := by rw [if_neg (show ¬ (false = true) by decide)] at H; exact H
              clear H
              have H := H1
              clear H1
              obtain rfl := Option.some.inj H
              go_wp2_with (first | ((with_reducible refine gate_callee (f := 12) rfl ?_); refine goesL_ (some 25) rfl rfl Try.func12 (by kernel_rfl) rfl #[.slice A0 l0.length c0, .slice A1 l1.length c1, .slice A2 l2.length c2] rfl (by (try simp only [List.map_toArray, List.map_cons, List.map_nil]); first | done | rfl | (simp only [List.length_drop, List.length_take]; rfl)) ?_; (with_reducible refine (attn_Gather.calls kj3 _ _ l0 _ _ l1 _ _ l2 t281 t282 _ ?side1 ?side2 ?side3 ?side4 ?side5 ?side6 A16.out).mono ?_); (case side1 => repeat (first | exact (Kd.C_below HR0.out HB.out) | (with_reducible refine Kd.C_alloc ?_ _) | (with_reducible refine Kd.C_drewN ?_ _) | (with_reducible refine Kd.C_drew ?_))); (case side2 => exact HC0.out); (case side3 => repeat (first | exact (Kd.V_reads' HO_1.out).2.2 | (with_reducible refine Kd.C_alloc ?_ _) | (with_reducible refine Kd.C_drewN ?_ _) | (with_reducible refine Kd.C_drew ?_))); (case side4 => exact (Kd.V_reads' HO_1.out).2.1); (case side5 => repeat (first | exact (Kd.V_reads' HO_2.out).2.2 | (with_reducible refine Kd.C_alloc ?_ _) | (with_reducible refine Kd.C_drewN ?_ _) | (with_reducible refine Kd.C_drew ?_))); (case side6 => exact (Kd.V_reads' HO_2.out).2.1); rintro e w29 ⟨v283, rfl, ho0, hb⟩; refine ⟨_, rfl, ?_⟩; have n0_ := Aside0.mk (Kd.V_elder' (by (with_reducible repeat (first | apply Kd.V_alloc | apply Kd.V_drewN | apply Kd.V_drew)); exact HO_1.out) (Kd.R_base ho0) hb); have n1_ := Aside0.mk (Kd.V_elder' (by (with_reducible repeat (first | apply Kd.V_alloc | apply Kd.V_drewN | apply Kd.V_drew)); exact HO_2.out) (Kd.R_base ho0) hb); have n2_ := Aside0.mk (Kd.R_lower (Kd.R_newM (M := fun k_ => (w.heap.size ≤ k_)) ho0 (below_size (by repeat (first | (with_reducible first | exact HB.out | apply below_alloc | apply pw_below_drewN | apply below_drew1) | exact HB.out))) (fun k_ h_ => h_)) (below_size (by repeat (first | (with_reducible first | exact HB.out | apply below_alloc | apply pw_below_drewN | apply below_drew1) | exact HB.out)))); have n3_ := Aside0.mk (below_step (by repeat (first | (with_reducible first | exact HB.out | apply below_alloc | apply pw_below_drewN | apply below_drew1) | exact HB.out)) hb); clear HO_1; clear HO_2; clear HB; have HO_1 := n0_; have HO_2 := n1_; have HO284 := n2_; have HB := n3_; clear n0_ n1_ n2_ n3_; (try clear hb); (try clear hb2); (try clear hk); (try clear hi); (try clear ho0)) | ((with_reducible refine gate_callee (f := 13) rfl ?_); refine goesL_ (some 31) rfl rfl Try.func13 (by kernel_rfl) rfl #[.slice A0 l0.length c0, .slice A1 l1.length c1, .slice A2 l2.length c2] rfl (by (try simp only [List.map_toArray, List.map_cons, List.map_nil]); first | done | rfl | (simp only [List.length_drop, List.length_take]; rfl)) ?_; (with_reducible refine (credenzaref14_Right.calls kj3 _ _ l0 _ _ l1 _ _ l2 t285 _ ?side1 ?side2 ?side3 ?side4 ?side5 ?side6 A17.out).mono ?_); (case side1 => repeat (first | exact (Kd.C_below HR0.out HB.out) | (with_reducible refine Kd.C_alloc ?_ _) | (with_reducible refine Kd.C_drewN ?_ _) | (with_reducible refine Kd.C_drew ?_))); (case side2 => exact HC0.out); (case side3 => repeat (first | exact (Kd.V_reads' HO_1.out).2.2 | (with_reducible refine Kd.C_alloc ?_ _) | (with_reducible refine Kd.C_drewN ?_ _) | (with_reducible refine Kd.C_drew ?_))); (case side4 => exact (Kd.V_reads' HO_1.out).2.1); (case side5 => repeat (first | exact (Kd.V_reads' HO_2.out).2.2 | (with_reducible refine Kd.C_alloc ?_ _) | (with_reducible refine Kd.C_drewN ?_ _) | (with_reducible refine Kd.C_drew ?_))); (case side6 => exact (Kd.V_reads' HO_2.out).2.1); rintro e w' ⟨rfl, ⟨nd, rfl⟩⟩; refine ⟨_, rfl, ?_⟩) | (go_at_call 15; (with_reducible refine (credenzaref14_Gather.calls kj3 _ _ l0 _ _ l1 _ _ l2 t286 _ ?side1 ?side2 ?side3 ?side4 ?side5 ?side6 A20.out).mono ?_); (case side1 => repeat (first | exact (Kd.C_below HR0.out (by repeat (first | (with_reducible first | exact HB.out | apply below_alloc | apply pw_below_drewN | apply below_drew1) | exact HB.out))) | (with_reducible refine Kd.C_alloc ?_ _) | (with_reducible refine Kd.C_drewN ?_ _) | (with_reducible refine Kd.C_drew ?_))); (case side2 => exact HC0.out); (case side3 => repeat (first | exact (Kd.V_reads' HO_1.out).2.2 | (with_reducible refine Kd.C_alloc ?_ _) | (with_reducible refine Kd.C_drewN ?_ _) | (with_reducible refine Kd.C_drew ?_))); (case side4 => exact (Kd.V_reads' HO_1.out).2.1); (case side5 => repeat (first | exact (Kd.V_reads' HO_2.out).2.2 | (with_reducible refine Kd.C_alloc ?_ _) | (with_reducible refine Kd.C_drewN ?_ _) | (with_reducible refine Kd.C_drew ?_))); (case side6 => exact (Kd.V_reads' HO_2.out).2.1); rintro e w30 ⟨v287, rfl, ho0, hb⟩; have n0_ := Aside0.mk (Kd.V_elder' (by (with_reducible repeat (first | apply Kd.V_alloc | apply Kd.V_drewN | apply Kd.V_drew)); exact HO_1.out) (Kd.R_base ho0) hb); have n1_ := Aside0.mk (Kd.V_elder' (by (with_reducible repeat (first | apply Kd.V_alloc | apply Kd.V_drewN | apply Kd.V_drew)); exact HO_2.out) (Kd.R_base ho0) hb); have n2_ := Aside0.mk (Kd.R_elder' (by (with_reducible repeat (first | apply Kd.R_alloc | apply Kd.R_drewN | apply Kd.R_drew)); exact HO284.out) (Kd.R_base ho0) hb); have n3_ := Aside0.mk (Kd.R_lower (Kd.R_new' (Kd.R_newM (M := fun k_ => (w.heap.size ≤ k_)) ho0 (below_size (by repeat (first | (with_reducible first | exact HB.out | apply below_alloc | apply pw_below_drewN | apply below_drew1) | exact HB.out))) (fun k_ h_ => h_)) (Kd.R_lt (by (with_reducible repeat (first | apply Kd.R_alloc | apply Kd.R_drewN | apply Kd.R_drew)); exact HO284.out))) (below_size (by repeat (first | (with_reducible first | exact HB.out | apply below_alloc | apply pw_below_drewN | apply below_drew1) | exact HB.out)))); have n4_ := Aside0.mk (below_step (by repeat (first | (with_reducible first | exact HB.out | apply below_alloc | apply pw_below_drewN | apply below_drew1) | exact HB.out)) hb); clear HO_1; clear HO_2; clear HO284; clear HB; have HO_1 := n0_; have HO_2 := n1_; have HO284 := n2_; have HO288 := n3_; have HB := n4_; clear n0_ n1_ n2_ n3_ n4_; (try clear hb); (try clear hb2); (try clear hk); (try clear hi); (try clear ho0); obtain ⟨Ao31, co31, eo31⟩ := Kd.R_slice HO284.out; subst eo31; obtain ⟨Ao32, co32, eo32⟩ := Kd.R_slice HO288.out; subst eo32) | (go_at_call 14; (with_reducible refine (credenzaref03_Same.calls kj3 _ _ t281 _ _ t286 false _ ?side1 ?side2 ?side3 ?side4 A21.out).mono ?_); (case side1 => repeat (first | exact (Kd.R_reads' HO284.out).2.2 | (with_reducible refine Kd.C_alloc ?_ _) | (with_reducible refine Kd.C_drewN ?_ _) | (with_reducible refine Kd.C_drew ?_))); (case side2 => exact (Kd.R_reads' HO284.out).2.1); (case side3 => repeat (first | exact (Kd.R_reads' HO288.out).2.2 | (with_reducible refine Kd.C_alloc ?_ _) | (with_reducible refine Kd.C_drewN ?_ _) | (with_reducible refine Kd.C_drew ?_))); (case side4 => exact (Kd.R_reads' HO288.out).2.1); rintro e w' ⟨rfl, ⟨nd, rfl⟩⟩))
              go_ret
              exact ⟨by first | rfl | (simp [errW_none, errW_some] <;> rfl) | (simp [*, errW_none, errW_some] <;> rfl), by repeat (first | (with_reducible first | exact HB.out | apply below_alloc | apply pw_below_drewN | apply below_drew1) | exact HB.out)⟩
          · rw [if_neg c19] at H
            have c19b0 : (t282 == 0) = false := beq_eq_false_iff_ne.mpr c19
            have c19b1 : (t282 != 0) = true := bne_iff_ne.mpr c19
            obtain rfl := Option.some.inj H
            go_wp2_with (first | ((with_reducible refine gate_callee (f := 12) rfl ?_); refine goesL_ (some 25) rfl rfl Try.func12 (by kernel_rfl) rfl #[.slice A0 l0.length c0, .slice A1 l1.length c1, .slice A2 l2.length c2] rfl (by (try simp only [List.map_toArray, List.map_cons, List.map_nil]); first | done | rfl | (simp only [List.length_drop, List.length_take]; rfl)) ?_; (with_reducible refine (attn_Gather.calls kj3 _ _ l0 _ _ l1 _ _ l2 t281 t282 _ ?side1 ?side2 ?side3 ?side4 ?side5 ?side6 A16.out).mono ?_); (case side1 => repeat (first | exact (Kd.C_below HR0.out HB.out) | (with_reducible refine Kd.C_alloc ?_ _) | (with_reducible refine Kd.C_drewN ?_ _) | (with_reducible refine Kd.C_drew ?_))); (case side2 => exact HC0.out); (case side3 => repeat (first | exact (Kd.V_reads' HO_1.out).2.2 | (with_reducible refine Kd.C_alloc ?_ _) | (with_reducible refine Kd.C_drewN ?_ _) | (with_reducible refine Kd.C_drew ?_))); (case side4 => exact (Kd.V_reads' HO_1.out).2.1); (case side5 => repeat (first | exact (Kd.V_reads' HO_2.out).2.2 | (with_reducible refine Kd.C_alloc ?_ _) | (with_reducible refine Kd.C_drewN ?_ _) | (with_reducible refine Kd.C_drew ?_))); (case side6 => exact (Kd.V_reads' HO_2.out).2.1); rintro e w33 ⟨v283, rfl, ho0, hb⟩; refine ⟨_, rfl, ?_⟩; have n0_ := Aside0.mk (Kd.V_elder' (by (with_reducible repeat (first | apply Kd.V_alloc | apply Kd.V_drewN | apply Kd.V_drew)); exact HO_1.out) (Kd.R_base ho0) hb); have n1_ := Aside0.mk (Kd.V_elder' (by (with_reducible repeat (first | apply Kd.V_alloc | apply Kd.V_drewN | apply Kd.V_drew)); exact HO_2.out) (Kd.R_base ho0) hb); have n2_ := Aside0.mk (Kd.R_lower (Kd.R_newM (M := fun k_ => (w.heap.size ≤ k_)) ho0 (below_size (by repeat (first | (with_reducible first | exact HB.out | apply below_alloc | apply pw_below_drewN | apply below_drew1) | exact HB.out))) (fun k_ h_ => h_)) (below_size (by repeat (first | (with_reducible first | exact HB.out | apply below_alloc | apply pw_below_drewN | apply below_drew1) | exact HB.out)))); have n3_ := Aside0.mk (below_step (by repeat (first | (with_reducible first | exact HB.out | apply below_alloc | apply pw_below_drewN | apply below_drew1) | exact HB.out)) hb); clear HO_1; clear HO_2; clear HB; have HO_1 := n0_; have HO_2 := n1_; have HO284 := n2_; have HB := n3_; clear n0_ n1_ n2_ n3_; (try clear hb); (try clear hb2); (try clear hk); (try clear hi); (try clear ho0)) | ((with_reducible refine gate_callee (f := 13) rfl ?_); refine goesL_ (some 31) rfl rfl Try.func13 (by kernel_rfl) rfl #[.slice A0 l0.length c0, .slice A1 l1.length c1, .slice A2 l2.length c2] rfl (by (try simp only [List.map_toArray, List.map_cons, List.map_nil]); first | done | rfl | (simp only [List.length_drop, List.length_take]; rfl)) ?_; (with_reducible refine (credenzaref14_Right.calls kj3 _ _ l0 _ _ l1 _ _ l2 t285 _ ?side1 ?side2 ?side3 ?side4 ?side5 ?side6 A17.out).mono ?_); (case side1 => repeat (first | exact (Kd.C_below HR0.out HB.out) | (with_reducible refine Kd.C_alloc ?_ _) | (with_reducible refine Kd.C_drewN ?_ _) | (with_reducible refine Kd.C_drew ?_))); (case side2 => exact HC0.out); (case side3 => repeat (first | exact (Kd.V_reads' HO_1.out).2.2 | (with_reducible refine Kd.C_alloc ?_ _) | (with_reducible refine Kd.C_drewN ?_ _) | (with_reducible refine Kd.C_drew ?_))); (case side4 => exact (Kd.V_reads' HO_1.out).2.1); (case side5 => repeat (first | exact (Kd.V_reads' HO_2.out).2.2 | (with_reducible refine Kd.C_alloc ?_ _) | (with_reducible refine Kd.C_drewN ?_ _) | (with_reducible refine Kd.C_drew ?_))); (case side6 => exact (Kd.V_reads' HO_2.out).2.1); rintro e w' ⟨rfl, ⟨nd, rfl⟩⟩; refine ⟨_, rfl, ?_⟩))
            go_ret
            exact ⟨by first | rfl | (simp [errW_none, errW_some] <;> rfl) | (simp [*, errW_none, errW_some] <;> rfl), by repeat (first | (with_reducible first | exact HB.out | apply below_alloc | apply pw_below_drewN | apply below_drew1) | exact HB.out)⟩
        · rw [if_neg c18] at H
          have c18b0 : (t285 == 0) = false := beq_eq_false_iff_ne.mpr c18
          have c18b1 : (t285 != 0) = true := bne_iff_ne.mpr c18
          by_cases c34 : t282 = t285
          · rw [if_pos c34] at H
            have c34b0 : (t282 == t285) = true := beq_iff_eq.mpr c34
            have c34b1 : (t282 != t285) = false := bne_eq_false_iff_eq.mpr c34
            clear c34
            by_cases c35 : (t281.length : Int) = 0
            · rw [if_pos c35] at H
              have c35b0 : ((t281.length : Int) == 0) = true := beq_iff_eq.mpr c35
              have c35b1 : ((t281.length : Int) != 0) = false := bne_eq_false_iff_eq.mpr c35
              clear c35
              replace H := Option.bind_eq_some_iff.mp H
              obtain ⟨t291, A360, H⟩ := H
              replace H : (some t291) = some r := H
              have A36 := Aside0.mk A360
              clear A360
              obtain rfl := Option.some.inj H
              go_wp2_with (first | ((with_reducible refine gate_callee (f := 12) rfl ?_); refine goesL_ (some 25) rfl rfl Try.func12 (by kernel_rfl) rfl #[.slice A0 l0.length c0, .slice A1 l1.length c1, .slice A2 l2.length c2] rfl (by (try simp only [List.map_toArray, List.map_cons, List.map_nil]); first | done | rfl | (simp only [List.length_drop, List.length_take]; rfl)) ?_; (with_reducible refine (attn_Gather.calls kj3 _ _ l0 _ _ l1 _ _ l2 t281 t282 _ ?side1 ?side2 ?side3 ?side4 ?side5 ?side6 A16.out).mono ?_); (case side1 => repeat (first | exact (Kd.C_below HR0.out HB.out) | (with_reducible refine Kd.C_alloc ?_ _) | (with_reducible refine Kd.C_drewN ?_ _) | (with_reducible refine Kd.C_drew ?_))); (case side2 => exact HC0.out); (case side3 => repeat (first | exact (Kd.V_reads' HO_1.out).2.2 | (with_reducible refine Kd.C_alloc ?_ _) | (with_reducible refine Kd.C_drewN ?_ _) | (with_reducible refine Kd.C_drew ?_))); (case side4 => exact (Kd.V_reads' HO_1.out).2.1); (case side5 => repeat (first | exact (Kd.V_reads' HO_2.out).2.2 | (with_reducible refine Kd.C_alloc ?_ _) | (with_reducible refine Kd.C_drewN ?_ _) | (with_reducible refine Kd.C_drew ?_))); (case side6 => exact (Kd.V_reads' HO_2.out).2.1); rintro e w37 ⟨v283, rfl, ho0, hb⟩; refine ⟨_, rfl, ?_⟩; have n0_ := Aside0.mk (Kd.V_elder' (by (with_reducible repeat (first | apply Kd.V_alloc | apply Kd.V_drewN | apply Kd.V_drew)); exact HO_1.out) (Kd.R_base ho0) hb); have n1_ := Aside0.mk (Kd.V_elder' (by (with_reducible repeat (first | apply Kd.V_alloc | apply Kd.V_drewN | apply Kd.V_drew)); exact HO_2.out) (Kd.R_base ho0) hb); have n2_ := Aside0.mk (Kd.R_lower (Kd.R_newM (M := fun k_ => (w.heap.size ≤ k_)) ho0 (below_size (by repeat (first | (with_reducible first | exact HB.out | apply below_alloc | apply pw_below_drewN | apply below_drew1) | exact HB.out))) (fun k_ h_ => h_)) (below_size (by repeat (first | (with_reducible first | exact HB.out | apply below_alloc | apply pw_below_drewN | apply below_drew1) | exact HB.out)))); have n3_ := Aside0.mk (below_step (by repeat (first | (with_reducible first | exact HB.out | apply below_alloc | apply pw_below_drewN | apply below_drew1) | exact HB.out)) hb); clear HO_1; clear HO_2; clear HB; have HO_1 := n0_; have HO_2 := n1_; have HO284 := n2_; have HB := n3_; clear n0_ n1_ n2_ n3_; (try clear hb); (try clear hb2); (try clear hk); (try clear hi); (try clear ho0)) | ((with_reducible refine gate_callee (f := 13) rfl ?_); refine goesL_ (some 31) rfl rfl Try.func13 (by kernel_rfl) rfl #[.slice A0 l0.length c0, .slice A1 l1.length c1, .slice A2 l2.length c2] rfl (by (try simp only [List.map_toArray, List.map_cons, List.map_nil]); first | done | rfl | (simp only [List.length_drop, List.length_take]; rfl)) ?_; (with_reducible refine (credenzaref14_Right.calls kj3 _ _ l0 _ _ l1 _ _ l2 t285 _ ?side1 ?side2 ?side3 ?side4 ?side5 ?side6 A17.out).mono ?_); (case side1 => repeat (first | exact (Kd.C_below HR0.out HB.out) | (with_reducible refine Kd.C_alloc ?_ _) | (with_reducible refine Kd.C_drewN ?_ _) | (with_reducible refine Kd.C_drew ?_))); (case side2 => exact HC0.out); (case side3 => repeat (first | exact (Kd.V_reads' HO_1.out).2.2 | (with_reducible refine Kd.C_alloc ?_ _) | (with_reducible refine Kd.C_drewN ?_ _) | (with_reducible refine Kd.C_drew ?_))); (case side4 => exact (Kd.V_reads' HO_1.out).2.1); (case side5 => repeat (first | exact (Kd.V_reads' HO_2.out).2.2 | (with_reducible refine Kd.C_alloc ?_ _) | (with_reducible refine Kd.C_drewN ?_ _) | (with_reducible refine Kd.C_drew ?_))); (case side6 => exact (Kd.V_reads' HO_2.out).2.1); rintro e w' ⟨rfl, ⟨nd, rfl⟩⟩; refine ⟨_, rfl, ?_⟩; obtain ⟨Ao38, co38, eo38⟩ := Kd.R_slice HO284.out; subst eo38) | (go_at_call 8; (with_reducible refine (credenzalaw14_awake.calls kj3  t291 _ A36.out).mono ?_); rintro e w39 ⟨rfl, hb⟩; have n0_ := Aside0.mk (Kd.V_below (by (with_reducible repeat (first | apply Kd.V_alloc | apply Kd.V_drewN | apply Kd.V_drew)); exact HO_1.out) hb); have n1_ := Aside0.mk (Kd.V_below (by (with_reducible repeat (first | apply Kd.V_alloc | apply Kd.V_drewN | apply Kd.V_drew)); exact HO_2.out) hb); have n2_ := Aside0.mk (Kd.R_below (by (with_reducible repeat (first | apply Kd.R_alloc | apply Kd.R_drewN | apply Kd.R_drew)); exact HO284.out) hb); have n3_ := Aside0.mk (below_step (by repeat (first | (with_reducible first | exact HB.out | apply below_alloc | apply pw_below_drewN | apply below_drew1) | exact HB.out)) hb); clear HO_1; clear HO_2; clear HO284; clear HB; have HO_1 := n0_; have HO_2 := n1_; have HO284 := n2_; have HB := n3_; clear n0_ n1_ n2_ n3_; (try clear hb); (try clear hb2); (try clear hk); (try clear hi)))
              go_ret
              exact ⟨by first | rfl | (simp [errW_none, errW_some] <;> rfl) | (simp [*, errW_none, errW_some] <;> rfl), by repeat (first | (with_reducible first | exact HB.out | apply below_alloc | apply pw_below_drewN | apply below_drew1) | exact HB.out)⟩
            · rw [if_neg c35] at H
              have c35b0 : ((t281.length : Int) == 0) = false := beq_eq_false_iff_ne.mpr c35
              have c35b1 : ((t281.length : Int) != 0) = true := bne_iff_ne.mpr c35
              have c35b2 : ¬ (t281 = []) := fun h_ => c35 (by rw [h_]; rfl)
              obtain rfl := Option.some.inj H
              go_wp2_with (first | ((with_reducible refine gate_callee (f := 12) rfl ?_); refine goesL_ (some 25) rfl rfl Try.func12 (by kernel_rfl) rfl #[.slice A0 l0.length c0, .slice A1 l1.length c1, .slice A2 l2.length c2] rfl (by (try simp only [List.map_toArray, List.map_cons, List.map_nil]); first | done | rfl | (simp only [List.length_drop, List.length_take]; rfl)) ?_; (with_reducible refine (attn_Gather.calls kj3 _ _ l0 _ _ l1 _ _ l2 t281 t282 _ ?side1 ?side2 ?side3 ?side4 ?side5 ?side6 A16.out).mono ?_); (case side1 => repeat (first | exact (Kd.C_below HR0.out HB.out) | (with_reducible refine Kd.C_alloc ?_ _) | (with_reducible refine Kd.C_drewN ?_ _) | (with_reducible refine Kd.C_drew ?_))); (case side2 => exact HC0.out); (case side3 => repeat (first | exact (Kd.V_reads' HO_1.out).2.2 | (with_reducible refine Kd.C_alloc ?_ _) | (with_reducible refine Kd.C_drewN ?_ _) | (with_reducible refine Kd.C_drew ?_))); (case side4 => exact (Kd.V_reads' HO_1.out).2.1); (case side5 => repeat (first | exact (Kd.V_reads' HO_2.out).2.2 | (with_reducible refine Kd.C_alloc ?_ _) | (with_reducible refine Kd.C_drewN ?_ _) | (with_reducible refine Kd.C_drew ?_))); (case side6 => exact (Kd.V_reads' HO_2.out).2.1); rintro e w40 ⟨v283, rfl, ho0, hb⟩; refine ⟨_, rfl, ?_⟩; have n0_ := Aside0.mk (Kd.V_elder' (by (with_reducible repeat (first | apply Kd.V_alloc | apply Kd.V_drewN | apply Kd.V_drew)); exact HO_1.out) (Kd.R_base ho0) hb); have n1_ := Aside0.mk (Kd.V_elder' (by (with_reducible repeat (first | apply Kd.V_alloc | apply Kd.V_drewN | apply Kd.V_drew)); exact HO_2.out) (Kd.R_base ho0) hb); have n2_ := Aside0.mk (Kd.R_lower (Kd.R_newM (M := fun k_ => (w.heap.size ≤ k_)) ho0 (below_size (by repeat (first | (with_reducible first | exact HB.out | apply below_alloc | apply pw_below_drewN | apply below_drew1) | exact HB.out))) (fun k_ h_ => h_)) (below_size (by repeat (first | (with_reducible first | exact HB.out | apply below_alloc | apply pw_below_drewN | apply below_drew1) | exact HB.out)))); have n3_ := Aside0.mk (below_step (by repeat (first | (with_reducible first | exact HB.out | apply below_alloc | apply pw_below_drewN | apply below_drew1) | exact HB.out)) hb); clear HO_1; clear HO_2; clear HB; have HO_1 := n0_; have HO_2 := n1_; have HO284 := n2_; have HB := n3_; clear n0_ n1_ n2_ n3_; (try clear hb); (try clear hb2); (try clear hk); (try clear hi); (try clear ho0)) | ((with_reducible refine gate_callee (f := 13) rfl ?_); refine goesL_ (some 31) rfl rfl Try.func13 (by kernel_rfl) rfl #[.slice A0 l0.length c0, .slice A1 l1.length c1, .slice A2 l2.length c2] rfl (by (try simp only [List.map_toArray, List.map_cons, List.map_nil]); first | done | rfl | (simp only [List.length_drop, List.length_take]; rfl)) ?_; (with_reducible refine (credenzaref14_Right.calls kj3 _ _ l0 _ _ l1 _ _ l2 t285 _ ?side1 ?side2 ?side3 ?side4 ?side5 ?side6 A17.out).mono ?_); (case side1 => repeat (first | exact (Kd.C_below HR0.out HB.out) | (with_reducible refine Kd.C_alloc ?_ _) | (with_reducible refine Kd.C_drewN ?_ _) | (with_reducible refine Kd.C_drew ?_))); (case side2 => exact HC0.out); (case side3 => repeat (first | exact (Kd.V_reads' HO_1.out).2.2 | (with_reducible refine Kd.C_alloc ?_ _) | (with_reducible refine Kd.C_drewN ?_ _) | (with_reducible refine Kd.C_drew ?_))); (case side4 => exact (Kd.V_reads' HO_1.out).2.1); (case side5 => repeat (first | exact (Kd.V_reads' HO_2.out).2.2 | (with_reducible refine Kd.C_alloc ?_ _) | (with_reducible refine Kd.C_drewN ?_ _) | (with_reducible refine Kd.C_drew ?_))); (case side6 => exact (Kd.V_reads' HO_2.out).2.1); rintro e w' ⟨rfl, ⟨nd, rfl⟩⟩; refine ⟨_, rfl, ?_⟩; obtain ⟨Ao41, co41, eo41⟩ := Kd.R_slice HO284.out; subst eo41))
              go_ret
              exact ⟨by first | rfl | (simp [errW_none, errW_some] <;> rfl) | (simp [*, errW_none, errW_some] <;> rfl), by repeat (first | (with_reducible first | exact HB.out | apply below_alloc | apply pw_below_drewN | apply below_drew1) | exact HB.out)⟩
          · rw [if_neg c34] at H
            have c34b0 : (t282 == t285) = false := beq_eq_false_iff_ne.mpr c34
            have c34b1 : (t282 != t285) = true := bne_iff_ne.mpr c34
            obtain rfl := Option.some.inj H
            go_wp2_with (first | ((with_reducible refine gate_callee (f := 12) rfl ?_); refine goesL_ (some 25) rfl rfl Try.func12 (by kernel_rfl) rfl #[.slice A0 l0.length c0, .slice A1 l1.length c1, .slice A2 l2.length c2] rfl (by (try simp only [List.map_toArray, List.map_cons, List.map_nil]); first | done | rfl | (simp only [List.length_drop, List.length_take]; rfl)) ?_; (with_reducible refine (attn_Gather.calls kj3 _ _ l0 _ _ l1 _ _ l2 t281 t282 _ ?side1 ?side2 ?side3 ?side4 ?side5 ?side6 A16.out).mono ?_); (case side1 => repeat (first | exact (Kd.C_below HR0.out HB.out) | (with_reducible refine Kd.C_alloc ?_ _) | (with_reducible refine Kd.C_drewN ?_ _) | (with_reducible refine Kd.C_drew ?_))); (case side2 => exact HC0.out); (case side3 => repeat (first | exact (Kd.V_reads' HO_1.out).2.2 | (with_reducible refine Kd.C_alloc ?_ _) | (with_reducible refine Kd.C_drewN ?_ _) | (with_reducible refine Kd.C_drew ?_))); (case side4 => exact (Kd.V_reads' HO_1.out).2.1); (case side5 => repeat (first | exact (Kd.V_reads' HO_2.out).2.2 | (with_reducible refine Kd.C_alloc ?_ _) | (with_reducible refine Kd.C_drewN ?_ _) | (with_reducible refine Kd.C_drew ?_))); (case side6 => exact (Kd.V_reads' HO_2.out).2.1); rintro e w42 ⟨v283, rfl, ho0, hb⟩; refine ⟨_, rfl, ?_⟩; have n0_ := Aside0.mk (Kd.V_elder' (by (with_reducible repeat (first | apply Kd.V_alloc | apply Kd.V_drewN | apply Kd.V_drew)); exact HO_1.out) (Kd.R_base ho0) hb); have n1_ := Aside0.mk (Kd.V_elder' (by (with_reducible repeat (first | apply Kd.V_alloc | apply Kd.V_drewN | apply Kd.V_drew)); exact HO_2.out) (Kd.R_base ho0) hb); have n2_ := Aside0.mk (Kd.R_lower (Kd.R_newM (M := fun k_ => (w.heap.size ≤ k_)) ho0 (below_size (by repeat (first | (with_reducible first | exact HB.out | apply below_alloc | apply pw_below_drewN | apply below_drew1) | exact HB.out))) (fun k_ h_ => h_)) (below_size (by repeat (first | (with_reducible first | exact HB.out | apply below_alloc | apply pw_below_drewN | apply below_drew1) | exact HB.out)))); have n3_ := Aside0.mk (below_step (by repeat (first | (with_reducible first | exact HB.out | apply below_alloc | apply pw_below_drewN | apply below_drew1) | exact HB.out)) hb); clear HO_1; clear HO_2; clear HB; have HO_1 := n0_; have HO_2 := n1_; have HO284 := n2_; have HB := n3_; clear n0_ n1_ n2_ n3_; (try clear hb); (try clear hb2); (try clear hk); (try clear hi); (try clear ho0)) | ((with_reducible refine gate_callee (f := 13) rfl ?_); refine goesL_ (some 31) rfl rfl Try.func13 (by kernel_rfl) rfl #[.slice A0 l0.length c0, .slice A1 l1.length c1, .slice A2 l2.length c2] rfl (by (try simp only [List.map_toArray, List.map_cons, List.map_nil]); first | done | rfl | (simp only [List.length_drop, List.length_take]; rfl)) ?_; (with_reducible refine (credenzaref14_Right.calls kj3 _ _ l0 _ _ l1 _ _ l2 t285 _ ?side1 ?side2 ?side3 ?side4 ?side5 ?side6 A17.out).mono ?_); (case side1 => repeat (first | exact (Kd.C_below HR0.out HB.out) | (with_reducible refine Kd.C_alloc ?_ _) | (with_reducible refine Kd.C_drewN ?_ _) | (with_reducible refine Kd.C_drew ?_))); (case side2 => exact HC0.out); (case side3 => repeat (first | exact (Kd.V_reads' HO_1.out).2.2 | (with_reducible refine Kd.C_alloc ?_ _) | (with_reducible refine Kd.C_drewN ?_ _) | (with_reducible refine Kd.C_drew ?_))); (case side4 => exact (Kd.V_reads' HO_1.out).2.1); (case side5 => repeat (first | exact (Kd.V_reads' HO_2.out).2.2 | (with_reducible refine Kd.C_alloc ?_ _) | (with_reducible refine Kd.C_drewN ?_ _) | (with_reducible refine Kd.C_drew ?_))); (case side6 => exact (Kd.V_reads' HO_2.out).2.1); rintro e w' ⟨rfl, ⟨nd, rfl⟩⟩; refine ⟨_, rfl, ?_⟩))
            go_ret
            exact ⟨by first | rfl | (simp [errW_none, errW_some] <;> rfl) | (simp [*, errW_none, errW_some] <;> rfl), by repeat (first | (with_reducible first | exact HB.out | apply below_alloc | apply pw_below_drewN | apply below_drew1) | exact HB.out)⟩

end Go.Proofs.Yteflolamihhmdaa.Q

namespace Go.Proofs.Yteflolamihhmdaa.Pure
open Go.RowKit Go.Proofs.Yteflolamihhmdaa.Q Go.Proofs.YteflolamihhmdaaW.PrintWords Go.Proofs.YteflolamihhmdaaW.PrintLast

theorem bits_and1 (q : Int) : Go.bits .and .i64 q 1 = q % 2 := by
  have h1 : (BitVec.ofInt 64 1).toNat = 1 := by decide
  have h2 : ((BitVec.ofInt 64 q) &&& (BitVec.ofInt 64 1)).toNat = ((BitVec.ofInt 64 q).toNat % 2) := by
    rw [BitVec.toNat_and, h1, Nat.and_one_is_mod]
  have h3 : (BitVec.ofInt 64 q).toNat = (q % 18446744073709551616).toNat := by rw [BitVec.toNat_ofInt]; rfl
  have hb : IntKind.i64.bits = 64 := rfl
  unfold bits
  show IntKind.i64.wrap (((BitVec.ofInt 64 q) &&& (BitVec.ofInt 64 1)).toNat : Int) = q % 2
  rw [h2, h3, IntWalk.i64_in _ (by omega)]
  omega

/-- cut to a range -/
def cutR (v lo hi : Int) : Int := if v < lo then lo else if hi < v then hi else v
def wideR (v : Int) : Int := cutR v (-2147483648) 2147483647
def narR (v : Int) : Int := cutR v (-8388608) 8388608
theorem cutR_bd {v lo hi : Int} (h : lo ≤ hi) : lo ≤ cutR v lo hi ∧ cutR v lo hi ≤ hi := by unfold cutR; split <;> (try split) <;> omega
theorem narR_bd (v : Int) : -8388608 ≤ narR v ∧ narR v ≤ 8388608 := cutR_bd (by omega)
theorem wideR_bd (v : Int) : -2147483648 ≤ wideR v ∧ wideR v ≤ 2147483647 := cutR_bd (by omega)
theorem w64 {x : Int} (h1 : -9223372036854775808 ≤ x) (h2 : x ≤ 9223372036854775807) : wrap64 x = x := IntWalk.wrap64_in x ⟨h1, h2⟩
theorem w32 {x : Int} (h1 : -2147483648 ≤ x) (h2 : x ≤ 2147483647) : wrap32 x = x := IntWalk.wrap32_in x ⟨h1, h2⟩
theorem fix_cut_some (v lo hi : Int) (h : lo ≤ hi) (h1 : -2147483648 ≤ lo) (h2 : hi ≤ 2147483647) : fix_cut.f v lo hi = some (cutR v lo hi) := by
  have hb := cutR_bd (v := v) h
  have e : mn (mx v lo) hi = cutR v lo hi := by unfold mn mx cutR; omega
  unfold fix_cut.f
  rw [e, w32 (by omega) (by omega)]
theorem fix_Wide_some (v : Int) : fix_Wide.f v = some (wideR v) := by
  unfold fix_Wide.f
  rw [fix_cut_some v _ _ (by omega) (by omega) (by omega)]
  rfl
theorem fix_Narrow_some (v : Int) : fix_Narrow.f v = some (narR v) := by
  unfold fix_Narrow.f
  rw [fix_cut_some v _ _ (by omega) (by omega) (by omega)]
  rfl
theorem ref_Cut_some (v lo hi : Int) : credenzaref01_Cut.f v lo hi = some (cutR v lo hi) := by
  unfold credenzaref01_Cut.f cutR
  by_cases h1 : v < lo
  · rw [if_pos h1, if_pos h1]
  · rw [if_neg h1, if_neg h1]
    by_cases h2 : v > hi
    · rw [if_pos h2, if_pos h2]
    · rw [if_neg h2, if_neg h2]
theorem ref_Wide_some (v : Int) : credenzaref01_Wide.f v = some (wideR v) := by
  have hb := wideR_bd v
  unfold credenzaref01_Wide.f
  rw [ref_Cut_some]
  show some (wrap32 (wideR v)) = _
  rw [w32 hb.1 hb.2]
theorem ref_Narrow_some (v : Int) : credenzaref01_Narrow.f v = some (narR v) := by
  have hb := narR_bd v
  unfold credenzaref01_Narrow.f
  rw [ref_Cut_some]
  show some (wrap32 (narR v)) = _
  rw [w32 (by omega) (by omega)]

/-- a by b (above 0), to the nearest; from the middle to the even one -/
def rnd (a b : Int) : Int := if b - a % b < a % b ∨ (a % b = b - a % b ∧ (a / b) % 2 ≠ 0) then a / b + 1 else a / b
theorem divmod {a b : Int} (hb : 0 < b) : b * (a / b) + a % b = a ∧ 0 ≤ a % b ∧ a % b < b := ⟨Int.mul_ediv_add_emod a b, Int.emod_nonneg _ (by omega), Int.emod_lt_of_pos _ hb⟩
theorem div_bd {a b : Int} (hb : 0 < b) (B : Int) (h1 : -B ≤ a) (h2 : a ≤ B) : -B ≤ a / b ∧ a / b ≤ B := by
  have hB : 0 ≤ B := by omega
  constructor
  · apply Int.le_ediv_of_mul_le hb
    have : -B * b ≤ -B * 1 := Int.mul_le_mul_of_nonpos_left (by omega) (by omega)
    omega
  · have : a / b < B + 1 := by
      apply Int.ediv_lt_of_lt_mul hb
      have : (B + 1) * 1 ≤ (B + 1) * b := Int.mul_le_mul_of_nonneg_left (by omega) (by omega)
      omega
    omega
theorem tdiv_cases {a b : Int} (hb : 0 < b) : (Int.tdiv a b = a / b ∧ (0 ≤ a ∨ a % b = 0)) ∨ (Int.tdiv a b = a / b + 1 ∧ a < 0 ∧ a % b ≠ 0) := by
  rw [Int.tdiv_eq_ediv]
  by_cases h : 0 ≤ a ∨ b ∣ a
  · rw [if_pos h]
    refine .inl ⟨by omega, h.imp_right (fun h => Int.emod_eq_zero_of_dvd h)⟩
  · rw [if_neg h]
    refine .inr ⟨by rw [Int.sign_eq_one_of_pos hb], by omega, fun h2 => h (.inr (Int.dvd_of_emod_eq_zero h2))⟩
theorem rnd_bd {a b : Int} (hb : 0 < b) (B : Int) (h1 : -B ≤ a) (h2 : a ≤ B) : -B ≤ rnd a b ∧ rnd a b ≤ B + 1 := by
  have := div_bd hb B h1 h2
  unfold rnd
  split <;> omega
theorem ref_Floor_some {a b : Int} (hb : 0 < b) (ha1 : -4611686018427387904 ≤ a) (ha2 : a ≤ 4611686018427387904) (hb2 : b ≤ 4611686018427387904) : credenzaref01_Floor.f a b = some (a / b) := by
  obtain ⟨h1, h2, h3⟩ := divmod (a := a) hb
  have h4 := div_bd hb 4611686018427387904 ha1 ha2
  have h5 : (a / b + 1) * b = b * (a / b) + b := by rw [Int.add_mul, Int.mul_comm]; omega
  have h6 : (a / b) * b = b * (a / b) := Int.mul_comm _ _
  unfold credenzaref01_Floor.f
  rw [if_neg (by omega)]
  rcases tdiv_cases (a := a) hb with ⟨e, h⟩ | ⟨e, h, h'⟩
  · rw [e, w64 (x := a / b) (by omega) (by omega), h6, w64 (x := b * (a / b)) (by omega) (by omega), if_neg (by omega)]
  · rw [e, w64 (x := a / b + 1) (by omega) (by omega), h5, w64 (x := b * (a / b) + b) (by omega) (by omega), if_pos (by omega), show a / b + 1 - 1 = a / b by omega, w64 (x := a / b) (by omega) (by omega)]
theorem ref_Ratio_some {a b : Int} (hb : 0 < b) (ha1 : -4611686018427387904 ≤ a) (ha2 : a ≤ 4611686018427387904) (hb2 : b ≤ 4611686018427387904) : credenzaref01_Ratio.f a b = some (rnd a b) := by
  obtain ⟨h1, h2, h3⟩ := divmod (a := a) hb
  have h4 := div_bd hb 4611686018427387904 ha1 ha2
  have h6 : (a / b) * b = b * (a / b) := Int.mul_comm _ _
  unfold credenzaref01_Ratio.f
  rw [ref_Floor_some hb ha1 ha2 hb2]
  simp only [Option.bind_some]
  rw [h6, w64 (x := b * (a / b)) (by omega) (by omega), show a - b * (a / b) = a % b by omega, w64 (x := a % b) (by omega) (by omega), w64 (x := b - a % b) (by omega) (by omega), w64 (x := a / b + 1) (by omega) (by omega)]
  have ht : Int.tmod (a / b) 2 = 0 ↔ (a / b) % 2 = 0 := by rw [Int.tmod_eq_emod]; split <;> omega
  unfold rnd
  by_cases c1 : a % b > b - a % b
  · rw [if_pos c1, if_pos (.inl c1)]
  · rw [if_neg c1]
    by_cases c2 : a % b = b - a % b
    · rw [if_pos c2]
      by_cases c3 : (a / b) % 2 = 0
      · rw [if_pos (ht.2 c3), if_neg (by omega)]
      · rw [if_neg (fun h => c3 (ht.1 h)), if_pos (.inr ⟨c2, c3⟩)]
    · rw [if_neg c2, if_neg (by omega)]
theorem fix_Ratio_some {a b : Int} (hb : 0 < b) (ha1 : -4611686018427387904 ≤ a) (ha2 : a ≤ 4611686018427387904) (hb2 : b ≤ 4611686018427387904) : fix_Ratio.f a b = some (rnd a b) := by
  obtain ⟨h1, h2, h3⟩ := divmod (a := a) hb
  have h4 := div_bd hb 4611686018427387904 ha1 ha2
  have hm : Int.tmod a b = a - b * Int.tdiv a b := by have := Int.mul_tdiv_add_tmod a b; omega
  unfold fix_Ratio.f
  rw [if_neg (by omega), if_neg (by omega)]
  rcases tdiv_cases (a := a) hb with ⟨e, h⟩ | ⟨e, h, h'⟩
  · have hm2 : Int.tmod a b = a % b := by rw [hm, e]; omega
    rw [e, hm2, if_neg (by omega), w64 (x := b - a % b) (by omega) (by omega), w64 (x := a / b) (by omega) (by omega), w64 (x := a / b + 1) (by omega) (by omega), bits_and1]
    unfold rnd
    by_cases c1 : a % b > b - a % b
    · rw [if_pos c1, if_pos (.inl c1)]
    · rw [if_neg c1]
      by_cases c2 : a % b = b - a % b
      · rw [if_pos c2]
        by_cases c3 : (a / b) % 2 = 0
        · rw [if_pos c3, if_neg (by omega)]
        · rw [if_neg c3, if_pos (.inr ⟨c2, c3⟩)]
      · rw [if_neg c2, if_neg (by omega)]
  · have h5 : b * (a / b + 1) = b * (a / b) + b := by rw [Int.mul_add]; omega
    have hm2 : Int.tmod a b = a % b - b := by rw [hm, e, h5]; omega
    rw [e, hm2, if_pos (by omega), w64 (x := a % b - b + b) (by omega) (by omega), show a % b - b + b = a % b by omega, w64 (x := b - a % b) (by omega) (by omega), w64 (x := a / b + 1) (by omega) (by omega), show a / b + 1 - 1 = a / b by omega, w64 (x := a / b) (by omega) (by omega), w64 (x := a / b + 1) (by omega) (by omega), bits_and1]
    unfold rnd
    by_cases c1 : a % b > b - a % b
    · rw [if_pos c1, if_pos (.inl c1)]
    · rw [if_neg c1]
      by_cases c2 : a % b = b - a % b
      · rw [if_pos c2]
        by_cases c3 : (a / b) % 2 = 0
        · rw [if_pos c3, if_neg (by omega)]
        · rw [if_neg c3, if_pos (.inr ⟨c2, c3⟩)]
      · rw [if_neg c2, if_neg (by omega)]
theorem pow2_bd {n : Nat} (hn : n ≤ 62) : 1 ≤ (2 : Int) ^ n ∧ (2 : Int) ^ n ≤ 4611686018427387904 := by
  have h1 : (2 : Nat) ^ n ≤ 2 ^ 62 := Nat.pow_le_pow_right (by decide) hn
  have h2 : 1 ≤ (2 : Nat) ^ n := Nat.one_le_two_pow
  have h3 : (2 : Int) ^ n = ((2 ^ n : Nat) : Int) := by simp
  rw [h3]
  have h4 : (2 : Nat) ^ 62 = 4611686018427387904 := by decide
  omega
theorem fix_Half_some {a : Int} {n : Nat} (hn : n ≤ 62) (ha1 : -4611686018427387904 ≤ a) (ha2 : a ≤ 4611686018427387904) : fix_Half.f a (n : Int) = some (rnd a (2 ^ n)) := by
  obtain ⟨hp1, hp2⟩ := pow2_bd hn
  have e : (mn (mx (n : Int) 0) 62) = (n : Int) := by unfold mn mx; omega
  have heven : n = 0 ∧ (2 : Int) ^ n = 1 ∨ 0 < n ∧ (2 : Int) ^ n % 2 = 0 := by
    cases n with
    | zero => exact .inl ⟨rfl, rfl⟩
    | succ m => exact .inr ⟨by omega, by rw [Int.pow_succ]; omega⟩
  unfold fix_Half.f
  rw [e, Int.toNat_natCast]
  generalize (2 : Int) ^ n = b at *
  obtain ⟨h1, h2, h3⟩ := divmod (a := a) (b := b) (by omega)
  have h4 := div_bd (b := b) (by omega) 4611686018427387904 ha1 ha2
  have h6 : (a / b) * b = b * (a / b) := Int.mul_comm _ _
  rw [h6, w64 (x := b * (a / b)) (by omega) (by omega), show a - b * (a / b) = a % b by omega, w64 (x := a % b) (by omega) (by omega), w64 (x := b) (by omega) (by omega), w64 (x := a / b + 1) (by omega) (by omega), bits_and1]
  unfold rnd
  by_cases c1 : a % b > b / 2
  · rw [if_pos c1, if_pos (.inl (by omega))]
  · rw [if_neg c1]
    by_cases c2 : a % b = b / 2
    · rw [if_pos c2]
      rcases heven with ⟨h0, h0'⟩ | ⟨h0, h0'⟩
      · rw [if_neg (by omega), if_neg (by omega)]
      · rw [if_pos (by omega)]
        by_cases c3 : (a / b) % 2 = 1
        · rw [if_pos c3, if_pos (.inr (by omega))]
        · rw [if_neg c3, if_neg (by omega)]
    · rw [if_neg c2, if_neg (by omega)]
theorem fix_Half_16 {a : Int} (ha1 : -4611686018427387904 ≤ a) (ha2 : a ≤ 4611686018427387904) : fix_Half.f a 16 = some (rnd a 65536) := fix_Half_some (n := 16) (by omega) ha1 ha2
/-- the product of two numbers with 16 bits behind the point -/
def mulR (a b : Int) : Int := wideR (rnd (a * b) 65536)
theorem mul_bd {a b A B : Int} (h1 : -A ≤ a) (h2 : a ≤ A) (h3 : -B ≤ b) (h4 : b ≤ B) : -(A * B) ≤ a * b ∧ a * b ≤ A * B := by
  have hA : 0 ≤ A := by omega
  have hB : 0 ≤ B := by omega
  have e : (a * b).natAbs ≤ A.natAbs * B.natAbs := by rw [Int.natAbs_mul]; exact Nat.mul_le_mul (by omega) (by omega)
  have e2 : (A * B).natAbs = A.natAbs * B.natAbs := Int.natAbs_mul _ _
  have e3 : 0 ≤ A * B := Int.mul_nonneg hA hB
  rw [← e2] at e
  generalize a * b = p at *
  generalize A * B = q at *
  omega
theorem mul32_bd {a b : Int} (h1 : -2147483648 ≤ a) (h2 : a ≤ 2147483648) (h3 : -2147483648 ≤ b) (h4 : b ≤ 2147483648) : -4611686018427387904 ≤ a * b ∧ a * b ≤ 4611686018427387904 := mul_bd (A := 2147483648) (B := 2147483648) h1 h2 h3 h4
theorem fix_Mul_some {a b : Int} (h1 : -2147483648 ≤ a) (h2 : a ≤ 2147483647) (h3 : -2147483648 ≤ b) (h4 : b ≤ 2147483647) : fix_Mul.f a b = some (mulR a b) := by
  have h := mul32_bd (a := a) (b := b) (by omega) (by omega) (by omega) (by omega)
  unfold fix_Mul.f
  rw [w64 (x := a) (by omega) (by omega), w64 (x := b) (by omega) (by omega), w64 (x := a * b) (by omega) (by omega), fix_Half_16 h.1 h.2]
  simp only [Option.bind_some]
  rw [fix_Wide_some]
  rfl
theorem ref_Mul_some {a b : Int} (h1 : -2147483648 ≤ a) (h2 : a ≤ 2147483647) (h3 : -2147483648 ≤ b) (h4 : b ≤ 2147483647) : credenzaref01_Mul.f a b = some (mulR a b) := by
  have h := mul32_bd (a := a) (b := b) (by omega) (by omega) (by omega) (by omega)
  unfold credenzaref01_Mul.f
  rw [w64 (x := a) (by omega) (by omega), w64 (x := b) (by omega) (by omega), w64 (x := a * b) (by omega) (by omega), ref_Ratio_some (by omega) h.1 h.2 (by omega)]
  simp only [Option.bind_some]
  rw [ref_Wide_some]
  rfl
end Go.Proofs.Yteflolamihhmdaa.Pure

namespace Go.Proofs.Yteflolamihhmdaa.Pure
open Go.RowKit Go.Proofs.Yteflolamihhmdaa.Q Go.Proofs.YteflolamihhmdaaW.PrintWords Go.Proofs.YteflolamihhmdaaW.PrintLast

def I32 (x : Int) : Prop := -2147483648 ≤ x ∧ x ≤ 2147483647
def A32 (l : List Int) : Prop := ∀ x ∈ l, I32 x
def nars (l : List Int) : List Int := l.map narR
/-- all are narrow -/
def NB (l : List Int) : Prop := ∀ x ∈ l, -8388608 ≤ x ∧ x ≤ 8388608
theorem nars_nb (l : List Int) : NB (nars l) := by
  intro x hx
  obtain ⟨y, _, rfl⟩ := List.mem_map.1 hx
  exact narR_bd y
theorem nars_length (l : List Int) : (nars l).length = l.length := by simp [nars]
theorem rd_at {l : List Int} {p : Nat} (h : p < l.length) : rd l (p : Int) = l[p] := by simp [rd, List.getD_eq_getElem?_getD, List.getElem?_eq_getElem h]
theorem rd_mem {l : List Int} {p : Nat} (h : p < l.length) : rd l (p : Int) ∈ l := by rw [rd_at h]; exact List.getElem_mem h
theorem drop_rd {l : List Int} {p : Nat} (h : p < l.length) : l.drop p = rd l (p : Int) :: l.drop (p + 1) := by rw [rd_at h]; exact List.drop_eq_getElem_cons h
theorem take_rd {l : List Int} {p : Nat} (h : p < l.length) : l.take (p + 1) = l.take p ++ [rd l (p : Int)] := by rw [rd_at h, List.take_succ_eq_append_getElem h]
theorem wnext {p n : Nat} (h : p < n) (hn : n ≤ 4611686018427387904) : wrap64 ((p : Int) + 1) = ((p + 1 : Nat) : Int) := by rw [w64 (by omega) (by omega)]; omega
theorem A32.narrow {l : List Int} (h : NB l) : A32 l := fun x hx => by have := h x hx; exact ⟨by omega, by omega⟩

theorem attn_narrow_some {x : Int} (hx : I32 x) : attn_narrow.f x = some (narR x) := by
  have hb := narR_bd x
  unfold I32 at hx
  unfold attn_narrow.f
  rw [w64 (x := x) (by omega) (by omega), fix_Narrow_some]
  simp only [Option.bind_some]
  rw [w64 (by omega) (by omega)]
theorem cut_loop (l : List Int) (hl : l.length ≤ 70368744177664) (hw : A32 l) : ∀ (d k p : Nat), p + d = l.length → d < k → attn_cut.l0 k (nars (l.take p) ++ List.replicate d 0) l (l.length : Int) (p : Int) = some (nars l) := by
  intro d
  induction d with
  | zero =>
    intro k p hp hk
    obtain ⟨k, rfl⟩ : ∃ m, k = m + 1 := ⟨k - 1, by omega⟩
    simp only [attn_cut.l0]
    rw [if_neg (by omega), List.take_of_length_le (by omega)]
    simp
  | succ d ih =>
    intro k p hp hk
    obtain ⟨k, rfl⟩ : ∃ m, k = m + 1 := ⟨k - 1, by omega⟩
    have hlt : p < l.length := by omega
    have hn := narR_bd (rd l (p : Int))
    simp only [attn_cut.l0]
    rw [if_pos (by omega), if_pos (by omega), if_pos (by omega), attn_narrow_some (hw _ (rd_mem hlt))]
    simp only [Option.bind_some]
    have hpl : (nars (l.take p)).length = p := by rw [nars_length, List.length_take]; omega
    rw [if_pos (by simp [hpl]; omega), wnext hlt (by omega), w32 (x := narR _) (by omega) (by omega), Int.toNat_natCast]
    have e : (nars (l.take p) ++ List.replicate (d + 1) 0).set p (narR (rd l (p : Int))) = nars (l.take (p + 1)) ++ List.replicate d 0 := by
      rw [List.set_append_right _ _ (by omega), hpl, Nat.sub_self, List.replicate_succ, List.set_cons_zero, take_rd hlt]
      simp [nars]
    rw [e]
    exact ih k (p + 1) (by omega) (by omega)
theorem attn_cut_some (l : List Int) (hl : l.length ≤ 70368744177664) (hw : A32 l) {k : Nat} (hk : l.length < k) : attn_cut.f k l = some (nars l) := by
  unfold attn_cut.f
  rw [if_pos (by omega), if_pos (by omega), Int.toNat_natCast]
  exact cut_loop l hl hw l.length k 0 (by omega) hk
theorem ref_Narrow_loop (l : List Int) (hl : l.length ≤ 1000000) (hw : A32 l) : ∀ (d k p : Nat), p + d = l.length → d < k → credenzaref14_Narrow.l0 k l (nars (l.take p)) (p : Int) = some (nars l) := by
  intro d
  induction d with
  | zero =>
    intro k p hp hk
    obtain ⟨k, rfl⟩ : ∃ m, k = m + 1 := ⟨k - 1, by omega⟩
    simp only [credenzaref14_Narrow.l0]
    rw [if_neg (by omega), List.take_of_length_le (by omega)]
  | succ d ih =>
    intro k p hp hk
    obtain ⟨k, rfl⟩ : ∃ m, k = m + 1 := ⟨k - 1, by omega⟩
    have hlt : p < l.length := by omega
    have hx := hw _ (rd_mem hlt)
    unfold I32 at hx
    simp only [credenzaref14_Narrow.l0]
    rw [if_pos (by omega), if_pos (by omega), w64 (x := rd l (p : Int)) (by omega) (by omega), ref_Narrow_some]
    simp only [Option.bind_some]
    have hpl : (nars (l.take p)).length = p := by rw [nars_length, List.length_take]; omega
    rw [if_pos (by omega), wnext hlt (by omega), show nars (l.take p) ++ [narR (rd l (p : Int))] = nars (l.take (p + 1)) by rw [take_rd hlt]; simp [nars]]
    exact ih k (p + 1) (by omega) (by omega)
theorem ref_Narrow_some' (l : List Int) (hl : l.length ≤ 1000000) (hw : A32 l) {k : Nat} (hk : l.length < k) : credenzaref14_Narrow.f k l = some (nars l) :=
  ref_Narrow_loop l hl hw l.length k 0 (by omega) hk

/-- the sum of the products -/
def dotR : List Int → List Int → Int
  | a :: xs, b :: ys => a * b + dotR xs ys
  | _, _ => 0
theorem dotR_comm : ∀ a b : List Int, dotR a b = dotR b a
  | [], [] => rfl
  | [], _ :: _ => rfl
  | _ :: _, [] => rfl
  | x :: a, y :: b => by simp only [dotR]; rw [Int.mul_comm, dotR_comm a b]
theorem nb_mul {x y : Int} (h1 : -8388608 ≤ x ∧ x ≤ 8388608) (h2 : -8388608 ≤ y ∧ y ≤ 8388608) : -70368744177664 ≤ x * y ∧ x * y ≤ 70368744177664 := mul_bd (A := 8388608) (B := 8388608) h1.1 h1.2 h2.1 h2.2
theorem dotR_bd : ∀ {a b : List Int} (_ : NB a) (_ : NB b), -(a.length * 70368744177664 : Int) ≤ dotR a b ∧ dotR a b ≤ a.length * 70368744177664
  | [], b, _, _ => by simp [dotR]
  | x :: a, [], _, _ => by simp only [dotR, List.length_cons]; omega
  | x :: a, y :: b, ha, hb => by
    have h1 := nb_mul (ha x (by simp)) (hb y (by simp))
    have h2 := dotR_bd (a := a) (b := b) (fun z hz => ha z (by simp [hz])) (fun z hz => hb z (by simp [hz]))
    simp only [dotR, List.length_cons]
    omega
theorem dot_loop (a b : List Int) (hl : a.length = b.length) (hn : a.length ≤ 1024) (ha : NB a) (hb : NB b) : ∀ (d k p : Nat) (s : Int), p + d = a.length → d < k → -(p * 70368744177664 : Int) ≤ s → s ≤ p * 70368744177664 → dot_Dot.l0 k b s a (a.length : Int) (p : Int) = some (s + dotR (a.drop p) (b.drop p), 0) := by
  intro d
  induction d with
  | zero =>
    intro k p s hp hk h1 h2
    obtain ⟨k, rfl⟩ : ∃ m, k = m + 1 := ⟨k - 1, by omega⟩
    simp only [dot_Dot.l0]
    rw [if_neg (by omega), List.drop_eq_nil_of_le (by omega)]
    simp [dotR]
  | succ d ih =>
    intro k p s hp hk h1 h2
    obtain ⟨k, rfl⟩ : ∃ m, k = m + 1 := ⟨k - 1, by omega⟩
    have hlt : p < a.length := by omega
    have hlt2 : p < b.length := by omega
    have hx := ha _ (rd_mem hlt)
    have hy := hb _ (rd_mem hlt2)
    have hm := nb_mul hx hy
    simp only [dot_Dot.l0]
    rw [if_pos (by omega), if_pos (by omega), if_pos (by omega), if_pos (by omega), wnext hlt (by omega), w64 (x := rd a (p : Int)) (by omega) (by omega), w64 (x := rd b (p : Int)) (by omega) (by omega), drop_rd hlt, drop_rd hlt2]
    simp only [dotR]
    generalize rd a (p : Int) * rd b (p : Int) = m at *
    rw [w64 (x := m) (by omega) (by omega), w64 (x := s + m) (by omega) (by omega)]
    rw [ih k (p + 1) (s + m) (by omega) (by omega) (by omega) (by omega)]
    congr 2
    omega
theorem ref_dot_loop (a b : List Int) (hl : a.length = b.length) (hn : a.length ≤ 1024) (ha : NB a) (hb : NB b) : ∀ (d k p : Nat) (s : Int), p + d = a.length → d < k → -(p * 70368744177664 : Int) ≤ s → s ≤ p * 70368744177664 → credenzaref03_Dot.l0 k a b s (p : Int) = some (s + dotR (a.drop p) (b.drop p)) := by
  intro d
  induction d with
  | zero =>
    intro k p s hp hk h1 h2
    obtain ⟨k, rfl⟩ : ∃ m, k = m + 1 := ⟨k - 1, by omega⟩
    simp only [credenzaref03_Dot.l0]
    rw [if_neg (by omega), List.drop_eq_nil_of_le (by omega)]
    simp [dotR]
  | succ d ih =>
    intro k p s hp hk h1 h2
    obtain ⟨k, rfl⟩ : ∃ m, k = m + 1 := ⟨k - 1, by omega⟩
    have hlt : p < a.length := by omega
    have hlt2 : p < b.length := by omega
    have hx := ha _ (rd_mem hlt)
    have hy := hb _ (rd_mem hlt2)
    have hm := nb_mul hx hy
    simp only [credenzaref03_Dot.l0]
    rw [if_pos (by omega), if_pos (by omega), if_pos (by omega), wnext hlt (by omega), w64 (x := rd a (p : Int)) (by omega) (by omega), w64 (x := rd b (p : Int)) (by omega) (by omega), drop_rd hlt, drop_rd hlt2]
    simp only [dotR]
    generalize rd a (p : Int) * rd b (p : Int) = m at *
    rw [w64 (x := m) (by omega) (by omega), w64 (x := s + m) (by omega) (by omega)]
    rw [ih k (p + 1) (s + m) (by omega) (by omega) (by omega) (by omega)]
    congr 1
    omega
theorem mild_nb {l : List Int} (h : NB l) (hn : l.length ≤ 1024) : dot_Mild.f l = some true := by
  have h2 : l.any dot_Mild.wild = false := by
    rw [List.any_eq_false]
    intro x hx
    have := h x hx
    unfold dot_Mild.wild
    simp
    omega
  unfold dot_Mild.f
  rw [h2]
  simp [hn]
theorem dot_Dot_some {a b : List Int} (hl : a.length = b.length) (hn : a.length ≤ 1024) (ha : NB a) (hb : NB b) {k : Nat} (hk : a.length + 1 < k) : dot_Dot.f k a b = some (dotR a b, 0) := by
  obtain ⟨k, rfl⟩ : ∃ m, k = m + 1 := ⟨k - 1, by omega⟩
  unfold dot_Dot.f dot_shape.f
  rw [if_pos (by omega), if_neg (by omega)]
  simp only [Option.bind_some, if_true]
  rw [mild_nb ha hn, mild_nb hb (by omega)]
  simp only [Option.bind_some, if_true, Bool.not_true]
  have e : dot_Dot.j0 (k + 1) a b false = dot_Dot.l0 k b 0 a (a.length : Int) 0 := by rw [dot_Dot.j0, if_neg (by simp)]
  rw [e]
  have := dot_loop a b hl hn ha hb a.length k 0 0 (by omega) (by omega) (by omega) (by omega)
  simpa using this
theorem ref_Dot_some {a b : List Int} (hl : a.length = b.length) (hn : a.length ≤ 1024) (ha : NB a) (hb : NB b) {k : Nat} (hk : a.length < k) : credenzaref03_Dot.f k a b = some (dotR a b) := by
  unfold credenzaref03_Dot.f
  have := ref_dot_loop a b hl hn ha hb a.length k 0 0 (by omega) (by omega) (by omega) (by omega)
  simpa using this
theorem sum_loop (key : List Int) (hk : A32 key) : ∀ (q : List Int) (p : Nat) (s : Int), p + q.length ≤ key.length → p + q.length ≤ 1024 → NB q → -(p * 70368744177664 : Int) ≤ s → s ≤ p * 70368744177664 → attn_sum.l key q p s = some (s + dotR q (nars (key.drop p))) := by
  intro q
  induction q with
  | nil =>
    intro p s _ _ _ _ _
    rw [attn_sum.l, dotR]
    · simp
    · intro a xs b ys h
      cases h
  | cons x q ih =>
    intro p s h1 h2 hq h3 h4
    simp only [List.length_cons] at h1 h2
    have hlt : p < key.length := by omega
    have hx := hq x (by simp)
    have hm := nb_mul hx (narR_bd (rd key (p : Int)))
    simp only [attn_sum.l]
    rw [if_pos hlt, attn_narrow_some (hk _ (rd_mem hlt)), drop_rd hlt]
    simp only [Option.bind_some, nars, List.map_cons, dotR]
    generalize narR (rd key (p : Int)) = y at *
    rw [w64 (x := x) (by omega) (by omega), w64 (x := x * y) (by omega) (by omega)]
    generalize x * y = m at *
    rw [w64 (x := s + m) (by omega) (by omega)]
    rw [ih (p + 1) (s + m) (by omega) (by omega) (fun z hz => hq z (by simp [hz])) (by omega) (by omega)]
    simp only [nars]
    congr 1
    omega

/-- one by the root of n, with 16 bits behind the point -/
def rsT : List Int := [0, 65536, 46340, 37837, 32768, 29308, 26754, 24770, 23170, 21845, 20724, 19759, 18918, 18176, 17515, 16921, 16384]
def rsR (n : Nat) : Int := rsT.getD n 0
def rsOk (n : Nat) : Prop := expo_Rsqrt.f 40 ((n : Nat) * 65536 : Int) = some (rsR n) ∧ credenzaref02_Rsqrt.f 40 ((n : Nat) * 65536 : Int) = some (rsR n) ∧ 0 ≤ rsR n ∧ rsR n ≤ 65536
theorem rs_1 : rsOk 1 := ⟨by kernel_rfl, by kernel_rfl, by decide, by decide⟩
theorem rs_2 : rsOk 2 := ⟨by kernel_rfl, by kernel_rfl, by decide, by decide⟩
theorem rs_3 : rsOk 3 := ⟨by kernel_rfl, by kernel_rfl, by decide, by decide⟩
theorem rs_4 : rsOk 4 := ⟨by kernel_rfl, by kernel_rfl, by decide, by decide⟩
theorem rs_5 : rsOk 5 := ⟨by kernel_rfl, by kernel_rfl, by decide, by decide⟩
theorem rs_6 : rsOk 6 := ⟨by kernel_rfl, by kernel_rfl, by decide, by decide⟩
theorem rs_7 : rsOk 7 := ⟨by kernel_rfl, by kernel_rfl, by decide, by decide⟩
theorem rs_8 : rsOk 8 := ⟨by kernel_rfl, by kernel_rfl, by decide, by decide⟩
theorem rs_9 : rsOk 9 := ⟨by kernel_rfl, by kernel_rfl, by decide, by decide⟩
theorem rs_10 : rsOk 10 := ⟨by kernel_rfl, by kernel_rfl, by decide, by decide⟩
theorem rs_11 : rsOk 11 := ⟨by kernel_rfl, by kernel_rfl, by decide, by decide⟩
theorem rs_12 : rsOk 12 := ⟨by kernel_rfl, by kernel_rfl, by decide, by decide⟩
theorem rs_13 : rsOk 13 := ⟨by kernel_rfl, by kernel_rfl, by decide, by decide⟩
theorem rs_14 : rsOk 14 := ⟨by kernel_rfl, by kernel_rfl, by decide, by decide⟩
theorem rs_15 : rsOk 15 := ⟨by kernel_rfl, by kernel_rfl, by decide, by decide⟩
theorem rs_16 : rsOk 16 := ⟨by kernel_rfl, by kernel_rfl, by decide, by decide⟩
theorem rs_some {n : Nat} (h1 : 1 ≤ n) (h2 : n ≤ 16) {k : Nat} (hk : 40 ≤ k) : expo_Rsqrt.f k ((n : Int) * 65536) = some (rsR n) ∧ credenzaref02_Rsqrt.f k ((n : Int) * 65536) = some (rsR n) ∧ 0 ≤ rsR n ∧ rsR n ≤ 65536 := by
  have hm : rsOk n := by
    match n, h1, h2 with
    | 1, _, _ => exact rs_1
    | 2, _, _ => exact rs_2
    | 3, _, _ => exact rs_3
    | 4, _, _ => exact rs_4
    | 5, _, _ => exact rs_5
    | 6, _, _ => exact rs_6
    | 7, _, _ => exact rs_7
    | 8, _, _ => exact rs_8
    | 9, _, _ => exact rs_9
    | 10, _, _ => exact rs_10
    | 11, _, _ => exact rs_11
    | 12, _, _ => exact rs_12
    | 13, _, _ => exact rs_13
    | 14, _, _ => exact rs_14
    | 15, _, _ => exact rs_15
    | 16, _, _ => exact rs_16
    | n + 17, _, h => exact absurd h (by omega)
  obtain ⟨ha, hb, hc⟩ := hm
  exact ⟨at_rounds (expo_Rsqrt.mono _) hk ha, at_rounds (credenzaref02_Rsqrt.mono _) hk hb, hc⟩
end Go.Proofs.Yteflolamihhmdaa.Pure

namespace Go.Proofs.Yteflolamihhmdaa.Pure
open Go.RowKit Go.Proofs.Yteflolamihhmdaa.Q Go.Proofs.YteflolamihhmdaaW.PrintWords Go.Proofs.YteflolamihhmdaaW.PrintLast

/-- a sum of products as a score -/
def scaledR (s : Int) (n : Nat) : Int := mulR (wideR (rnd s 65536)) (rsR n)
def scoreR (q key : List Int) : Int := scaledR (dotR (nars q) (nars key)) q.length
theorem attn_scaled_some {s : Int} {n : Nat} (h1 : 1 ≤ n) (h2 : n ≤ 16) (hs1 : -4611686018427387904 ≤ s) (hs2 : s ≤ 4611686018427387904) {k : Nat} (hk : 40 ≤ k) : attn_scaled.f k s (n : Int) = some (scaledR s n) := by
  obtain ⟨ha, _, hb, hc⟩ := rs_some h1 h2 hk
  have hw := wideR_bd (rnd s 65536)
  have e1 := fix_Half_16 hs1 hs2
  have e2 := fix_Wide_some (rnd s 65536)
  have e3 : wrap64 ((n : Int) * 65536) = (n : Int) * 65536 := w64 (by omega) (by omega)
  have e4 : fix_Mul.f (wideR (rnd s 65536)) (rsR n) = some (mulR (wideR (rnd s 65536)) (rsR n)) := fix_Mul_some hw.1 hw.2 (by omega) (by omega)
  rw [attn_scaled.f, e1, Option.bind_some, e2, Option.bind_some, e3, ha, Option.bind_some, e4, Option.bind_some, scaledR]
theorem attn_Score_some {q key : List Int} (hl : q.length = key.length) (h1 : 1 ≤ q.length) (h2 : q.length ≤ 16) (hq : A32 q) (hk : A32 key) {k : Nat} (hkk : 50 ≤ k) : attn_Score.f k q key = some (scoreR q key, 0) := by
  obtain ⟨k, rfl⟩ : ∃ m, k = m + 1 := ⟨k - 1, by omega⟩
  have hb := dotR_bd (nars_nb q) (nars_nb key)
  rw [nars_length] at hb
  have e0 : attn_sized.f (q.length : Int) = some true := by unfold attn_sized.f; rw [if_pos (by omega), decide_eq_true (by omega)]
  have e1 := attn_cut_some q (by omega) hq (k := k) (by omega)
  have e2 := attn_cut_some key (by omega) hk (k := k) (by omega)
  have e3 := dot_Dot_some (a := nars q) (b := nars key) (by rw [nars_length, nars_length]; exact hl) (by rw [nars_length]; omega) (nars_nb q) (nars_nb key) (k := k) (by rw [nars_length]; omega)
  have e4 := attn_scaled_some (s := dotR (nars q) (nars key)) h1 h2 (by omega) (by omega) (k := k) (by omega)
  rw [attn_Score.f, if_pos (by omega), e0, Option.bind_some, Bool.not_true, attn_Score.j0, if_neg (by simp), e1, Option.bind_some, e2, Option.bind_some, e3, Option.bind_some, if_pos rfl, e4, Option.bind_some, scoreR]
theorem attn_Score_no {q key : List Int} (h : ¬ (q.length = key.length ∧ 1 ≤ q.length ∧ q.length ≤ 16)) {k : Nat} (hkk : 1 ≤ k) : attn_Score.f k q key = some (0, 25) := by
  obtain ⟨k, rfl⟩ : ∃ m, k = m + 1 := ⟨k - 1, by omega⟩
  unfold attn_Score.f attn_sized.f
  by_cases c1 : q.length = key.length
  · rw [if_pos (by omega)]
    by_cases c2 : 1 ≤ q.length
    · rw [if_pos (by omega), decide_eq_false (show ¬ (q.length : Int) ≤ 16 by omega)]
      simp [attn_Score.j0]
    · rw [if_neg (by omega)]
      simp [attn_Score.j0]
  · rw [if_neg (by omega)]
    simp [attn_Score.j0]
theorem ref_Score_some {q key : List Int} (hl : q.length = key.length) (h1 : 1 ≤ q.length) (h2 : q.length ≤ 16) (hq : A32 q) (hk : A32 key) {k : Nat} (hkk : 50 ≤ k) : credenzaref14_Score.f k q key = some (scoreR q key) := by
  have hb := dotR_bd (nars_nb q) (nars_nb key)
  rw [nars_length] at hb
  obtain ⟨_, ha, hc, hd⟩ := rs_some h1 h2 (k := k) (by omega)
  have hw := wideR_bd (rnd (dotR (nars q) (nars key)) 65536)
  have e1 := ref_Narrow_some' q (by omega) hq (k := k) (by omega)
  have e2 := ref_Narrow_some' key (by omega) hk (k := k) (by omega)
  have e3 := ref_Dot_some (a := nars q) (b := nars key) (by rw [nars_length, nars_length]; exact hl) (by rw [nars_length]; omega) (nars_nb q) (nars_nb key) (k := k) (by rw [nars_length]; omega)
  have e4 : credenzaref01_Ratio.f (dotR (nars q) (nars key)) 65536 = some (rnd (dotR (nars q) (nars key)) 65536) := ref_Ratio_some (by omega) (by omega) (by omega) (by omega)
  have e5 := ref_Wide_some (rnd (dotR (nars q) (nars key)) 65536)
  have e6 : wrap64 ((q.length : Int) * 65536) = (q.length : Int) * 65536 := w64 (by omega) (by omega)
  have e7 : credenzaref01_Mul.f (wideR (rnd (dotR (nars q) (nars key)) 65536)) (rsR q.length) = some (mulR (wideR (rnd (dotR (nars q) (nars key)) 65536)) (rsR q.length)) := ref_Mul_some hw.1 hw.2 (by omega) (by omega)
  rw [credenzaref14_Score.f, e1, Option.bind_some, e2, Option.bind_some, e3, Option.bind_some, e4, Option.bind_some, e5, Option.bind_some, e6, ha, Option.bind_some, e7, Option.bind_some, scoreR, scaledR]
theorem scoreR_comm {q key : List Int} (hl : q.length = key.length) : scoreR q key = scoreR key q := by unfold scoreR; rw [dotR_comm, hl]
end Go.Proofs.Yteflolamihhmdaa.Pure

namespace Go.Proofs.Yteflolamihhmdaa.Pure
open Go.RowKit Go.Proofs.Yteflolamihhmdaa.Q Go.Proofs.YteflolamihhmdaaW.PrintWords Go.Proofs.YteflolamihhmdaaW.PrintLast

def of2R (f : Int) : Int := 65536 + f * (45613 + f * (14743 + f * 5180 / 65536) / 65536) / 65536
theorem of2_bd {f : Int} (h1 : 0 ≤ f) (h2 : f ≤ 65535) : 0 ≤ f * 5180 / 65536 ∧ f * 5180 / 65536 ≤ 5180 ∧ 0 ≤ f * (14743 + f * 5180 / 65536) ∧ f * (14743 + f * 5180 / 65536) ≤ 1305653805 ∧ 0 ≤ f * (14743 + f * 5180 / 65536) / 65536 ∧ f * (14743 + f * 5180 / 65536) / 65536 ≤ 19923 ∧
    0 ≤ f * (45613 + f * (14743 + f * 5180 / 65536) / 65536) ∧ f * (45613 + f * (14743 + f * 5180 / 65536) / 65536) ≤ 4294901760 ∧ 65536 ≤ of2R f ∧ of2R f ≤ 131071 := by
  have a1 : 0 ≤ f * 5180 / 65536 ∧ f * 5180 / 65536 ≤ 5180 := by omega
  unfold of2R
  generalize f * 5180 / 65536 = u at *
  have a2 : 0 ≤ f * (14743 + u) ∧ f * (14743 + u) ≤ 65535 * (14743 + 5180) := ⟨Int.mul_nonneg (by omega) (by omega), Int.mul_le_mul (by omega) (by omega) (by omega) (by omega)⟩
  generalize f * (14743 + u) = v at *
  have a3 : 0 ≤ v / 65536 ∧ v / 65536 ≤ 19923 := by omega
  generalize v / 65536 = z at *
  have a4 : 0 ≤ f * (45613 + z) ∧ f * (45613 + z) ≤ 65535 * (45613 + 19923) := ⟨Int.mul_nonneg (by omega) (by omega), Int.mul_le_mul (by omega) (by omega) (by omega) (by omega)⟩
  generalize f * (45613 + z) = y at *
  omega
/-- e to a number that isn't above 0 -/
def expT (x : Int) : Int := rnd ((if x < 0 then x else 0) * 94548) 65536
def expR (x : Int) : Int := if 62 < -(expT x / 65536) then 0 else rnd (of2R (expT x % 65536)) (2 ^ (-(expT x / 65536)).toNat)
theorem expT_bd {x : Int} (hx : I32 x) : -4611686018427387904 ≤ (if x < 0 then x else 0) * 94548 ∧ (if x < 0 then x else 0) * 94548 ≤ 0 ∧ -4000000000 ≤ expT x ∧ expT x ≤ 0 := by
  unfold I32 at hx
  unfold expT rnd
  generalize hm : (if x < 0 then x else 0) = m
  have h1 : -2147483648 ≤ m ∧ m ≤ 0 := by rw [← hm]; split <;> omega
  refine ⟨by omega, by omega, ?_, ?_⟩ <;> split <;> omega
theorem emod_eq (t : Int) : t - t / 65536 * 65536 = t % 65536 := by omega
theorem expo_of2_some {f : Int} (h1 : 0 ≤ f) (h2 : f ≤ 65535) : expo_of2.f f = some (of2R f) := by
  obtain ⟨a1, a2, a3, a4, a5, a6, a7, a8, a9, a10⟩ := of2_bd h1 h2
  have e1 : wrap64 (f * 5180) = f * 5180 := w64 (by omega) (by omega)
  have e2 : wrap64 (14743 + f * 5180 / 65536) = 14743 + f * 5180 / 65536 := w64 (by omega) (by omega)
  have e3 : wrap64 (f * (14743 + f * 5180 / 65536)) = f * (14743 + f * 5180 / 65536) := w64 (by omega) (by omega)
  have e4 : wrap64 (45613 + f * (14743 + f * 5180 / 65536) / 65536) = 45613 + f * (14743 + f * 5180 / 65536) / 65536 := w64 (by omega) (by omega)
  have e5 : wrap64 (f * (45613 + f * (14743 + f * 5180 / 65536) / 65536)) = f * (45613 + f * (14743 + f * 5180 / 65536) / 65536) := w64 (by omega) (by omega)
  have e6 : wrap64 (of2R f) = of2R f := w64 (by omega) (by omega)
  unfold expo_of2.f
  rw [e1, e2, e3, e4, e5]
  exact congrArg some e6
theorem expo_Exp_some {x : Int} (hx : I32 x) : expo_Exp.f x = some (expR x) := by
  obtain ⟨b1, b2, b3, b4⟩ := expT_bd hx
  unfold I32 at hx
  have e0 : mn x 0 = (if x < 0 then x else 0) := by unfold mn; split <;> split <;> omega
  have e1 : wrap64 (if x < 0 then x else 0) = (if x < 0 then x else 0) := by split <;> exact w64 (by omega) (by omega)
  have e2 : wrap64 ((if x < 0 then x else 0) * 94548) = (if x < 0 then x else 0) * 94548 := w64 (by omega) (by omega)
  have e3 : fix_Half.f ((if x < 0 then x else 0) * 94548) 16 = some (expT x) := fix_Half_16 b1 (by omega)
  have e4 : wrap64 (-(expT x / 65536)) = -(expT x / 65536) := w64 (by omega) (by omega)
  have e5 : wrap64 (expT x / 65536 * 65536) = expT x / 65536 * 65536 := w64 (by omega) (by omega)
  have e6 : wrap64 (expT x - expT x / 65536 * 65536) = expT x % 65536 := by rw [w64 (by omega) (by omega), emod_eq]
  have e7 := expo_of2_some (f := expT x % 65536) (by omega) (by omega)
  have hof := (of2_bd (f := expT x % 65536) (by omega) (by omega)).2.2.2.2.2.2.2.2
  rw [expo_Exp.f, e0, e1, e2, e3, Option.bind_some, e4, expR]
  by_cases c : -(expT x / 65536) > 62
  · rw [if_pos c, if_pos c]
  · have e8 := fix_Half_some (a := of2R (expT x % 65536)) (n := (-(expT x / 65536)).toNat) (by omega) (by omega) (by omega)
    rw [Int.toNat_of_nonneg (by omega)] at e8
    rw [if_neg c, if_neg c, e5, e6, e7, Option.bind_some, e8, Option.bind_some]
theorem power_loop (n : Nat) (hn : n ≤ 62) : ∀ (d k p : Nat), p + d = n → d < k → credenzaref01_Power.l0 k (n : Int) (2 ^ p) (p : Int) = some (2 ^ n) := by
  intro d
  induction d with
  | zero =>
    intro k p hp hk
    obtain ⟨k, rfl⟩ : ∃ m, k = m + 1 := ⟨k - 1, by omega⟩
    obtain rfl : p = n := by omega
    rw [credenzaref01_Power.l0, if_neg (by omega)]
  | succ d ih =>
    intro k p hp hk
    obtain ⟨k, rfl⟩ : ∃ m, k = m + 1 := ⟨k - 1, by omega⟩
    have hb := pow2_bd (n := p + 1) (by omega)
    have e : wrap64 ((2 : Int) ^ p * 2) = 2 ^ (p + 1) := by rw [← Int.pow_succ]; exact w64 (by omega) (by omega)
    rw [credenzaref01_Power.l0, if_pos (by omega), e, wnext (show p < n by omega) (by omega)]
    exact ih k (p + 1) (by omega) (by omega)
theorem ref_Half_some {a : Int} {n : Nat} (hn : n ≤ 62) (ha1 : -4611686018427387904 ≤ a) (ha2 : a ≤ 4611686018427387904) {k : Nat} (hk : 63 ≤ k) : credenzaref01_Half.f k a (n : Int) = some (rnd a (2 ^ n)) := by
  obtain ⟨hp1, hp2⟩ := pow2_bd hn
  have e1 : cutR (n : Int) 0 62 = (n : Int) := by unfold cutR; rw [if_neg (by omega), if_neg (by omega)]
  have e2 : credenzaref01_Power.f k (n : Int) = some (2 ^ n) := power_loop n hn n k 0 (by omega) (by omega)
  have e3 := ref_Ratio_some (a := a) (b := 2 ^ n) (by omega) ha1 ha2 hp2
  rw [credenzaref01_Half.f, ref_Cut_some, Option.bind_some, e1, e2, Option.bind_some, e3, Option.bind_some]
theorem tdiv65536 {a : Int} (h : 0 ≤ a) : Int.tdiv a 65536 = a / 65536 := Int.tdiv_eq_ediv_of_nonneg h
theorem exp_j0 {y : Int} (hy : -2147483648 ≤ y) (hy2 : y ≤ 0) {k : Nat} (hk : 64 ≤ k) : credenzaref02_Exp.j0 k y = some (expR y) := by
  obtain ⟨k, rfl⟩ : ∃ m, k = m + 1 := ⟨k - 1, by omega⟩
  have hif : (if y < 0 then y else 0) = y := by split <;> omega
  obtain ⟨b1, b2, b3, b4⟩ := expT_bd (x := y) ⟨by omega, by omega⟩
  rw [hif] at b1 b2
  have hT : expT y = rnd (y * 94548) 65536 := by unfold expT; rw [hif]
  have e1 : wrap64 y = y := w64 (by omega) (by omega)
  have e2 : wrap64 (y * 94548) = y * 94548 := w64 (by omega) (by omega)
  have e3 : credenzaref01_Ratio.f (y * 94548) 65536 = some (expT y) := by rw [hT]; exact ref_Ratio_some (by omega) (by omega) (by omega) (by omega)
  have e3' : credenzaref01_Floor.f (expT y) 65536 = some (expT y / 65536) := ref_Floor_some (by omega) (by omega) (by omega) (by omega)
  have e4 : wrap64 (-(expT y / 65536)) = -(expT y / 65536) := w64 (by omega) (by omega)
  have e5 : wrap64 (expT y / 65536 * 65536) = expT y / 65536 * 65536 := w64 (by omega) (by omega)
  have e6 : wrap64 (expT y - expT y / 65536 * 65536) = expT y % 65536 := by rw [w64 (by omega) (by omega), emod_eq]
  have hf1 : 0 ≤ expT y % 65536 := by omega
  have hf2 : expT y % 65536 ≤ 65535 := by omega
  obtain ⟨a1, a2, a3, a4, a5, a6, a7, a8, a9, a10⟩ := of2_bd hf1 hf2
  rw [credenzaref02_Exp.j0, e1, e2, e3, Option.bind_some, e3', Option.bind_some, e4, expR]
  by_cases c : -(expT y / 65536) > 62
  · rw [if_pos c, if_pos c]
  · have e8 := ref_Half_some (a := of2R (expT y % 65536)) (n := (-(expT y / 65536)).toNat) (by omega) (by omega) (by omega) (k := k) (by omega)
    rw [Int.toNat_of_nonneg (by omega)] at e8
    rw [if_neg c, if_neg c, e5, e6]
    generalize expT y % 65536 = f at *
    have g1 : wrap64 (f * 5180) = f * 5180 := w64 (by omega) (by omega)
    have g2 : wrap64 (f * 5180 / 65536) = f * 5180 / 65536 := w64 (by omega) (by omega)
    have g2' : wrap64 (14743 + f * 5180 / 65536) = 14743 + f * 5180 / 65536 := w64 (by omega) (by omega)
    have g3 : wrap64 (f * (14743 + f * 5180 / 65536)) = f * (14743 + f * 5180 / 65536) := w64 (by omega) (by omega)
    have g4 : wrap64 (f * (14743 + f * 5180 / 65536) / 65536) = f * (14743 + f * 5180 / 65536) / 65536 := w64 (by omega) (by omega)
    have g4' : wrap64 (45613 + f * (14743 + f * 5180 / 65536) / 65536) = 45613 + f * (14743 + f * 5180 / 65536) / 65536 := w64 (by omega) (by omega)
    have g5 : wrap64 (f * (45613 + f * (14743 + f * 5180 / 65536) / 65536)) = f * (45613 + f * (14743 + f * 5180 / 65536) / 65536) := w64 (by omega) (by omega)
    have g6 : wrap64 (f * (45613 + f * (14743 + f * 5180 / 65536) / 65536) / 65536) = f * (45613 + f * (14743 + f * 5180 / 65536) / 65536) / 65536 := w64 (by omega) (by omega)
    have g7 : wrap64 (65536 + f * (45613 + f * (14743 + f * 5180 / 65536) / 65536) / 65536) = of2R f := w64 (by unfold of2R at a9; omega) (by unfold of2R at a10; omega)
    rw [g1, tdiv65536 (a := f * 5180) (by omega), g2, g2', g3, tdiv65536 a3, g4, g4', g5, tdiv65536 a7, g6, g7, e8, Option.bind_some]
theorem expR_pos {x : Int} (h : 0 ≤ x) : expR x = expR 0 := by
  have : expT x = expT 0 := by unfold expT; rw [if_neg (by omega), if_neg (by omega)]
  unfold expR
  rw [this]
theorem ref_Exp_some {x : Int} (hx : I32 x) {k : Nat} (hk : 64 ≤ k) : credenzaref02_Exp.f k x = some (expR x) := by
  unfold I32 at hx
  rw [credenzaref02_Exp.f]
  by_cases c : x > 0
  · rw [if_pos c, exp_j0 (by omega) (by omega) hk, expR_pos (x := x) (by omega)]
  · rw [if_neg c, exp_j0 (by omega) (by omega) hk]
theorem expR_0 : expR 0 = 65536 := by decide +kernel
theorem expR_bd {x : Int} (hx : I32 x) : 0 ≤ expR x ∧ expR x ≤ 131072 := by
  obtain ⟨b1, b2, b3, b4⟩ := expT_bd hx
  unfold expR
  split
  · omega
  · have hof := (of2_bd (f := expT x % 65536) (by omega) (by omega)).2.2.2.2.2.2.2.2
    obtain ⟨hp1, hp2⟩ := pow2_bd (n := (-(expT x / 65536)).toNat) (by omega)
    generalize (2 : Int) ^ (-(expT x / 65536)).toNat = b at *
    generalize of2R (expT x % 65536) = a at *
    have h1 := div_bd (a := a) (b := b) (by omega) 131071 (by omega) (by omega)
    have h2 : 0 ≤ a / b := Int.ediv_nonneg (by omega) (by omega)
    unfold rnd
    split <;> omega

/-- the greatest one -/
def topR : List Int → Int
  | [] => 0
  | x :: xs => xs.foldl (fun a b => if a < b then b else a) x
theorem mx_eq (a b : Int) : mx a b = if a < b then b else a := rfl
theorem fold_take {l : List Int} {p : Nat} (h : p < l.length) (h0 : 0 < p) : topR (l.take (p + 1)) = if topR (l.take p) < rd l (p : Int) then rd l (p : Int) else topR (l.take p) := by
  rw [take_rd h]
  cases hl : l.take p with
  | nil =>
    have h3 : (l.take p).length = 0 := by rw [hl]; rfl
    rw [List.length_take] at h3
    omega
  | cons x xs =>
    simp only [topR, List.cons_append, List.foldl_append, List.foldl_cons, List.foldl_nil]
    exact ite_congr rfl (fun _ => rfl) (fun _ => rfl)
theorem max_loop (l : List Int) (hl : l.length ≤ 1000000) : ∀ (d k p : Nat), p + d = l.length → d < k → 0 < p → slices_Max_int32_int32.l0 k l (topR (l.take p)) (p : Int) = some (topR l) := by
  intro d
  induction d with
  | zero =>
    intro k p hp hk h0
    obtain ⟨k, rfl⟩ : ∃ m, k = m + 1 := ⟨k - 1, by omega⟩
    rw [slices_Max_int32_int32.l0, if_neg (by omega), List.take_of_length_le (by omega)]
  | succ d ih =>
    intro k p hp hk h0
    obtain ⟨k, rfl⟩ : ∃ m, k = m + 1 := ⟨k - 1, by omega⟩
    have hlt : p < l.length := by omega
    rw [slices_Max_int32_int32.l0, if_pos (by omega), if_pos (by omega), mx_eq, ← fold_take hlt h0, wnext hlt (by omega)]
    exact ih k (p + 1) (by omega) (by omega) (by omega)
theorem take_one {l : List Int} (h : 0 < l.length) : topR (l.take 1) = rd l 0 := by
  cases l with
  | nil => simp at h
  | cons x xs => simp [topR, rd]
theorem max_some {l : List Int} (h : 0 < l.length) (hl : l.length ≤ 1000000) {k : Nat} (hk : l.length < k) : slices_Max_int32_int32.f k l = some (topR l) := by
  rw [slices_Max_int32_int32.f, if_neg (by omega), if_pos (by omega), ← take_one h]
  exact max_loop l hl (l.length - 1) k 1 (by omega) (by omega) (by omega)
theorem index_some (l : List Int) (a : Int) (hl : l.length ≤ 1000000) : ∀ (d k p : Nat), p + d = l.length → d < k → ∃ r, slices_Index_int32_int32.l0 k l a (l.length : Int) (p : Int) = some r := by
  intro d
  induction d with
  | zero =>
    intro k p hp hk
    obtain ⟨k, rfl⟩ : ∃ m, k = m + 1 := ⟨k - 1, by omega⟩
    exact ⟨_, by rw [slices_Index_int32_int32.l0, if_neg (by omega)]⟩
  | succ d ih =>
    intro k p hp hk
    obtain ⟨k, rfl⟩ : ∃ m, k = m + 1 := ⟨k - 1, by omega⟩
    have hlt : p < l.length := by omega
    rw [slices_Index_int32_int32.l0, if_pos (by omega), if_pos (by omega), if_pos (by omega)]
    by_cases c : a = rd l (p : Int)
    · exact ⟨_, by rw [if_pos c]⟩
    · rw [if_neg c, wnext hlt (by omega)]
      exact ih k (p + 1) (by omega) (by omega)
theorem dot_Top_some {l : List Int} (h : 0 < l.length) (hl : l.length ≤ 1000000) {k : Nat} (hk : l.length < k) : ∃ r, dot_Top.f k l = some (r, topR l, 0) := by
  obtain ⟨r, hr⟩ := index_some l (topR l) hl l.length k 0 (by omega) hk
  have hr' : slices_Index_int32_int32.f k l (topR l) = some r := hr
  exact ⟨r, by rw [dot_Top.f, if_neg (by omega), max_some h hl hk, Option.bind_some, hr', Option.bind_some]⟩
theorem ref_top_loop (l : List Int) (hl : l.length ≤ 1000000) : ∀ (d k p q : Nat), p + d = l.length → d < k → 0 < p → q < p → rd l (q : Int) = topR (l.take p) → ∃ r : Nat, r < l.length ∧ credenzaref03_Top.l0 k l (q : Int) (p : Int) = some (r : Int) ∧ rd l (r : Int) = topR l := by
  intro d
  induction d with
  | zero =>
    intro k p q hp hk h0 hq h
    obtain ⟨k, rfl⟩ : ∃ m, k = m + 1 := ⟨k - 1, by omega⟩
    exact ⟨q, by omega, by rw [credenzaref03_Top.l0, if_neg (by omega)], by rw [h, List.take_of_length_le (by omega)]⟩
  | succ d ih =>
    intro k p q hp hk h0 hq h
    obtain ⟨k, rfl⟩ : ∃ m, k = m + 1 := ⟨k - 1, by omega⟩
    have hlt : p < l.length := by omega
    have hf := fold_take hlt h0
    rw [credenzaref03_Top.l0, if_pos (by omega), if_pos (by omega), if_pos (by omega), if_pos (by omega), wnext hlt (by omega)]
    by_cases c : rd l (p : Int) > rd l (q : Int)
    · rw [if_pos c]
      exact ih k (p + 1) p (by omega) (by omega) (by omega) (by omega) (by rw [hf, if_pos (by omega)])
    · rw [if_neg c]
      exact ih k (p + 1) q (by omega) (by omega) (by omega) (by omega) (by rw [hf, if_neg (by omega), h])
theorem ref_Top_some {l : List Int} (h : 0 < l.length) (hl : l.length ≤ 1000000) {k : Nat} (hk : l.length < k) : ∃ r : Nat, r < l.length ∧ credenzaref03_Top.f k l = some (r : Int) ∧ rd l (r : Int) = topR l := by
  obtain ⟨k, rfl⟩ : ∃ m, k = m + 1 := ⟨k - 1, by omega⟩
  have := ref_top_loop l hl (l.length - 1) k 1 0 (by omega) (by omega) (by omega) (by omega) (take_one h).symm
  rw [credenzaref03_Top.f, credenzaref03_Top.l0, if_pos (by omega), if_pos (by omega), if_pos (by omega), if_pos (by omega), if_neg (by simp), show wrap64 ((0 : Int) + 1) = ((1 : Nat) : Int) from w64 (by omega) (by omega)]
  exact this
/-- weights of scores -/
def wR (top x : Int) : Int := expR (wideR (x - top))
def weightsR (l : List Int) : List Int := l.map (wR (topR l))
theorem topR_key {l : List Int} (hh : 0 < l.length) : ∀ p : Nat, 0 < p → p ≤ l.length → ∃ r : Nat, r < p ∧ rd l (r : Int) = topR (l.take p) := by
  intro p
  induction p with
  | zero => intro h0; omega
  | succ p ih =>
    intro _ hp
    by_cases c : p = 0
    · subst c
      exact ⟨0, by omega, (take_one hh).symm⟩
    · obtain ⟨r, hr, e⟩ := ih (by omega) (by omega)
      have hf := fold_take (l := l) (p := p) (by omega) (by omega)
      by_cases c2 : topR (l.take p) < rd l (p : Int)
      · exact ⟨p, by omega, by rw [hf, if_pos c2]⟩
      · exact ⟨r, by omega, by rw [hf, if_neg c2, e]⟩
theorem topR_mem {l : List Int} (h : 0 < l.length) : topR l ∈ l := by
  obtain ⟨r, hr, e⟩ := topR_key h l.length h (Nat.le_refl _)
  rw [List.take_length] at e
  rw [← e]
  exact rd_mem hr
theorem w_loop (l : List Int) (top : Int) (ht : I32 top) (hl : l.length ≤ 1000000) (hw : A32 l) : ∀ (d k p : Nat), p + d = l.length → d < k → soft_Weights.l0 k top ((l.take p).map (wR top)) l (l.length : Int) (p : Int) = some (l.map (wR top), 0) := by
  intro d
  unfold I32 at ht
  induction d with
  | zero =>
    intro k p hp hk
    obtain ⟨k, rfl⟩ : ∃ m, k = m + 1 := ⟨k - 1, by omega⟩
    rw [soft_Weights.l0, if_neg (by omega), List.take_of_length_le (by omega)]
  | succ d ih =>
    intro k p hp hk
    obtain ⟨k, rfl⟩ : ∃ m, k = m + 1 := ⟨k - 1, by omega⟩
    have hlt : p < l.length := by omega
    have hx := hw _ (rd_mem hlt)
    unfold I32 at hx
    have hwd := wideR_bd (rd l (p : Int) - top)
    have e1 : fix_Sub.f (rd l (p : Int)) top = some (wideR (rd l (p : Int) - top)) := by
      rw [fix_Sub.f, w64 (x := rd l (p : Int)) (by omega) (by omega), w64 (x := top) (by omega) (by omega), w64 (x := rd l (p : Int) - top) (by omega) (by omega), fix_Wide_some, Option.bind_some]
    have e2 := expo_Exp_some (x := wideR (rd l (p : Int) - top)) hwd
    have e3 : (l.take p).map (wR top) ++ [expR (wideR (rd l (p : Int) - top))] = (l.take (p + 1)).map (wR top) := by rw [take_rd hlt]; simp [wR]
    rw [soft_Weights.l0, if_pos (by omega), if_pos (by omega), if_pos (by omega), e1, Option.bind_some, e2, Option.bind_some, if_pos (by simp; omega), e3, wnext hlt (by omega)]
    exact ih k (p + 1) (by omega) (by omega)
theorem soft_Weights_some {l : List Int} (h : 0 < l.length) (hl : l.length ≤ 1024) (hw : A32 l) {k : Nat} (hk : l.length < k) : soft_Weights.f k l = some (weightsR l, 0) := by
  obtain ⟨r, hr⟩ := dot_Top_some h (by omega) hk
  rw [soft_Weights.f, if_neg (by omega), hr, Option.bind_some, if_pos rfl]
  exact w_loop l (topR l) (hw _ (topR_mem h)) (by omega) hw l.length k 0 (by omega) hk
theorem ref_w_loop (l : List Int) (top : Int) (ht : I32 top) (hl : l.length ≤ 1000000) (hw : A32 l) : ∀ (d k p : Nat), p + d = l.length → d + 64 < k → credenzaref04_Weights.l0 k l top ((l.take p).map (wR top)) (p : Int) = some (l.map (wR top)) := by
  intro d
  unfold I32 at ht
  induction d with
  | zero =>
    intro k p hp hk
    obtain ⟨k, rfl⟩ : ∃ m, k = m + 1 := ⟨k - 1, by omega⟩
    rw [credenzaref04_Weights.l0, if_neg (by omega), List.take_of_length_le (by omega)]
  | succ d ih =>
    intro k p hp hk
    obtain ⟨k, rfl⟩ : ∃ m, k = m + 1 := ⟨k - 1, by omega⟩
    have hlt : p < l.length := by omega
    have hx := hw _ (rd_mem hlt)
    unfold I32 at hx
    have hwd := wideR_bd (rd l (p : Int) - top)
    have e2 := ref_Exp_some (x := wideR (rd l (p : Int) - top)) hwd (k := k) (by omega)
    have e3 : (l.take p).map (wR top) ++ [expR (wideR (rd l (p : Int) - top))] = (l.take (p + 1)).map (wR top) := by rw [take_rd hlt]; simp [wR]
    rw [credenzaref04_Weights.l0, if_pos (by omega), if_pos (by omega), w64 (x := rd l (p : Int)) (by omega) (by omega), w64 (x := top) (by omega) (by omega), w64 (x := rd l (p : Int) - top) (by omega) (by omega), ref_Wide_some, Option.bind_some, e2, Option.bind_some, if_pos (by simp; omega), e3, wnext hlt (by omega)]
    exact ih k (p + 1) (by omega) (by omega)
theorem ref_Weights_some {l : List Int} (h : 0 < l.length) (hl : l.length ≤ 1024) (hw : A32 l) {k : Nat} (hk : l.length + 64 < k) : credenzaref04_Weights.f k l = some (weightsR l) := by
  obtain ⟨r, hr, e, e2⟩ := ref_Top_some h (by omega) (k := k) (by omega)
  rw [credenzaref04_Weights.f, e, Option.bind_some, if_pos (by omega), if_pos (by omega), e2]
  exact ref_w_loop l (topR l) (hw _ (topR_mem h)) (by omega) hw l.length k 0 (by omega) (by omega)
end Go.Proofs.Yteflolamihhmdaa.Pure

namespace Go.Proofs.Yteflolamihhmdaa.Pure
open Go.RowKit Go.Proofs.Yteflolamihhmdaa.Q Go.Proofs.YteflolamihhmdaaW.PrintWords Go.Proofs.YteflolamihhmdaaW.PrintLast

def sumR : List Int → Int
  | [] => 0
  | x :: xs => x + sumR xs
/-- weights: none below 0, none great -/
def WB (l : List Int) : Prop := ∀ x ∈ l, 0 ≤ x ∧ x ≤ 131072
theorem sumR_bd : ∀ {l : List Int}, WB l → 0 ≤ sumR l ∧ sumR l ≤ l.length * 131072
  | [], _ => by simp [sumR]
  | x :: xs, h => by
    have h1 := h x (by simp)
    have h2 := sumR_bd (l := xs) (fun z hz => h z (by simp [hz]))
    simp only [sumR, List.length_cons]
    omega
theorem soft_Sum_loop (l : List Int) (hl : l.length ≤ 1024) (hw : WB l) : ∀ (d k p : Nat) (s : Int), p + d = l.length → d < k → 0 ≤ s → s ≤ p * 131072 → soft_Sum.l0 k s l (l.length : Int) (p : Int) = some (s + sumR (l.drop p)) := by
  intro d
  induction d with
  | zero =>
    intro k p s hp hk h1 h2
    obtain ⟨k, rfl⟩ : ∃ m, k = m + 1 := ⟨k - 1, by omega⟩
    rw [soft_Sum.l0, if_neg (by omega), List.drop_eq_nil_of_le (by omega)]
    simp [sumR]
  | succ d ih =>
    intro k p s hp hk h1 h2
    obtain ⟨k, rfl⟩ : ∃ m, k = m + 1 := ⟨k - 1, by omega⟩
    have hlt : p < l.length := by omega
    have hx := hw _ (rd_mem hlt)
    rw [soft_Sum.l0, if_pos (by omega), if_pos (by omega), if_pos (by omega), wnext hlt (by omega), drop_rd hlt, w64 (x := s + rd l (p : Int)) (by omega) (by omega), ih k (p + 1) _ (by omega) (by omega) (by omega) (by omega), sumR]
    congr 1
    omega
theorem soft_Sum_some {l : List Int} (hl : l.length ≤ 1024) (hw : WB l) {k : Nat} (hk : l.length < k) : soft_Sum.f k l = some (sumR l) := by
  have := soft_Sum_loop l hl hw l.length k 0 0 (by omega) hk (by omega) (by omega)
  simpa [soft_Sum.f] using this
theorem ref_Sum_loop (l : List Int) (hl : l.length ≤ 1024) (hw : WB l) : ∀ (d k p : Nat) (s : Int), p + d = l.length → d < k → 0 ≤ s → s ≤ p * 131072 → credenzaref04_Sum.l0 k l s (p : Int) = some (s + sumR (l.drop p)) := by
  intro d
  induction d with
  | zero =>
    intro k p s hp hk h1 h2
    obtain ⟨k, rfl⟩ : ∃ m, k = m + 1 := ⟨k - 1, by omega⟩
    rw [credenzaref04_Sum.l0, if_neg (by omega), List.drop_eq_nil_of_le (by omega)]
    simp [sumR]
  | succ d ih =>
    intro k p s hp hk h1 h2
    obtain ⟨k, rfl⟩ : ∃ m, k = m + 1 := ⟨k - 1, by omega⟩
    have hlt : p < l.length := by omega
    have hx := hw _ (rd_mem hlt)
    rw [credenzaref04_Sum.l0, if_pos (by omega), if_pos (by omega), wnext hlt (by omega), drop_rd hlt, w64 (x := s + rd l (p : Int)) (by omega) (by omega), ih k (p + 1) _ (by omega) (by omega) (by omega) (by omega), sumR]
    congr 1
    omega
theorem ref_Sum_some {l : List Int} (hl : l.length ≤ 1024) (hw : WB l) {k : Nat} (hk : l.length < k) : credenzaref04_Sum.f k l = some (sumR l) := by
  have := ref_Sum_loop l hl hw l.length k 0 0 (by omega) hk (by omega) (by omega)
  simpa [credenzaref04_Sum.f] using this
theorem weightsR_wb {l : List Int} : WB (weightsR l) := by
  intro x hx
  obtain ⟨y, _, rfl⟩ := List.mem_map.1 hx
  exact expR_bd (wideR_bd _)
theorem weightsR_length (l : List Int) : (weightsR l).length = l.length := by simp [weightsR]
theorem sumR_mem : ∀ {l : List Int} {x : Int}, WB l → x ∈ l → x ≤ sumR l
  | y :: l, x, h, hx => by
    have h1 := h y (by simp)
    have h2 := sumR_bd (l := l) (fun z hz => h z (by simp [hz]))
    simp only [sumR]
    rcases List.mem_cons.1 hx with rfl | hx
    · omega
    · have := sumR_mem (fun z hz => h z (by simp [hz])) hx
      omega
theorem weightsR_pos {l : List Int} (h : 0 < l.length) : 65536 ≤ sumR (weightsR l) := by
  have h1 : wR (topR l) (topR l) ∈ weightsR l := List.mem_map.2 ⟨_, topR_mem h, rfl⟩
  have h2 : wR (topR l) (topR l) = 65536 := by
    unfold wR
    rw [Int.sub_self]
    exact expR_0
  have := sumR_mem weightsR_wb h1
  omega

/-- a token's values, so much each, put to sums -/
def addR (w : Int) : List Int → List Int → List Int
  | s :: ss, x :: xs => (s + w * narR x) :: addR w ss xs
  | _, _ => []
def gR : List Int → List Int → List (List Int) → List Int
  | sums, w :: ws, v :: vs => gR (addR w sums v) ws vs
  | sums, _, _ => sums
theorem addR_length (w : Int) : ∀ (s v : List Int), s.length ≤ v.length → (addR w s v).length = s.length
  | [], [], _ => rfl
  | [], _ :: _, _ => rfl
  | _ :: _, [], h => by simp at h
  | a :: s, b :: v, h => by simp only [addR, List.length_cons]; rw [addR_length w s v (by simpa using h)]
theorem wn_bd {w x : Int} (hw : 0 ≤ w ∧ w ≤ 131072) : -1099511627776 ≤ w * narR x ∧ w * narR x ≤ 1099511627776 := mul_bd (A := 131072) (B := 8388608) (by omega) hw.2 (narR_bd x).1 (narR_bd x).2
/-- all sums are within B -/
def SB (B : Int) (l : List Int) : Prop := ∀ x ∈ l, -B ≤ x ∧ x ≤ B
theorem addR_sb {w B : Int} (hw : 0 ≤ w ∧ w ≤ 131072) : ∀ {s v : List Int}, SB B s → SB (B + 1099511627776) (addR w s v)
  | [], [], _ => by simp [addR, SB]
  | [], _ :: _, _ => by simp [addR, SB]
  | _ :: _, [], _ => by simp [addR, SB]
  | a :: s, b :: v, h => by
    intro x hx
    have h1 := h a (by simp)
    have h2 := wn_bd (x := b) hw
    rcases List.mem_cons.1 hx with rfl | hx
    · omega
    · exact addR_sb hw (fun z hz => h z (by simp [hz])) x hx
theorem gadd_some {w : Int} (hw : 0 ≤ w ∧ w ≤ 131072) {v : List Int} (hv : A32 v) : ∀ (rest pre : List Int), pre.length + rest.length ≤ v.length → SB 4503599627370496 rest → attn_gadd.l w v rest.length pre.length (pre ++ rest) = some (pre ++ addR w rest (v.drop pre.length))
  | [], pre, hl, hs => by
    rw [List.length_nil, attn_gadd.l]
    cases hd : v.drop pre.length <;> simp [addR]
  | s :: rest, pre, hl, hs => by
    simp only [List.length_cons] at hl
    have hlv : pre.length < v.length := by omega
    have h1 := hs s (by simp)
    have h2 := wn_bd (x := rd v (pre.length : Int)) hw
    have hn := narR_bd (rd v (pre.length : Int))
    have e1 : rd (pre ++ s :: rest) (pre.length : Int) = s := by simp [rd]
    have e2 : (pre ++ s :: rest).set pre.length (s + w * narR (rd v (pre.length : Int))) = (pre ++ [s + w * narR (rd v (pre.length : Int))]) ++ rest := by simp
    have ih := gadd_some hw hv rest (pre ++ [s + w * narR (rd v (pre.length : Int))]) (by simp; omega) (fun z hz => hs z (by simp [hz]))
    rw [List.length_append, List.length_singleton] at ih
    rw [List.length_cons, attn_gadd.l, if_pos hlv, attn_narrow_some (hv _ (rd_mem hlv)), Option.bind_some, w64 (x := w * narR (rd v (pre.length : Int))) (by omega) (by omega), e1, w64 (x := s + w * narR (rd v (pre.length : Int))) (by omega) (by omega), e2, ih, drop_rd hlv, addR]
    simp
theorem gsum_some {wide : Nat} (ws : List Int) (hw : WB ws) (hn : ws.length ≤ 1024) : ∀ (vals : List (List Int)) (a : Nat) (sums : List Int), a + vals.length = ws.length → sums.length = wide → (∀ v ∈ vals, v.length = wide ∧ A32 v) → SB (a * 1099511627776) sums → attn_gsum.l ws vals a sums = some (gR sums (ws.drop a) vals) := by
  intro vals
  induction vals with
  | nil =>
    intro a sums ha hs hv hb
    rw [attn_gsum.l]
    cases hd : ws.drop a <;> simp [gR]
  | cons v vals ih =>
    intro a sums ha hs hv hb
    simp only [List.length_cons] at ha
    have hlt : a < ws.length := by omega
    obtain ⟨hvl, hv32⟩ := hv v (by simp)
    have hww := hw _ (rd_mem hlt)
    have h1 := gadd_some hww hv32 sums [] (by simp; omega) (fun x hx => by have := hb x hx; omega)
    simp only [List.nil_append, List.length_nil, List.drop_zero] at h1
    have h2 : SB ((a + 1 : Nat) * 1099511627776) (addR (rd ws (a : Int)) sums v) := by
      have := addR_sb hww (v := v) hb
      intro x hx
      have := this x hx
      omega
    have ih := ih (a + 1) (addR (rd ws (a : Int)) sums v) (by omega) (by rw [addR_length _ _ _ (by omega)]; exact hs) (fun z hz => hv z (by simp [hz])) h2
    rw [attn_gsum.l, if_pos hlt, h1, Option.bind_some, ih, drop_rd hlt, gR]
/-- a sum by the weights' sum -/
def outR (ws : List Int) (x : Int) : Int := narR (rnd x (sumR ws))
theorem gout_some {ws : List Int} (hw : WB ws) (hn : ws.length ≤ 1024) (hp : 0 < sumR ws) {k : Nat} (hk : ws.length < k) : ∀ (xs pre rest : List Int), rest.length = xs.length → SB 4503599627370496 xs → attn_gout.l k ws xs pre.length (pre ++ rest) = some (pre ++ xs.map (outR ws))
  | [], pre, rest, hr, hs => by
    rw [attn_gout.l, List.eq_nil_of_length_eq_zero hr]
    rfl
  | x :: xs, pre, [], hr, hs => by simp at hr
  | x :: xs, pre, r :: rest, hr, hs => by
    have hb := sumR_bd hw
    have hx := hs x (by simp)
    have e2 : (pre ++ r :: rest).set pre.length (narR (rnd x (sumR ws))) = (pre ++ [outR ws x]) ++ rest := by simp [outR]
    have ih := gout_some hw hn hp hk xs (pre ++ [outR ws x]) rest (by simpa using hr) (fun z hz => hs z (by simp [hz]))
    rw [List.length_append, List.length_singleton] at ih
    rw [attn_gout.l, soft_Sum_some hn hw hk, Option.bind_some, fix_Ratio_some (by omega) (by omega) (by omega) (by omega), Option.bind_some, fix_Narrow_some, Option.bind_some, e2, ih]
    simp
theorem gR_sb (ws : List Int) (hw : WB ws) (hn : ws.length ≤ 1024) : ∀ (vals : List (List Int)) (a : Nat) (sums : List Int), a + vals.length ≤ ws.length → SB (a * 1099511627776) sums → SB 4503599627370496 (gR sums (ws.drop a) vals) := by
  intro vals
  induction vals with
  | nil =>
    intro a sums ha hb
    have e : gR sums (ws.drop a) [] = sums := by cases hd : ws.drop a <;> simp [gR]
    rw [e]
    intro x hx
    have := hb x hx
    simp only [List.length_nil] at ha
    omega
  | cons v vals ih =>
    intro a sums ha hb
    simp only [List.length_cons] at ha
    have hlt : a < ws.length := by omega
    have hww := hw _ (rd_mem hlt)
    rw [drop_rd hlt, gR]
    refine ih (a + 1) _ (by omega) ?_
    have := addR_sb hww (v := v) hb
    intro x hx
    have := this x hx
    omega
theorem gR_length : ∀ (ws : List Int) (vals : List (List Int)) (sums : List Int), (∀ v ∈ vals, v.length = sums.length) → (gR sums ws vals).length = sums.length
  | [], vals, sums, _ => by cases vals <;> simp [gR]
  | _ :: _, [], sums, _ => by simp [gR]
  | w :: ws, v :: vals, sums, h => by
    have hv := h v (by simp)
    have hl := addR_length w sums v (by omega)
    rw [gR, gR_length ws vals _ (fun z hz => by rw [hl]; exact h z (by simp [hz])), hl]
/-- what is gathered -/
def mixR (ws : List Int) (vals : List (List Int)) (wide : Nat) : List Int := (gR (List.replicate wide 0) ws vals).map (outR ws)
theorem attn_gather_some {ws : List Int} {vals : List (List Int)} {wide : Nat} (hl : ws.length = vals.length) (hn : ws.length ≤ 1024) (hw : WB ws) (hp : 0 < sumR ws) (hv : ∀ v ∈ vals, v.length = wide ∧ A32 v) {k : Nat} (hk : ws.length < k) : attn_gather.l k ws vals wide = some (mixR ws vals wide) := by
  have h0 : SB ((0 : Nat) * 1099511627776) (List.replicate wide 0) := by
    intro x hx
    obtain ⟨_, rfl⟩ := List.mem_replicate.1 hx
    omega
  have h1 := gsum_some (wide := wide) ws hw hn vals 0 (List.replicate wide 0) (by omega) (by simp) hv h0
  have h2 := gR_sb ws hw hn vals 0 (List.replicate wide 0) (by omega) h0
  have h3 := gR_length (ws.drop 0) vals (List.replicate wide 0) (fun v hv' => by rw [(hv v hv').1]; simp)
  have h4 := gout_some hw hn hp hk (gR (List.replicate wide 0) (ws.drop 0) vals) [] (List.replicate wide 0) (by rw [h3]) h2
  rw [List.drop_zero] at h1 h4
  simp only [List.nil_append, List.length_nil] at h4
  rw [attn_gather.l, h1, Option.bind_some, h4]
  rfl

/-- the sum at one place -/
def colR : List Int → List (List Int) → Int → Int
  | w :: ws, v :: vals, i => w * narR (rd v i) + colR ws vals i
  | _, _, _ => 0
theorem addR_at (w : Int) : ∀ (s v : List Int) (i : Nat), s.length ≤ v.length → i < s.length → rd (addR w s v) (i : Int) = rd s (i : Int) + w * narR (rd v (i : Int))
  | [], v, i, _, h => by simp at h
  | a :: s, [], i, h, _ => by simp at h
  | a :: s, b :: v, 0, _, _ => by simp [addR, rd]
  | a :: s, b :: v, i + 1, h, hi => by
    have ih := addR_at w s v i (by simpa using h) (by simpa using hi)
    simp only [rd, addR] at ih ⊢
    simpa using ih
theorem gR_at : ∀ (ws : List Int) (vals : List (List Int)) (sums : List Int) (i : Nat), (∀ v ∈ vals, v.length = sums.length) → i < sums.length → rd (gR sums ws vals) (i : Int) = rd sums (i : Int) + colR ws vals (i : Int)
  | [], vals, sums, i, _, _ => by cases vals <;> simp [gR, colR]
  | _ :: _, [], sums, i, _, _ => by simp [gR, colR]
  | w :: ws, v :: vals, sums, i, h, hi => by
    have hv := h v (by simp)
    have hl := addR_length w sums v (by omega)
    rw [gR, gR_at ws vals _ i (fun z hz => by rw [hl]; exact h z (by simp [hz])) (by omega), addR_at w sums v i (by omega) hi, colR]
    omega
theorem mixR_length {ws : List Int} {vals : List (List Int)} {wide : Nat} (hv : ∀ v ∈ vals, v.length = wide) : (mixR ws vals wide).length = wide := by
  unfold mixR
  rw [List.length_map, gR_length ws vals _ (fun v h => by rw [hv v h]; simp), List.length_replicate]
theorem mixR_at {ws : List Int} {vals : List (List Int)} {wide : Nat} (hv : ∀ v ∈ vals, v.length = wide) {i : Nat} (hi : i < wide) : rd (mixR ws vals wide) (i : Int) = outR ws (colR ws vals (i : Int)) := by
  have hl := gR_length ws vals (List.replicate wide 0) (fun v h => by rw [hv v h]; simp)
  rw [List.length_replicate] at hl
  have h1 := gR_at ws vals (List.replicate wide 0) i (fun v h => by rw [hv v h]; simp) (by simpa using hi)
  have h2 : rd (List.replicate wide 0) (i : Int) = 0 := by simp [rd, hi]
  rw [h2, Int.zero_add] at h1
  rw [← h1]
  unfold mixR
  rw [rd_at (by rw [List.length_map, hl]; exact hi), rd_at (by rw [hl]; exact hi), List.getElem_map]

def rowAt (l : List (List Int)) (t : Int) : List Int := l.getD t.toNat []
theorem rowAt_at {l : List (List Int)} {t : Nat} (h : t < l.length) : rowAt l (t : Int) = l[t] := by simp [rowAt, List.getD_eq_getElem?_getD, List.getElem?_eq_getElem h]
theorem rowAt_mem {l : List (List Int)} {t : Nat} (h : t < l.length) : rowAt l (t : Int) ∈ l := by rw [rowAt_at h]; exact List.getElem_mem h
theorem drop_row {l : List (List Int)} {p : Nat} (h : p < l.length) : l.drop p = rowAt l (p : Int) :: l.drop (p + 1) := by rw [rowAt_at h]; exact List.drop_eq_getElem_cons h
theorem take_row {l : List (List Int)} {p : Nat} (h : p < l.length) : l.take (p + 1) = l.take p ++ [rowAt l (p : Int)] := by rw [rowAt_at h, List.take_succ_eq_append_getElem h]
theorem rowAt_map {l : List (List Int)} {t : Nat} (h : t < l.length) : rowAt (l.map nars) (t : Int) = nars (rowAt l (t : Int)) := by
  rw [rowAt_at (by simpa using h), rowAt_at h, List.getElem_map]
theorem rd_nars {l : List Int} {i : Nat} (h : i < l.length) : rd (nars l) (i : Int) = narR (rd l (i : Int)) := by
  rw [rd_at (by rw [nars_length]; exact h), rd_at h]
  simp [nars]
end Go.Proofs.Yteflolamihhmdaa.Pure

namespace Go.Proofs.Yteflolamihhmdaa.Pure
open Go.RowKit Go.Proofs.Yteflolamihhmdaa.Q Go.Proofs.YteflolamihhmdaaW.PrintWords Go.Proofs.YteflolamihhmdaaW.PrintLast

theorem rdL (l : List (List Int)) (t : Int) : rd_L8 l t = rowAt l t := rfl
/-- all rows are of n numbers -/
def Rows (n : Nat) (l : List (List Int)) : Prop := ∀ r ∈ l, r.length = n
def AA32 (l : List (List Int)) : Prop := ∀ r ∈ l, A32 r
theorem scores_some {q : List Int} (h1 : 1 ≤ q.length) (h2 : q.length ≤ 16) {k : Nat} (hk : 40 ≤ k) : ∀ (keys : List (List Int)) (out : List Int), Rows q.length keys → AA32 keys → attn_scores.l k (nars q) keys out = some (out ++ keys.map (scoreR q))
  | [], out, _, _ => by simp [attn_scores.l]
  | key :: keys, out, hr, ha => by
    have hl := hr key (by simp)
    have hb := dotR_bd (nars_nb q) (nars_nb key)
    rw [nars_length] at hb
    have e1 := sum_loop key (ha key (by simp)) (nars q) 0 0 (by rw [nars_length]; omega) (by rw [nars_length]; omega) (nars_nb q) (by omega) (by omega)
    rw [List.drop_zero, Int.zero_add] at e1
    have e2 := attn_scaled_some (s := dotR (nars q) (nars key)) (n := q.length) h1 h2 (by omega) (by omega) hk
    have ih := scores_some h1 h2 hk keys (out ++ [scoreR q key]) (fun r h => hr r (by simp [h])) (fun r h => ha r (by simp [h]))
    rw [attn_scores.l, e1, Option.bind_some, nars_length, e2, Option.bind_some]
    rw [show scaledR (dotR (nars q) (nars key)) q.length = scoreR q key from rfl, ih]
    simp

theorem mix_l1 (ws : List Int) (vals : List (List Int)) (wide i k : Nat) (acc : List Int) (hw : WB ws) (hl : ws.length = vals.length) (hn : ws.length ≤ 1024) (hr : Rows wide vals) (hi : i < wide) : ∀ (d p : Nat) (s : Int), p + d = vals.length → -(p * 1099511627776 : Int) ≤ s → s ≤ p * 1099511627776 →
    credenzaref04_Mix.l1 (k + d + 1) ws (vals.map nars) acc (i : Int) s (p : Int) = (credenzaref04_Sum.f k ws).bind fun t => (credenzaref01_Ratio.f (s + colR (ws.drop p) (vals.drop p) (i : Int)) t).bind fun y => (credenzaref01_Narrow.f y).bind fun z => if acc.length < 35184372088832 then credenzaref04_Mix.l0 k ws (vals.map nars) (acc ++ [z]) (wrap64 ((i : Int) + 1)) else none := by
  intro d
  induction d with
  | zero =>
    intro p s hp h1 h2
    rw [credenzaref04_Mix.l1, if_neg (by rw [List.length_map]; omega), show ws.drop p = [] from List.drop_eq_nil_of_le (by omega), show vals.drop p = [] from List.drop_eq_nil_of_le (by omega)]
    simp only [colR, Int.add_zero]
  | succ d ih =>
    intro p s hp h1 h2
    have hlt : p < vals.length := by omega
    have hlw : p < ws.length := by omega
    have hrl := hr _ (rowAt_mem hlt)
    have hww := hw _ (rd_mem hlw)
    have hm := wn_bd (x := rd (rowAt vals (p : Int)) (i : Int)) hww
    have hnr := narR_bd (rd (rowAt vals (p : Int)) (i : Int))
    rw [show k + (d + 1) + 1 = (k + d + 1) + 1 by omega, credenzaref04_Mix.l1, rdL, rowAt_map hlt, rd_nars (by omega), nars_length, hrl]
    rw [if_pos (by rw [List.length_map]; omega), if_pos (by omega), if_pos (by omega), if_pos (by omega), if_pos (by omega), wnext hlt (by omega), w64 (x := narR (rd (rowAt vals (p : Int)) (i : Int))) (by omega) (by omega), w64 (x := rd ws (p : Int) * narR (rd (rowAt vals (p : Int)) (i : Int))) (by omega) (by omega)]
    have hc : colR (ws.drop p) (vals.drop p) (i : Int) = rd ws (p : Int) * narR (rd (rowAt vals (p : Int)) (i : Int)) + colR (ws.drop (p + 1)) (vals.drop (p + 1)) (i : Int) := by rw [drop_rd hlw, drop_row hlt, colR]
    rw [hc]
    generalize rd ws (p : Int) * narR (rd (rowAt vals (p : Int)) (i : Int)) = m at *
    rw [w64 (x := s + m) (by omega) (by omega), ih (p + 1) (s + m) (by omega) (by omega) (by omega), Int.add_assoc]
theorem colR_bd : ∀ (ws : List Int) (vals : List (List Int)) (i : Int), WB ws → -(ws.length * 1099511627776 : Int) ≤ colR ws vals i ∧ colR ws vals i ≤ ws.length * 1099511627776 := by
  intro ws
  induction ws with
  | nil => intro vals i _; cases vals <;> simp [colR]
  | cons w ws ih =>
    intro vals i h
    cases vals with
    | nil => simp only [colR, List.length_cons]; omega
    | cons v vals =>
      have h1 := ih vals i (fun z hz => h z (by simp [hz]))
      have h2 := wn_bd (x := rd v i) (h w (by simp))
      simp only [colR, List.length_cons]
      omega
theorem mix_l0 (ws : List Int) (vals : List (List Int)) (wide : Nat) (hw : WB ws) (hp : 0 < sumR ws) (hl : ws.length = vals.length) (hn : ws.length ≤ 1024) (h0 : 0 < vals.length) (hr : Rows wide vals) (hwd : wide ≤ 16) : ∀ (d k i : Nat), i + d = wide → (d + 1) * (vals.length + 2) + 2 ≤ k → credenzaref04_Mix.l0 k ws (vals.map nars) ((mixR ws vals wide).take i) (i : Int) = some (mixR ws vals wide) := by
  intro d
  have hml := mixR_length (ws := ws) hr
  have hrow0 : (rd_L8 (vals.map nars) 0).length = wide := by
    have h1 := rowAt_map h0
    have h2 : ((0 : Nat) : Int) = 0 := rfl
    rw [h2] at h1
    rw [rdL, h1, nars_length]
    exact hr _ (rowAt_mem (t := 0) h0)
  have hsb := sumR_bd hw
  induction d with
  | zero =>
    intro k i hi hk
    obtain ⟨k, rfl⟩ : ∃ m, k = m + 1 := ⟨k - 1, by omega⟩
    rw [credenzaref04_Mix.l0, if_pos (by rw [List.length_map]; omega), hrow0, if_neg (by omega), List.take_of_length_le (by omega)]
  | succ d ih =>
    intro k i hi hk
    have hk2 : (d + 1 + 1) * (vals.length + 2) = (d + 1) * (vals.length + 2) + (vals.length + 2) := by rw [Nat.add_mul, Nat.one_mul]
    obtain ⟨k, rfl⟩ : ∃ m, k = (m + vals.length + 1) + 1 := ⟨k - vals.length - 2, by omega⟩
    have hlt : i < wide := by omega
    have hkk : (d + 1) * (vals.length + 2) + 2 ≤ k := by omega
    have hkn : ws.length < k := by
      have : 1 * (vals.length + 2) ≤ (d + 1) * (vals.length + 2) := Nat.mul_le_mul_right _ (by omega)
      omega
    have hcb := colR_bd ws vals (i : Int) hw
    have e1 := mix_l1 ws vals wide i k ((mixR ws vals wide).take i) hw hl hn hr hlt vals.length 0 0 (by omega) (by omega) (by omega)
    rw [List.drop_zero, List.drop_zero, Int.zero_add, show ((0 : Nat) : Int) = 0 from rfl] at e1
    have e2 : (mixR ws vals wide).take i ++ [outR ws (colR ws vals (i : Int))] = (mixR ws vals wide).take (i + 1) := by rw [take_rd (by omega), mixR_at hr hlt]
    rw [credenzaref04_Mix.l0, if_pos (by rw [List.length_map]; omega), hrow0, if_pos (by omega), e1, ref_Sum_some hn hw hkn, Option.bind_some, ref_Ratio_some (by omega) (by omega) (by omega) (by omega), Option.bind_some, ref_Narrow_some, Option.bind_some, if_pos (by rw [List.length_take]; omega), wnext hlt (by omega), show narR (rnd (colR ws vals (i : Int)) (sumR ws)) = outR ws (colR ws vals (i : Int)) from rfl, e2]
    exact ih k (i + 1) (by omega) hkk
theorem ref_Mix_some {ws : List Int} {vals : List (List Int)} {wide : Nat} (hw : WB ws) (hp : 0 < sumR ws) (hl : ws.length = vals.length) (hn : ws.length ≤ 1024) (h0 : 0 < vals.length) (hr : Rows wide vals) (hwd : wide ≤ 16) {k : Nat} (hk : (wide + 1) * (vals.length + 2) + 2 ≤ k) : credenzaref04_Mix.f k ws (vals.map nars) = some (mixR ws vals wide) := by
  have := mix_l0 ws vals wide hw hp hl hn h0 hr hwd wide k 0 (by omega) hk
  rw [List.take_zero] at this
  exact this
/-- what a query gathers, as the document has it -/
def gatherR (q : List Int) (keys vals : List (List Int)) : List Int := mixR (weightsR (keys.map (scoreR q))) vals q.length
theorem scoreR_i32 (q key : List Int) : I32 (scoreR q key) := wideR_bd _
theorem scores_a32 (q : List Int) (keys : List (List Int)) : A32 (keys.map (scoreR q)) := by
  intro x hx
  obtain ⟨y, _, rfl⟩ := List.mem_map.1 hx
  exact scoreR_i32 q y
theorem ref_Gather_loop (q : List Int) (keys vals : List (List Int)) (h1 : 1 ≤ q.length) (h2 : q.length ≤ 16) (hq : A32 q) (hl : keys.length = vals.length) (hn : keys.length ≤ 40) (h0 : 0 < keys.length) (hk : Rows q.length keys) (hv : Rows q.length vals) (hak : AA32 keys) (hav : AA32 vals) : ∀ (d k p : Nat), p + d = keys.length → 900 + d ≤ k → credenzaref14_Gather.l0 k q keys vals ((keys.take p).map (scoreR q)) ((vals.take p).map nars) (p : Int) = some (gatherR q keys vals) := by
  intro d
  induction d with
  | zero =>
    intro k p hp hkk
    obtain ⟨k, rfl⟩ : ∃ m, k = m + 1 := ⟨k - 1, by omega⟩
    have hls : (keys.map (scoreR q)).length = keys.length := List.length_map _
    have hwl := weightsR_length (keys.map (scoreR q))
    have e1 := ref_Weights_some (l := keys.map (scoreR q)) (by omega) (by omega) (scores_a32 q keys) (k := k) (by omega)
    have hm : (q.length + 1) * (vals.length + 2) ≤ 17 * 42 := Nat.mul_le_mul (by omega) (by omega)
    have e2 := ref_Mix_some (ws := weightsR (keys.map (scoreR q))) (vals := vals) (wide := q.length) weightsR_wb (by have := weightsR_pos (l := keys.map (scoreR q)) (by omega); omega) (by omega) (by omega) (by omega) hv h2 (k := k) (by omega)
    rw [credenzaref14_Gather.l0, if_neg (by omega), List.take_of_length_le (by omega), List.take_of_length_le (by omega), e1, Option.bind_some, e2, Option.bind_some, gatherR]
  | succ d ih =>
    intro k p hp hkk
    obtain ⟨k, rfl⟩ : ∃ m, k = m + 1 := ⟨k - 1, by omega⟩
    have hlt : p < keys.length := by omega
    have hlv : p < vals.length := by omega
    have hrk := hk _ (rowAt_mem hlt)
    have hrv := hv _ (rowAt_mem hlv)
    have e1 := ref_Score_some (q := q) (key := rowAt keys (p : Int)) (k := k) hrk.symm h1 h2 hq (hak _ (rowAt_mem hlt)) (by omega)
    have e2 := ref_Narrow_some' (rowAt vals (p : Int)) (by omega) (hav _ (rowAt_mem hlv)) (k := k) (by omega)
    have e3 : (keys.take p).map (scoreR q) ++ [scoreR q (rowAt keys (p : Int))] = (keys.take (p + 1)).map (scoreR q) := by rw [take_row hlt]; simp
    have e4 : (vals.take p).map nars ++ [nars (rowAt vals (p : Int))] = (vals.take (p + 1)).map nars := by rw [take_row hlv]; simp
    rw [credenzaref14_Gather.l0, if_pos (by omega), if_pos (by omega), rdL, rdL, e1, Option.bind_some, if_pos (by rw [List.length_map, List.length_take]; omega), if_pos (by omega), e2, Option.bind_some, if_pos (by rw [List.length_map, List.length_take]; omega), wnext hlt (by omega), e3, e4]
    exact ih k (p + 1) (by omega) (by omega)
theorem ref_Gather_some {q : List Int} {keys vals : List (List Int)} (h1 : 1 ≤ q.length) (h2 : q.length ≤ 16) (hq : A32 q) (hl : keys.length = vals.length) (hn : keys.length ≤ 40) (h0 : 0 < keys.length) (hk : Rows q.length keys) (hv : Rows q.length vals) (hak : AA32 keys) (hav : AA32 vals) {k : Nat} (hkk : 1000 ≤ k) : credenzaref14_Gather.f k q keys vals = some (gatherR q keys vals) :=
  ref_Gather_loop q keys vals h1 h2 hq hl hn h0 hk hv hak hav keys.length k 0 (by omega) (by omega)

/-- are a query and lists right? -/
def Right (q : List Int) (keys vals : List (List Int)) : Prop := keys.length = vals.length ∧ 1 ≤ q.length ∧ q.length ≤ 16 ∧ Rows q.length keys ∧ Rows q.length vals
theorem shaped_loop (l : List (List Int)) (n : Nat) (hl : l.length ≤ 1000000) : ∀ (d k p : Nat), p + d = l.length → d < k → ∃ b, attn_shaped.l0 k (n : Int) l (l.length : Int) (p : Int) = some b ∧ (b = true ↔ Rows n (l.drop p)) := by
  intro d
  induction d with
  | zero =>
    intro k p hp hk
    obtain ⟨k, rfl⟩ : ∃ m, k = m + 1 := ⟨k - 1, by omega⟩
    refine ⟨true, by rw [attn_shaped.l0, if_neg (by omega)], ?_⟩
    rw [List.drop_eq_nil_of_le (by omega)]
    simp [Rows]
  | succ d ih =>
    intro k p hp hk
    obtain ⟨k, rfl⟩ : ∃ m, k = m + 1 := ⟨k - 1, by omega⟩
    have hlt : p < l.length := by omega
    rw [attn_shaped.l0, if_pos (by omega), if_pos (by omega), if_pos (by omega), rdL, drop_row hlt]
    by_cases c : (rowAt l (p : Int)).length = n
    · rw [if_pos (by omega), wnext hlt (by omega)]
      obtain ⟨b, h1, h2⟩ := ih k (p + 1) (by omega) (by omega)
      refine ⟨b, h1, h2.trans ?_⟩
      simp [Rows, c]
    · refine ⟨false, by rw [if_neg (by omega)], ?_⟩
      simp [Rows, c]
theorem shaped_some (l : List (List Int)) (n : Nat) (hl : l.length ≤ 1000000) {k : Nat} (hk : l.length < k) : ∃ b, attn_shaped.f k l (n : Int) = some b ∧ (b = true ↔ Rows n l) := by
  have := shaped_loop l n hl l.length k 0 (by omega) hk
  rw [List.drop_zero] at this
  exact this
/-- an error's number; 0: a query can gather -/
def RightIs (q : List Int) (keys vals : List (List Int)) (e : Int) : Prop := (keys.length = 0 ∧ e = 14) ∨ (0 < keys.length ∧ 1024 < keys.length ∧ e = 12) ∨ (0 < keys.length ∧ keys.length ≤ 1024 ∧ Right q keys vals ∧ e = 0) ∨ (0 < keys.length ∧ keys.length ≤ 1024 ∧ ¬ Right q keys vals ∧ e = 25)
theorem getD0 {l : List (List Int)} (h : 0 < l.length) : l.getD 0 [] ∈ l := rowAt_mem (t := 0) h
theorem attn_right_some {q : List Int} {keys vals : List (List Int)} (hv : vals.length ≤ 1000000) {k : Nat} (hkv : vals.length < k) : ∃ e, attn_right.f k q keys vals = some e ∧ RightIs q keys vals e := by
  unfold attn_right.f RightIs
  by_cases c1 : keys.length = 0
  · exact ⟨14, by rw [if_pos c1], .inl ⟨c1, rfl⟩⟩
  rw [if_neg c1]
  by_cases c2 : 1024 < keys.length
  · exact ⟨12, by rw [if_pos c2], .inr (.inl ⟨by omega, c2, rfl⟩)⟩
  rw [if_neg c2]
  have hm := getD0 (l := keys) (by omega)
  have no : ∀ h : ¬ Right q keys vals, ∃ e, some (25 : Int) = some e ∧ ((keys.length = 0 ∧ e = 14) ∨ (0 < keys.length ∧ 1024 < keys.length ∧ e = 12) ∨ (0 < keys.length ∧ keys.length ≤ 1024 ∧ Right q keys vals ∧ e = 0) ∨ (0 < keys.length ∧ keys.length ≤ 1024 ∧ ¬ Right q keys vals ∧ e = 25)) := fun h => ⟨25, rfl, .inr (.inr (.inr ⟨by omega, by omega, h, rfl⟩))⟩
  by_cases c3 : keys.length = vals.length
  · rw [if_pos c3]
    unfold attn_sized.f
    by_cases c4 : 1 ≤ (keys.getD 0 []).length
    · rw [if_pos (by omega)]
      by_cases c5 : (keys.getD 0 []).length ≤ 16
      · rw [decide_eq_true (by omega), Option.bind_some, if_pos rfl]
        by_cases c6 : q.length = (keys.getD 0 []).length
        · rw [if_pos c6]
          obtain ⟨b, hb, hb2⟩ := shaped_some keys (keys.getD 0 []).length (by omega) (k := k) (by omega)
          obtain ⟨b', hb', hb2'⟩ := shaped_some vals (keys.getD 0 []).length hv hkv
          rw [← c6] at hb2 hb2'
          rw [hb, Option.bind_some]
          cases b with
          | false =>
            rw [if_neg (by simp)]
            exact no (fun h => by have := hb2.2 h.2.2.2.1; cases this)
          | true =>
            rw [if_pos rfl, hb', Option.bind_some]
            cases b' with
            | false =>
              rw [if_neg (by simp)]
              exact no (fun h => by have := hb2'.2 h.2.2.2.2; cases this)
            | true =>
              rw [if_pos rfl]
              exact ⟨0, rfl, .inr (.inr (.inl ⟨by omega, by omega, ⟨c3, by omega, by omega, hb2.1 rfl, hb2'.1 rfl⟩, rfl⟩))⟩
        · rw [if_neg c6]
          exact no (fun h => c6 (h.2.2.2.1 _ hm).symm)
      · rw [decide_eq_false (by omega), Option.bind_some, if_neg (by simp)]
        exact no (fun h => by have := h.2.2.2.1 _ hm; have := h.2.2.1; omega)
    · rw [if_neg (by omega), Option.bind_some, if_neg (by simp)]
      exact no (fun h => by have := h.2.2.2.1 _ hm; have := h.2.1; omega)
  · rw [if_neg c3]
    exact no (fun h => c3 h.1)
theorem ref_right_loop (keys vals : List (List Int)) (n : Nat) (hl : keys.length = vals.length) (hn : keys.length ≤ 1024) : ∀ (d k p : Nat), p + d = keys.length → d < k → (Rows n (keys.drop p) ∧ Rows n (vals.drop p) ∧ credenzaref14_Right.l0 k keys vals (n : Int) (p : Int) = some 0) ∨ (¬ (Rows n (keys.drop p) ∧ Rows n (vals.drop p)) ∧ credenzaref14_Right.l0 k keys vals (n : Int) (p : Int) = some 25) := by
  intro d
  induction d with
  | zero =>
    intro k p hp hk
    obtain ⟨k, rfl⟩ : ∃ m, k = m + 1 := ⟨k - 1, by omega⟩
    refine .inl ⟨?_, ?_, by rw [credenzaref14_Right.l0, if_neg (by omega)]⟩
    · rw [List.drop_eq_nil_of_le (by omega)]; simp [Rows]
    · rw [List.drop_eq_nil_of_le (by omega)]; simp [Rows]
  | succ d ih =>
    intro k p hp hk
    obtain ⟨k, rfl⟩ : ∃ m, k = m + 1 := ⟨k - 1, by omega⟩
    have hlt : p < keys.length := by omega
    have hlv : p < vals.length := by omega
    rw [credenzaref14_Right.l0, if_pos (by omega), if_pos (by omega), rdL, rdL, drop_row hlt, drop_row hlv]
    by_cases c : (rowAt keys (p : Int)).length = n
    · rw [if_pos (by omega), if_pos (by omega)]
      by_cases c2 : (rowAt vals (p : Int)).length = n
      · rw [if_pos (by omega), wnext hlt (by omega)]
        rcases ih k (p + 1) (by omega) (by omega) with ⟨h1, h2, h3⟩ | ⟨h1, h3⟩
        · exact .inl ⟨by simpa [Rows, c] using h1, by simpa [Rows, c2] using h2, h3⟩
        · exact .inr ⟨fun h => h1 ⟨fun r hr => h.1 r (by simp [hr]), fun r hr => h.2 r (by simp [hr])⟩, h3⟩
      · exact .inr ⟨fun h => c2 (h.2 _ (by simp)), by rw [if_neg (by omega)]⟩
    · exact .inr ⟨fun h => c (h.1 _ (by simp)), by rw [if_neg (by omega)]⟩
theorem ref_Right_some {q : List Int} {keys vals : List (List Int)} {k : Nat} (hk : 1026 < k) : ∃ e, credenzaref14_Right.f k q keys vals = some e ∧ RightIs q keys vals e := by
  obtain ⟨k, rfl⟩ : ∃ m, k = m + 1 := ⟨k - 1, by omega⟩
  have j25 : ∀ a b : List (List Int), ∀ n : Int, credenzaref14_Right.j0 (k + 1) a b n true = some 25 := fun a b n => by rw [credenzaref14_Right.j0, if_pos rfl]
  have jl : ∀ a b : List (List Int), ∀ n : Int, credenzaref14_Right.j0 (k + 1) a b n false = credenzaref14_Right.l0 k a b n 0 := fun a b n => by rw [credenzaref14_Right.j0, if_neg (by simp)]
  unfold credenzaref14_Right.f RightIs
  by_cases c1 : keys.length = 0
  · exact ⟨14, by rw [if_pos (by omega)], .inl ⟨c1, rfl⟩⟩
  rw [if_neg (by omega)]
  by_cases c2 : 1024 < keys.length
  · exact ⟨12, by rw [if_pos (by omega)], .inr (.inl ⟨by omega, c2, rfl⟩)⟩
  rw [if_neg (by omega), if_pos (by omega), rdL]
  have hm : rowAt keys 0 ∈ keys := rowAt_mem (t := 0) (by omega)
  have no : ∀ h : ¬ Right q keys vals, ∃ e, some (25 : Int) = some e ∧ ((keys.length = 0 ∧ e = 14) ∨ (0 < keys.length ∧ 1024 < keys.length ∧ e = 12) ∨ (0 < keys.length ∧ keys.length ≤ 1024 ∧ Right q keys vals ∧ e = 0) ∨ (0 < keys.length ∧ keys.length ≤ 1024 ∧ ¬ Right q keys vals ∧ e = 25)) := fun h => ⟨25, rfl, .inr (.inr (.inr ⟨by omega, by omega, h, rfl⟩))⟩
  by_cases c3 : keys.length = vals.length
  · rw [if_pos (by omega)]
    by_cases c6 : q.length = (rowAt keys 0).length
    · rw [if_pos (by omega)]
      by_cases c4 : (rowAt keys 0).length < 1
      · rw [if_pos (by omega), j25]
        exact no (fun h => by have := h.2.1; omega)
      · rw [if_neg (by omega)]
        by_cases c5 : 16 < (rowAt keys 0).length
        · rw [decide_eq_true (by omega), j25]
          exact no (fun h => by have := h.2.2.1; omega)
        · rw [decide_eq_false (by omega), jl]
          have := ref_right_loop keys vals (rowAt keys 0).length c3 (by omega) keys.length k 0 (by omega) (by omega)
          rw [List.drop_zero, List.drop_zero] at this
          rcases this with ⟨h1, h2, h3⟩ | ⟨h1, h3⟩
          · rw [← c6] at h1 h2
            exact ⟨0, h3, .inr (.inr (.inl ⟨by omega, by omega, ⟨c3, by omega, by omega, h1, h2⟩, rfl⟩))⟩
          · rw [← c6] at h1
            exact ⟨25, h3, .inr (.inr (.inr ⟨by omega, by omega, fun h => h1 ⟨h.2.2.2.1, h.2.2.2.2⟩, rfl⟩))⟩
    · rw [if_neg (by omega), j25]
      exact no (fun h => c6 (h.2.2.2.1 _ hm).symm)
  · rw [if_neg (by omega), j25]
    exact no (fun h => c3 h.1)
theorem RightIs.one {q : List Int} {keys vals : List (List Int)} {e e' : Int} (h : RightIs q keys vals e) (h' : RightIs q keys vals e') : e = e' := by
  unfold RightIs at h h'
  rcases h with ⟨h1, rfl⟩ | ⟨h1, h2, rfl⟩ | ⟨h1, h2, h3, rfl⟩ | ⟨h1, h2, h3, rfl⟩ <;> rcases h' with ⟨h1', rfl⟩ | ⟨h1', h2', rfl⟩ | ⟨h1', h2', h3', rfl⟩ | ⟨h1', h2', h3', rfl⟩ <;> first | rfl | omega | exact absurd h3 h3' | exact absurd h3' h3
theorem attn_Gather_some {q : List Int} {keys vals : List (List Int)} (h0 : 0 < keys.length) (hn : keys.length ≤ 1024) (hr : Right q keys vals) (hq : A32 q) (hak : AA32 keys) (hav : AA32 vals) {k : Nat} (hk : 1100 < k) : attn_Gather.f k q keys vals = some (gatherR q keys vals, 0) := by
  obtain ⟨e, he, hi⟩ := attn_right_some (q := q) (keys := keys) (vals := vals) (by have := hr.1; omega) (k := k) (by have := hr.1; omega)
  have hz : e = 0 := hi.one (.inr (.inr (.inl ⟨h0, hn, hr, rfl⟩)))
  subst hz
  obtain ⟨hl, h1, h2, hrk, hrv⟩ := hr
  have hls : (keys.map (scoreR q)).length = keys.length := List.length_map _
  have hwl := weightsR_length (keys.map (scoreR q))
  have e1 := attn_cut_some q (by omega) hq (k := k) (by omega)
  have e2 := scores_some h1 h2 (k := k) (by omega) keys [] hrk hak
  rw [List.nil_append] at e2
  have e3 := soft_Weights_some (l := keys.map (scoreR q)) (by omega) (by omega) (scores_a32 q keys) (k := k) (by omega)
  have e4 := attn_gather_some (ws := weightsR (keys.map (scoreR q))) (vals := vals) (wide := q.length) (by omega) (by omega) weightsR_wb (by have := weightsR_pos (l := keys.map (scoreR q)) (by omega); omega) (fun v hv => ⟨hrv v hv, hav v hv⟩) (k := k) (by omega)
  rw [attn_Gather.f, attn_Fused.f, he, Option.bind_some, if_pos rfl, e1, Option.bind_some, e2, Option.bind_some, e3, Option.bind_some, if_pos rfl, e4, Option.bind_some, gatherR]
theorem attn_Gather_no {q : List Int} {keys vals : List (List Int)} {e : Int} (hv : vals.length ≤ 1000000) (hi : RightIs q keys vals e) (h : e ≠ 0) {k : Nat} (hkv : vals.length < k) : attn_Gather.f k q keys vals = some ([], e) := by
  obtain ⟨e', he, hi'⟩ := attn_right_some (q := q) (keys := keys) (vals := vals) hv (k := k) hkv
  have hz : e' = e := hi'.one hi
  subst hz
  rw [attn_Gather.f, attn_Fused.f, he, Option.bind_some, if_neg h]
end Go.Proofs.Yteflolamihhmdaa.Pure

namespace Go.Proofs.Yteflolamihhmdaa.Pure
open Go.RowKit Go.Proofs.Yteflolamihhmdaa.Q Go.Proofs.YteflolamihhmdaaW.PrintWords Go.Proofs.YteflolamihhmdaaW.PrintLast

theorem awake14_at : credenzalaw14_awake.f 100 = some true := by kernel_rfl
theorem awake14 {k : Nat} (hk : 100 ≤ k) : credenzalaw14_awake.f k = some true := at_rounds credenzalaw14_awake.mono hk awake14_at
theorem A32_of_wf {l : List Int} (h : ∀ x ∈ l, (Lit.int .i32 x).wf = true) : A32 l := fun x hx => by
  have := h x hx
  simp [Lit.wf, IntKind.min, IntKind.max, IntKind.signed, IntKind.bits] at this
  exact ⟨by omega, by omega⟩
theorem light_l1 (x7 : List (List (List Int))) (x8 x9 : Int) (row : List (List Int)) (hr : row.length ≤ 40) : ∀ (d k p : Nat), p + d = row.length → credenzalaw14_light.l1 (k + d + 1) x7 x8 x9 row (row.length : Int) (p : Int) = some false ∨ credenzalaw14_light.l1 (k + d + 1) x7 x8 x9 row (row.length : Int) (p : Int) = credenzalaw14_light.l0 k x7 x8 (wrap64 (x9 + 1)) := by
  intro d
  induction d with
  | zero =>
    intro k p hp
    exact .inr (by rw [credenzalaw14_light.l1, if_neg (by omega)])
  | succ d ih =>
    intro k p hp
    have hlt : p < row.length := by omega
    rw [show k + (d + 1) + 1 = (k + d + 1) + 1 by omega, credenzalaw14_light.l1, if_pos (by omega), if_pos (by omega), if_pos (by omega), rdL]
    by_cases c : ((rowAt row (p : Int)).length : Int) > 40
    · exact .inl (by rw [if_pos c])
    · rw [if_neg c, wnext hlt (by omega)]
      exact ih k (p + 1) (by omega)
/-- light tells of two lists of lists: if so, neither has more than 40 -/
theorem light_two (a b : List (List Int)) {k : Nat} (hk : 100 ≤ k) : ∃ r, credenzalaw14_light.f k [a, b] = some r ∧ (r = true → a.length ≤ 40 ∧ b.length ≤ 40) := by
  have f1 : ∀ k, 42 ≤ k → ∃ r, credenzalaw14_light.l0 (k + 1) [a, b] 2 1 = some r ∧ (r = true → b.length ≤ 40) := by
    intro k hk
    have e1 : rd_L9 [a, b] 1 = b := rfl
    rw [credenzalaw14_light.l0, if_pos (by omega), if_pos (by omega), if_pos (by simp), e1]
    by_cases c : (b.length : Int) > 40
    · exact ⟨false, by rw [if_pos c], by simp⟩
    · rw [if_neg c]
      obtain ⟨m, rfl⟩ : ∃ m, k = (m + 1) + b.length + 1 := ⟨k - b.length - 2, by omega⟩
      rcases light_l1 [a, b] 2 1 b (by omega) b.length (m + 1) 0 (by omega) with h | h
      · exact ⟨false, h, by simp⟩
      · refine ⟨true, h.trans ?_, fun _ => by omega⟩
        rw [show wrap64 ((1 : Int) + 1) = 2 from w64 (by omega) (by omega), credenzalaw14_light.l0, if_neg (by omega)]
  have e0 : rd_L9 [a, b] 0 = a := rfl
  obtain ⟨k, rfl⟩ : ∃ m, k = m + 1 := ⟨k - 1, by omega⟩
  show ∃ r, credenzalaw14_light.l0 (k + 1) [a, b] 2 0 = some r ∧ _
  rw [credenzalaw14_light.l0, if_pos (by omega), if_pos (by omega), if_pos (by simp), e0]
  by_cases c : (a.length : Int) > 40
  · exact ⟨false, by rw [if_pos c], by simp⟩
  · rw [if_neg c]
    obtain ⟨m, rfl⟩ : ∃ m, k = (m + 1) + a.length + 1 := ⟨k - a.length - 2, by omega⟩
    rcases light_l1 [a, b] 2 0 a (by omega) a.length (m + 1) 0 (by omega) with h | h
    · exact ⟨false, h, by simp⟩
    · obtain ⟨r, hr, hr2⟩ := f1 m (by omega)
      refine ⟨r, (h.trans ?_), fun e => ⟨by omega, hr2 e⟩⟩
      rw [show wrap64 ((0 : Int) + 1) = 1 from w64 (by omega) (by omega)]
      exact hr
theorem same_loop (a b : List Int) (hl : a.length = b.length) (hn : a.length ≤ 1000000) : ∀ (d k p : Nat), p + d = a.length → d < k → ∃ r, credenzaref03_Same.l0 k a b (p : Int) = some r ∧ (r = true ↔ a.drop p = b.drop p) := by
  intro d
  induction d with
  | zero =>
    intro k p hp hk
    obtain ⟨k, rfl⟩ : ∃ m, k = m + 1 := ⟨k - 1, by omega⟩
    refine ⟨true, by rw [credenzaref03_Same.l0, if_neg (by omega)], ?_⟩
    rw [List.drop_eq_nil_of_le (by omega), List.drop_eq_nil_of_le (by omega)]
    simp
  | succ d ih =>
    intro k p hp hk
    obtain ⟨k, rfl⟩ : ∃ m, k = m + 1 := ⟨k - 1, by omega⟩
    have hlt : p < a.length := by omega
    have hlb : p < b.length := by omega
    rw [credenzaref03_Same.l0, if_pos (by omega), if_pos (by omega), if_pos (by omega), drop_rd hlt, drop_rd hlb]
    by_cases c : rd a (p : Int) = rd b (p : Int)
    · rw [if_pos c, wnext hlt (by omega)]
      obtain ⟨r, h1, h2⟩ := ih k (p + 1) (by omega) (by omega)
      exact ⟨r, h1, h2.trans (by simp [c])⟩
    · exact ⟨false, by rw [if_neg c], by simp [c]⟩
theorem same_some (a b : List Int) (hn : a.length ≤ 1000000) {k : Nat} (hk : a.length < k) : ∃ r, credenzaref03_Same.f k a b = some r ∧ (r = true ↔ a = b) := by
  unfold credenzaref03_Same.f
  by_cases c : a.length = b.length
  · rw [if_pos (by omega)]
    have := same_loop a b c hn a.length k 0 (by omega) hk
    simpa using this
  · exact ⟨false, by rw [if_neg (by omega)], by simp; intro h; exact c (by rw [h])⟩
theorem same_refl (a : List Int) (hn : a.length ≤ 1000000) {k : Nat} (hk : a.length < k) : credenzaref03_Same.f k a a = some true := by
  obtain ⟨r, h1, h2⟩ := same_some a a hn hk
  rw [h1, h2.2 rfl]
theorem gatherR_length {q : List Int} {keys vals : List (List Int)} (hr : Rows q.length vals) : (gatherR q keys vals).length = q.length := mixR_length hr
end Go.Proofs.Yteflolamihhmdaa.Pure

namespace Go.Proofs.Yteflolamihhmdaa.Pure
open Go.RowKit Go.Proofs.Yteflolamihhmdaa.Q Go.Proofs.YteflolamihhmdaaW.PrintWords Go.Proofs.YteflolamihhmdaaW.PrintLast

theorem gathers_awake (q : List Int) (ks vs : List (List Int)) {k : Nat} (hk : 101 ≤ k) : credenzalaw14_AttnGathers.j0 k q ks vs true = some true := by
  obtain ⟨k, rfl⟩ : ∃ m, k = m + 1 := ⟨k - 1, by omega⟩
  rw [credenzalaw14_AttnGathers.j0, if_pos rfl, awake14 (by omega), Option.bind_some]
theorem AttnGathers (q : List Int) (ks vs : List (List Int)) (hq : ∀ x ∈ q, (Lit.int .i32 x).wf = true) (hk : ∀ r ∈ ks, ∀ x ∈ r, (Lit.int .i32 x).wf = true) (hv : ∀ r ∈ vs, ∀ x ∈ r, (Lit.int .i32 x).wf = true) : ∃ k, credenzalaw14_AttnGathers.f k q ks vs = some true := by
  have hq := A32_of_wf hq
  have hk : AA32 ks := fun r h => A32_of_wf (hk r h)
  have hv : AA32 vs := fun r h => A32_of_wf (hv r h)
  refine ⟨2000, ?_⟩
  obtain ⟨r, h1, h2⟩ := light_two ks vs (k := 2000) (by omega)
  rw [credenzalaw14_AttnGathers.f, h1, Option.bind_some]
  cases r with
  | false => rw [if_neg (by simp), gathers_awake _ _ _ (by omega)]
  | true =>
    obtain ⟨hk40, hv40⟩ := h2 rfl
    rw [if_pos rfl]
    by_cases c : (q.length : Int) > 100
    · rw [decide_eq_true c, gathers_awake _ _ _ (by omega)]
    · obtain ⟨e, he, hi⟩ := ref_Right_some (q := q) (keys := ks) (vals := vs) (k := 1999) (by omega)
      rw [decide_eq_false c, credenzalaw14_AttnGathers.j0, if_neg (by simp)]
      by_cases c2 : e = 0
      · subst c2
        obtain ⟨h0, hn, hr⟩ : 0 < ks.length ∧ ks.length ≤ 1024 ∧ Right q ks vs := by
          unfold RightIs at hi
          rcases hi with ⟨_, h⟩ | ⟨_, _, h⟩ | ⟨h1, h2, h3, _⟩ | ⟨_, _, _, h⟩
          · cases h
          · cases h
          · exact ⟨h1, h2, h3⟩
          · cases h
        have e1 := attn_Gather_some h0 hn hr hq hk hv (k := 1999) (by omega)
        have e2 := ref_Gather_some hr.2.1 hr.2.2.1 hq hr.1 hk40 h0 hr.2.2.2.1 hr.2.2.2.2 hk hv (k := 1999) (by omega)
        have hlen := gatherR_length (q := q) (keys := ks) hr.2.2.2.2
        have e3 := same_refl (gatherR q ks vs) (by omega) (k := 1999) (by omega)
        rw [e1, Option.bind_some, he, Option.bind_some, if_pos rfl, if_pos rfl, e2, Option.bind_some, e3, Option.bind_some, if_pos rfl, awake14 (by omega), Option.bind_some]
      · have e1 := attn_Gather_no (by omega) hi c2 (k := 1999) (by omega)
        rw [e1, Option.bind_some, he, Option.bind_some, if_neg c2, if_pos rfl, if_pos (by simp), awake14 (by omega), Option.bind_some]
end Go.Proofs.Yteflolamihhmdaa.Pure

namespace Go.Proofs.Yteflolamihhmdaa.attnGathers
open Go.ChangeShapes Go.WideShapes Go.ChangeAt Go.RowKit Go.Proofs.YteflolamihhmdaaW.PrintWords Go.Proofs.YteflolamihhmdaaW.PrintLast
open Go.ChangeMaps (open_string shut_string)
set_option linter.unusedVariables false
theorem own : ownKnob Try.prog.godebug = none := by kernel_rfl
theorem laidOut : laidOutB Try.prog = true := by kernel_rfl
def IsRow (k : IntKind) (w : World) (a : Option Addr) (len cap : Nat) (zs : List Int) : Prop :=
  (a = none ∧ len = 0 ∧ cap = 0 ∧ zs = []) ∨
  ∃ x, a = some x ∧ len ≤ cap ∧ cap ≤ maxLen ∧ zs.length = cap ∧ (∀ i, i < zs.length → w.cell? (x.add i) = some (.int k (zs.getD i 0))) ∧ ∀ n ∈ zs, (Lit.int k n).wf = true
set_option maxRecDepth 100000 in
theorem lifted (os : Os) (started : os.Started) (H : Type) (enc : TypeId × Value → H) :
    ReturnsInHanded {} Try.checked os 4 .any (Rows.attnGathersSpec.pre6 enc Try.prog Try.f4 Rows.attnGathersRow.domain false) (Rows.attnGathersSpec.post enc Try.prog Try.f4 false true false false) := by
  refine returnsInHanded_of_change_sized (C := Try.checked) own started (by kernel_rfl) Try.func4
    (ChangeSpec.witness6 (enc := enc) (C := Try.checked) false ⟨#[], #[.slice none 0 0, .slice none 0 0, .slice none 0 0], []⟩ 8 (by kernel_rfl) (by kernel_rfl) (by kernel_rfl) (by kernel_rfl)) ?_
  intro W base args ds gs before hval0 hW hcnd hsz0 _
  have hsz : (DataW.weightsEach Try.prog (Try.f4.params.toList ++ Rows.attnGathersSpec.plain.varTypes Try.prog) (ds ++ gs)).all (· ≤ reachBytes) = true := hsz0
  have hval : ∀ (j : Nat) t v, Try.f4.params[j]? = some t → args[j]? = some v → Value.okWide Try.prog W .any base t v := hval0
  have hW' := hW
  obtain ⟨p, q, hA0, hV, rfl, hfz, hnd⟩ := hW
  have hA : DataW.TrodAll enc Try.prog W 0 (fun _ => true) true Try.f4.params.toList args.toList ds p := hA0
  rw [Try.params4] at hA hval hsz
  obtain ⟨v0, vs0, d0, ds0, p0, q0, hargs, rfl, rfl, h0, r0⟩ := trodAll_cons hA
  obtain ⟨v1, vs1, d1, ds1, p1, q1, rfl, rfl, rfl, h1, r1⟩ := trodAll_cons r0
  obtain ⟨v2, vs2, d2, ds2, p2, q2, rfl, rfl, rfl, h2, r2⟩ := trodAll_cons r1
  obtain ⟨rfl, rfl, rfl⟩ := trodAll_nil r2
  obtain rfl : args = #[v0, v1, v2] := by cases args; simp_all
  obtain ⟨rfl, rfl⟩ := trodVars_none hV
  obtain ⟨a0, len0, cap0, rfl⟩ := okWide_slice Try.underlying22 (hval 0 22 v0 rfl rfl)
  have k0 := h0
  have lt0 : ∀ x ∈ p0, x.block < W.heap.size := by obtain ⟨m, hm⟩ := k0; exact DataW.trod_lt m _ _ _ hm
  obtain ⟨z0, w0⟩ : ∃ zs, IsRow .i32 W a0 len0 cap0 zs := by
    obtain ⟨fuel, hf⟩ := h0
    rcases open_ints Try.underlying22 Try.underlying21 (by kernel_rfl) hf with ⟨hcs, _⟩ | ⟨x, l, c, zs, hcs, _, hl, hm, hz, _, hcell, hwz⟩
    · simp [Value.cells] at hcs
      obtain ⟨rfl, rfl, rfl⟩ := hcs
      exact ⟨[], .inl ⟨rfl, rfl, rfl, rfl⟩⟩
    · simp [Value.cells] at hcs
      obtain ⟨rfl, rfl, rfl⟩ := hcs
      exact ⟨zs, .inr ⟨_, rfl, hl, hm, by simpa using hz, hcell, hwz⟩⟩
  obtain ⟨l0, rfl, hr0, hm0, hw0, hc0⟩ := ReadsInt.ofRowC w0
  obtain ⟨a1, len1, cap1, rfl⟩ := okWide_slice Try.underlying29 (hval 1 29 v1 rfl rfl)
  have k1 := h1
  have lt1 : ∀ x ∈ p1, x.block < W.heap.size := by obtain ⟨m, hm⟩ := k1; exact DataW.trod_lt m _ _ _ hm
  obtain ⟨fuel1, hf1⟩ := h1
  obtain ⟨l1, rfl, hc1, hr1, hw1⟩ := open_rows 21 Try.underlying29 Try.underlying22 Try.underlying21 (by kernel_rfl) (by kernel_rfl) (by simpa [Value.cells] using hf1)
  obtain ⟨a2, len2, cap2, rfl⟩ := okWide_slice Try.underlying29 (hval 2 29 v2 rfl rfl)
  have k2 := h2
  have lt2 : ∀ x ∈ p2, x.block < W.heap.size := by obtain ⟨m, hm⟩ := k2; exact DataW.trod_lt m _ _ _ hm
  obtain ⟨fuel2, hf2⟩ := h2
  obtain ⟨l2, rfl, hc2, hr2, hw2⟩ := open_rows 21 Try.underlying29 Try.underlying22 Try.underlying21 (by kernel_rfl) (by kernel_rfl) (by simpa [Value.cells] using hf2)
  clear hA0 hval0 hsz0 hsz
  obtain ⟨k, hk⟩ := Pure.AttnGathers l0 l1 l2 hw0 hw1 hw2
  refine (Q.credenzalaw14_AttnGathers.calls k _ _ l0 (fun _ => True) _ _ l1 (fun _ => True) _ _ l2 true W (Kd.C_of_reads (d := (0 : Int)) (h1 := fun _ => rfl) hr0) hc0 (V_of_C (Kd.heap_slice _ (Kd.heap_int _)) rfl hc1 hr1) (V_of_C (Kd.heap_slice _ (Kd.heap_int _)) rfl hc2 hr2) hk).mono ?_
  rintro e W' ⟨rfl, bel⟩
  exact ⟨_, rfl, _, _, _, [], _, [], hW', trodAll_mk1 (shut_bool Try.underlying4 _), (trodAll_cons_mk (Below.trod laidOut (by kernel_rfl) (of_decide_eq_true (by kernel_rfl)) k0 bel lt0) (trodAll_cons_mk (Below.trod laidOut (by kernel_rfl) (of_decide_eq_true (by kernel_rfl)) k1 bel lt1) (trodAll_cons_mk (Below.trod laidOut (by kernel_rfl) (of_decide_eq_true (by kernel_rfl)) k2 bel lt2) trodAll_mk0))), rfl, bel.frame _, fun h => by cases h⟩
theorem over : Rows.attnGathersRow.holds Try.pinned (OpenSpec.ofChange Rows.attnGathersSpec) :=
  OpenClaim.holds_of_wide 4 Try.f4 rfl rfl rfl rfl rfl rfl rfl ⟨rfl, rfl, rfl, rfl, rfl⟩ rfl rfl rfl rfl rfl (by kernel_rfl) Try.func4 (by kernel_rfl)
    (of_decide_eq_true (by kernel_rfl)) (by unfold Func.isWrapper; first | (rw [if_pos (by decide +kernel)]; kernel_rfl) | (rw [if_neg (by decide +kernel)]; exact ⟨rfl, rfl⟩))
    (fun os started H enc _ => lifted os started H enc)
theorem proved : Rows.AttnGathersSaid := over
end Go.Proofs.Yteflolamihhmdaa.attnGathers
namespace Go.Proofs.Yteflolamihhmdaa
/-- The row, under a short name, for the claim. -/
theorem attnGathers_holds : Rows.AttnGathersSaid := attnGathers.proved
end Go.Proofs.Yteflolamihhmdaa
