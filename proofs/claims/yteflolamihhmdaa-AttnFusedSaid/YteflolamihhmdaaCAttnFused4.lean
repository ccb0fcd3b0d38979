/- AttnFused: of any pages and plain tokens a query gathers just what it gathers of what they mean, as lists. (part 4: functions of the program as plain functions, and what is shown of them.) Conditions: as each theorem states; the last one has none. -/
import Derived.KernelRfl
import Derived.Test.YteflolamihhmdaaCAttnFused1
import Derived.Test.YteflolamihhmdaaCAttnFused2
import Derived.Test.YteflolamihhmdaaCAttnFused3
set_option maxHeartbeats 8000000
set_option maxRecDepth 100000
set_option linter.unusedVariables false
set_option linter.unusedSimpArgs false
namespace Go.Proofs.Yteflolamihhmdaa.Q
open Go.RowKit Go.Proofs.YteflolamihhmdaaW.PrintWords Go.Proofs.YteflolamihhmdaaW.PrintLast Go.Proofs.YteflolamihhmdaaW.PrintMore
attribute [local go_sem] max2_int min2_int max_two min_two max_three min_three max_four min_four
mutual
def page_Quantize.l0 : Nat → List (List Int) → List (List Int) → List (S100) → Int → Int → Int → Int → Int → Int → Int → Int → Int → Option ((List (S100)) × (List (S100)) × Int)
 | 0, _, _, _, _, _, _, _, _, _, _, _, _ => none
 | k + 1, x1, x2, x8, x40, x41, x394000, x394001, x394002, x394003, x394004, x394005, x394006 => if x41 < x40 then (page_Quantize.l1 k x1 x2 x8 x41 ([] : List Int) x40 x41 x1 (x1.length : Int) 0 x394000 x394001 x394002 x394003 x394004 x394005 x394006) else (page_Quantize.l2 k x8 ([] : List (S100)) x2 (x2.length : Int) 0 x394000 x394001 x394002 x394003 x394004 x394005 x394006)
def page_Quantize.l1 : Nat → List (List Int) → List (List Int) → List (S100) → Int → List Int → Int → Int → List (List Int) → Int → Int → Int → Int → Int → Int → Int → Int → Int → Option ((List (S100)) × (List (S100)) × Int)
 | 0, _, _, _, _, _, _, _, _, _, _, _, _, _, _, _, _, _ => none
 | k + 1, x1, x2, x8, x10, x11, x40, x41, x44, x45, x46, x394000, x394001, x394002, x394003, x394004, x394005, x394006 => if x46 < x45 then (if 0 ≤ x46 then (if x46 < (x44.length : Int) then (if 0 ≤ x10 then (if x10 < ((rd_L11 x44 x46).length : Int) then (if x11.length < 35184372088832 then (page_Quantize.l1 k x1 x2 x8 x10 (x11 ++ [rd (rd_L11 x44 x46) x10]) x40 x41 x44 x45 (wrap64 (x46 + 1)) x394000 x394001 x394002 x394003 x394004 x394005 x394006) else (none)) else (none)) else (none)) else (none)) else (none)) else ((group_Of.f k x11 x394000).bind fun bt402 => (if x8.length < 4398046511104 then (page_Quantize.l0 k x1 x2 (x8 ++ [(⟨bt402.1, bt402.2.1, bt402.2.2.1⟩ : S100)]) x40 (wrap64 (x41 + 1)) x394000 x394001 x394002 x394003 x394004 x394005 x394006) else (none)))
def page_Quantize.l2 : Nat → List (S100) → List (S100) → List (List Int) → Int → Int → Int → Int → Int → Int → Int → Int → Int → Option ((List (S100)) × (List (S100)) × Int)
 | 0, _, _, _, _, _, _, _, _, _, _, _, _ => none
 | k + 1, x8, x9, x70, x71, x72, x394000, x394001, x394002, x394003, x394004, x394005, x394006 => if x72 < x71 then (if 0 ≤ x72 then (if x72 < (x70.length : Int) then ((group_Of.f k (rd_L11 x70 x72) x394001).bind fun bt413 => (if x9.length < 4398046511104 then (page_Quantize.l2 k x8 (x9 ++ [(⟨bt413.1, bt413.2.1, bt413.2.2.1⟩ : S100)]) x70 x71 (wrap64 (x72 + 1)) x394000 x394001 x394002 x394003 x394004 x394005 x394006) else (none))) else (none)) else (none)) else (some (x8, x9, 0))
end
def page_Quantize.g (k : Nat) (a0_0 : Int) (a0_1 : Int) (a0_2 : Int) (a0_3 : Int) (a0_4 : Int) (a0_5 : Int) (a0_6 : Int) (l1 : List (List Int)) (l2 : List (List Int)) : Option ((List (S100)) × (List (S100)) × Int) := (page_Right.f a0_0 a0_1 a0_2 a0_3 a0_4 a0_5 a0_6).bind fun t394 => (if t394 = true then ((page_numbers.f k l1 a0_2 a0_3).bind fun t395 => (if t395 = true then ((page_numbers.f k l2 a0_2 a0_3).bind fun t396 => (if t396 = true then (page_Quantize.l0 k l1 l2 ([] : List (S100)) a0_3 0 a0_0 a0_1 a0_2 a0_3 a0_4 a0_5 a0_6) else (some (([] : List (S100)), ([] : List (S100)), 25)))) else (some (([] : List (S100)), ([] : List (S100)), 25)))) else (some (([] : List (S100)), ([] : List (S100)), 11)))
def page_Quantize.f (k : Nat) (h0 h1 h2 h3 h4 h5 h6 : Int) (l1 l2 : List (List Int)) : Option (List S125 × Int) :=
 (page_Quantize.g k h0 h1 h2 h3 h4 h5 h6 l1 l2).bind fun t => if t.2.2 = 0 then page_New.f k h0 h1 h2 h3 h4 h5 h6 t.1 t.2.1 else some ([], t.2.2)
theorem page_Quantize.callsg (k : Nat) (a0_0 : Int) (a0_1 : Int) (a0_2 : Int) (a0_3 : Int) (a0_4 : Int) (a0_5 : Int) (a0_6 : Int) (A1 : Option Addr) (c1 : Nat) (l1 : List (List Int)) (A2 : Option Addr) (c2 : Nat) (l2 : List (List Int)) (r1 : List (S100)) (r2 : List (S100)) (r3 : Int) (q1 : List S125) (q2 : Int) (w : World) (hr1 : Kd.C (Kd.slice 21 (Kd.int .i32)) w A1 l1.length l1) (hc1 : l1.length ≤ c1) (hr2 : Kd.C (Kd.slice 21 (Kd.int .i32)) w A2 l2.length l2) (hc2 : l2.length ≤ c2) (h : page_Quantize.g k a0_0 a0_1 a0_2 a0_3 a0_4 a0_5 a0_6 l1 l2 = some (r1, r2, r3)) (h2 : (if r3 = 0 then page_New.f k a0_0 a0_1 a0_2 a0_3 a0_4 a0_5 a0_6 r1 r2 else some ([], r3)) = some (q1, q2)) :
  Calls Try.prog 35 #[.agg #[.int .i64 a0_0, .int .i64 a0_1, .int .i64 a0_2, .int .i64 a0_3, .int .i64 a0_4, .int .i64 a0_5, .int .i64 a0_6], .slice A1 l1.length c1, .slice A2 l2.length c2] w fun e w' => ∃ A : Option Addr, e = .returned (.tuple #[.pointer A, .int .i64 q2]) ∧ (Kd.ptr 125 k125).M w' w.heap.size (fun _ => True) q1 [.pointer A] ∧ Below w.heap.size w w' := by
 have HQ := A_ h2
 clear h2
 have hu53 := Try.underlying53
 have hu100 := Try.underlying100
 have HR1 := A_ hr1
 have HC1 := A_ hc1
 clear hr1 hc1
 have HR2 := A_ hr2
 have HC2 := A_ hc2
 clear hr2 hc2
 have HB := A_ (Below.refl w.heap.size w)
 have H : ((page_Right.f a0_0 a0_1 a0_2 a0_3 a0_4 a0_5 a0_6).bind fun t394 => (if t394 = true then ((page_numbers.f k l1 a0_2 a0_3).bind fun t395 => (if t395 = true then ((page_numbers.f k l2 a0_2 a0_3).bind fun t396 => (if t396 = true then (page_Quantize.l0 k l1 l2 ([] : List (S100)) a0_3 0 a0_0 a0_1 a0_2 a0_3 a0_4 a0_5 a0_6) else (some (([] : List (S100)), ([] : List (S100)), 25)))) else (some (([] : List (S100)), ([] : List (S100)), 25)))) else (some (([] : List (S100)), ([] : List (S100)), 11)))) = some (r1, r2, r3) := h
 clear h
 replace H := ob_ H
 obtain ⟨t394, A4, H⟩ := H
 try dsimp only at H
 by_cases c5 : t394 = true
 ·subst c5
  replace H : ((page_numbers.f k l1 a0_2 a0_3).bind fun t395 => (if t395 = true then ((page_numbers.f k l2 a0_2 a0_3).bind fun t396 => (if t396 = true then (page_Quantize.l0 k l1 l2 ([] : List (S100)) a0_3 0 a0_0 a0_1 a0_2 a0_3 a0_4 a0_5 a0_6) else (some (([] : List (S100)), ([] : List (S100)), 25)))) else (some (([] : List (S100)), ([] : List (S100)), 25)))) = some (r1, r2, r3) := by rw [if_pos rfl] at H; exact H
  replace H := ob_ H
  obtain ⟨t395, A6, H⟩ := H
  try dsimp only at H
  by_cases c7 : t395 = true
  ·subst c7
   replace H : ((page_numbers.f k l2 a0_2 a0_3).bind fun t396 => (if t396 = true then (page_Quantize.l0 k l1 l2 ([] : List (S100)) a0_3 0 a0_0 a0_1 a0_2 a0_3 a0_4 a0_5 a0_6) else (some (([] : List (S100)), ([] : List (S100)), 25)))) = some (r1, r2, r3) := by rw [if_pos rfl] at H; exact H
   replace H := ob_ H
   obtain ⟨t396, A8, H⟩ := H
   try dsimp only at H
   by_cases c9 : t396 = true
   ·subst c9
    replace H : (page_Quantize.l0 k l1 l2 ([] : List (S100)) a0_3 0 a0_0 a0_1 a0_2 a0_3 a0_4 a0_5 a0_6) = some (r1, r2, r3) := by rw [if_pos rfl] at H; exact H
    have H' := A_ H
    clear H
    go_enter Try.func35, Try.ntmps35
    go_wp2_with (first | (refine box_event rfl (N := 3) rfl (cs := #[.int .i64 a0_0, .int .i64 a0_1, .int .i64 a0_2, .int .i64 a0_3, .int .i64 a0_4, .int .i64 a0_5, .int .i64 a0_6]) (t := 53) ?hr ?_; (case hr => first | (go_simp; done) | (go_simp; rfl)); intro gb393 hg w10 hbox hb; have BK393 := A_ hbox; have GW393 := A_ (gw_ w hg); have GE393 := A_ (gw_ w hg); replace HB := A_ (below_step bl_ hb); clear hb hbox hg; have ⟨_, _, _, _, _, _, _, _, _, _, _, _, _, _⟩ := k7_ BK393.out) | (refine goesL_ (some 22) rfl rfl Try.func56 (by kernel_rfl) rfl #[.agg #[.int .i64 a0_0, .int .i64 a0_1, .int .i64 a0_2, .int .i64 a0_3, .int .i64 a0_4, .int .i64 a0_5, .int .i64 a0_6]] rfl ar_ ?_; (with_reducible refine (page_Right.calls a0_0 a0_1 a0_2 a0_3 a0_4 a0_5 a0_6 true _ A4.out).mono ?_); rintro e w12 ⟨rfl, hb⟩; refine ⟨_, rfl, ?_⟩; replace BK393 := A_ (bb_ BK393.out hb); replace HB := A_ (below_step bl_ hb); have ⟨_, _, _, _, _, _, _, _, _, _, _, _, _, _⟩ := k7_ BK393.out) | (refine goesL_ (some 30) rfl rfl Try.func57 (by kernel_rfl) rfl #[.slice A1 l1.length c1, .int .i64 a0_2, .int .i64 a0_3] rfl ar_ ?_; (with_reducible refine (page_numbers.calls k _ _ l1 a0_2 a0_3 true _ ?side1 ?side2 A6.out).mono ?_); (case side1 => exact cb_ (Kd.C_below HR1.out HB.out)); (case side2 => exact HC1.out); rintro e w' ⟨rfl, ⟨nd, rfl⟩⟩; refine ⟨_, rfl, ?_⟩) | (refine goesL_ (some 37) rfl rfl Try.func57 (by kernel_rfl) rfl #[.slice A2 l2.length c2, .int .i64 a0_2, .int .i64 a0_3] rfl ar_ ?_; (with_reducible refine (page_numbers.calls k _ _ l2 a0_2 a0_3 true _ ?side1 ?side2 A8.out).mono ?_); (case side1 => repeat (first | exact (Kd.C_below HR2.out bl_) | (with_reducible refine Kd.C_alloc ?_ _) | (with_reducible refine Kd.C_drewN ?_ _) | (with_reducible refine Kd.C_drew ?_))); (case side2 => exact HC2.out); rintro e w' ⟨rfl, ⟨nd, rfl⟩⟩; refine ⟨_, rfl, ?_⟩))
    go_loopg [8, 41] k (fun kq v8 v41 w' => ∃ (x8_1 : List (S100)) (x41_1 : Int), v41 = .int .i64 x41_1 ∧ Aside0 (page_Quantize.l0 kq l1 l2 x8_1 a0_3 x41_1 a0_0 a0_1 a0_2 a0_3 a0_4 a0_5 a0_6 = some (r1, r2, r3)) ∧ Aside0 (kq ≤ k) ∧ Aside0 (Kd.S k100 100 w' w.heap.size (fun _ => True) v8 x8_1) ∧ Aside0 (w'.heap[gb393]? = some (.cells #[.int .i64 a0_0, .int .i64 a0_1, .int .i64 a0_2, .int .i64 a0_3, .int .i64 a0_4, .int .i64 a0_5, .int .i64 a0_6] 53 (0, 0))) ∧ Aside0 (Below w.heap.size w w'))
    case atStart => exact ⟨(([] : List (S100))), (0), rs_, H', ⟨Nat.le_refl _⟩, ⟨nil_⟩, ⟨mv_ BK393.out⟩, ⟨bl_⟩⟩
    case round =>
     clear H'
     obtain ⟨x8_1, x41_1, rfl, HA, HK1, HO_8, BK393, HB⟩ := hrel
     cases gk with
     | zero => exact absurd HA.out (by simp [page_Quantize.l0])
     | succ k1 =>
      have H := HA.out
      clear HA
      simp only [page_Quantize.l0] at H
      by_cases c14 : x41_1 < a0_3
      ·rw [if_pos c14] at H
       have c14b0 : decide (x41_1 < a0_3) = true := decide_eq_true c14
       clear c14
       have H' := A_ H
       clear H
       go_wp2
       go_loopg [11, 46] k1 (fun kq v11 v46 w' => ∃ (x11_2 : List Int) (x46_2 : Int), v46 = .int .i64 x46_2 ∧ Aside0 (page_Quantize.l1 kq l1 l2 x8_1 x41_1 x11_2 a0_3 x41_1 l1 (l1.length : Int) x46_2 a0_0 a0_1 a0_2 a0_3 a0_4 a0_5 a0_6 = some (r1, r2, r3)) ∧ Aside0 (kq ≤ k1) ∧ Aside0 (Kd.S k100 100 w' w.heap.size (fun _ => True) u8 x8_1) ∧ Aside0 (Kd.R (Kd.int .i32) 21 w' w.heap.size (fun _ => True) v11 x11_2) ∧ Aside0 (w'.heap[gb393]? = some (.cells #[.int .i64 a0_0, .int .i64 a0_1, .int .i64 a0_2, .int .i64 a0_3, .int .i64 a0_4, .int .i64 a0_5, .int .i64 a0_6] 53 (0, 0))) ∧ Aside0 (Below w.heap.size w w'))
       case atStart => exact ⟨(([] : List Int)), (0), rs_, H', ⟨Nat.le_refl _⟩, ⟨mv_ HO_8.out⟩, ⟨nil_⟩, ⟨mv_ BK393.out⟩, ⟨bl_⟩⟩
       case round =>
        clear H'
        obtain ⟨x11_2, x46_2, rfl, HA, HK2, HO_8, HO_11, BK393, HB⟩ := hrel
        cases gk with
        | zero => exact absurd HA.out (by simp [page_Quantize.l1])
        | succ k2 =>
         have H := HA.out
         clear HA
         simp only [page_Quantize.l1] at H
         by_cases c15 : x46_2 < (l1.length : Int)
         ·rw [if_pos c15] at H
          have c15b0 : decide (x46_2 < (l1.length : Int)) = true := decide_eq_true c15
          clear c15
          by_cases c16 : 0 ≤ x46_2
          ·rw [if_pos c16] at H
           have c16b0 : decide (0 ≤ x46_2) = true := decide_eq_true c16
           clear c16
           by_cases c17 : x46_2 < (l1.length : Int)
           ·rw [if_pos c17] at H
            have c17b0 : decide (x46_2 < (l1.length : Int)) = true := decide_eq_true c17
            clear c17
            by_cases c18 : 0 ≤ x41_1
            ·rw [if_pos c18] at H
             have c18b0 : decide (0 ≤ x41_1) = true := decide_eq_true c18
             clear c18
             by_cases c19 : x41_1 < ((rd_L11 l1 x46_2).length : Int)
             ·rw [if_pos c19] at H
              have c19b0 : decide (x41_1 < ((rd_L11 l1 x46_2).length : Int)) = true := decide_eq_true c19
              clear c19
              by_cases c20 : x11_2.length < 35184372088832
              ·rw [if_pos c20] at H
               have LMc20 := A_ c20
               clear c20
               obtain ⟨y399, hy399⟩ : ∃ y_ : List Int, y_ = (x11_2 ++ [rd (rd_L11 l1 x46_2) x41_1]) := ⟨_, rfl⟩
               replace H : (page_Quantize.l1 k2 l1 l2 x8_1 x41_1 y399 a0_3 x41_1 l1 (l1.length : Int) (wrap64 (x46_2 + 1)) a0_0 a0_1 a0_2 a0_3 a0_4 a0_5 a0_6) = some (r1, r2, r3) := hy_ hy399 H
               have Ny399 := A_ hy399
               clear hy399
               have H' := A_ H
               clear H
               have p397 : 0 ≤ (x46_2 : Int) := od_
               have q397 : x46_2 < (l1.length : Int) := od_
               obtain ⟨ad397, A397_0, c397_0, e397, hx397_0, hl397_0, hi397_0⟩ := at_L11 HR1.out x46_2 p397 q397
               cases e397
               replace hx397_0 := hc_ HB.out hx397_0
               have HR397_0 := A_ hi397_0
               have HC397_0 := A_ hl397_0
               clear hi397_0 hl397_0
               replace p397 := eq_true p397
               replace q397 := eq_true q397
               have p398 : 0 ≤ (x41_1 : Int) := od_
               have q398 : x41_1 < ((rd_L11 l1 x46_2).length : Int) := od_
               obtain ⟨ad398, e398, hx398_0⟩ := Kd.at_int HR397_0.out x41_1 p398 q398
               cases e398
               replace hx398_0 := hc_ HB.out hx398_0
               replace p398 := eq_true p398
               replace q398 := eq_true q398
               go_wp2_with (first | ((with_reducible refine gate_builtin (b := .append) (xs := #[.tmp 50, .tmp 55]) rfl ?_); at_builtin; refine Kd.R_append (Kd.int .i32) (w0 := w) w.heap.size rfl (.tmp 50) (.tmp 55) 22 21 (.int .i32 0) 4 rfl Try.underlying22 info21 rfl (by decide) (by omega) u11 x11_2 (rd (rd_L11 l1 x46_2) x41_1) [.int .i32 (rd (rd_L11 l1 x46_2) x41_1)] (fun _ => True) (fun _ => False) rfl rfl ?aP (fun _ hk => hk.elim) ?aF ?aO ?aB ?aS ?aL ?_; (case aP => exact rfl); (case aB => exact bl_); (case aF => exact (fun _ _ => trivial)); (case aO => exact (mv_ HO_11.out)); (case aS => exact (below_size bl_)); (case aL => have := LMc20.out; omega); intro v400 w21 ho hb hg hat; rw [← Ny399.out] at ho; replace HO_8 := A_ (Kd.S_over' (mv_ HO_8.out) (Kd.R_typed (mv_ HO_11.out)) (by decide) hg); replace BK393 := A_ (bg_ BK393.out hg (Kd.R_ne HO_11.out BK393.out (by decide))); have HO401 := A_ ho; replace HB := A_ hb; clear HO_11 ho hb hg hat))
               go_roundg k2
               case measure => have := HK1.out; have := HK2.out; omega
               case rel => exact ⟨(y399), (wrap64 (x46_2 + 1)), rs_, H', ⟨by have := HK1.out; have := HK2.out; omega⟩, ⟨mv_ HO_8.out⟩, ⟨mv_ HO401.out⟩, ⟨mv_ BK393.out⟩, ⟨bl_⟩⟩
              ·rw [if_neg c20] at H
               exact absurd H (by simp)
             ·rw [if_neg c19] at H
              exact absurd H (by simp)
            ·rw [if_neg c18] at H
             exact absurd H (by simp)
           ·rw [if_neg c17] at H
            exact absurd H (by simp)
          ·rw [if_neg c16] at H
           exact absurd H (by simp)
         ·rw [if_neg c15] at H
          have c15b0 : decide (x46_2 < (l1.length : Int)) = false := decide_eq_false c15
          clear c15
          replace H := ob_ H
          obtain ⟨⟨t402, t403, t404, t407⟩, A22, H⟩ := H
          try dsimp only at H
          by_cases c23 : x8_1.length < 4398046511104
          ·rw [if_pos c23] at H
           have LMc23 := A_ c23
           clear c23
           obtain ⟨y409, hy409⟩ : ∃ y_ : List (S100), y_ = (x8_1 ++ [(⟨t402, t403, t404⟩ : S100)]) := ⟨_, rfl⟩
           replace H : (page_Quantize.l0 k2 l1 l2 y409 a0_3 (wrap64 (x41_1 + 1)) a0_0 a0_1 a0_2 a0_3 a0_4 a0_5 a0_6) = some (r1, r2, r3) := hy_ hy409 H
           have Ny409 := A_ hy409
           clear hy409
           have H' := A_ H
           clear H
           have ⟨_, _, _, _, _, _, _, _, _, _, _, _, _, _⟩ := k7_ BK393.out
           obtain ⟨Ao25, co25, eo25⟩ := Kd.R_slice HO_11.out
           subst eo25
           go_wp2_with (first | (refine goesL_ (some 62) rfl rfl Try.func58 (by kernel_rfl) rfl #[.slice Ao25 x11_2.length co25, .int .i64 a0_0] rfl ar_ ?_; (with_reducible refine (group_Of.calls k2 _ _ x11_2 a0_0 t402 t403 t404 t407 _ ?side1 ?side2 A22.out).mono ?_); (case side1 => exact cb_ (Kd.R_reads' HO_11.out).2.2); (case side2 => exact (Kd.R_reads' HO_11.out).2.1); rintro e w26 ⟨v405, rfl, ho0, hb⟩; refine ⟨_, rfl, ?_⟩; replace HO_8 := A_ (Kd.S_elder' (mv_ HO_8.out) (Kd.R_base ho0) hb); replace HO_11 := A_ (Kd.R_below (mv_ HO_11.out) hb); have HO406 := A_ (Kd.R_lower ho0 (below_size bl_)); replace BK393 := A_ (bb_ BK393.out hb); replace HB := A_ (below_step bl_ hb)) | (refine box_event rfl (N := 14) rfl (cs := #[.int .i32 0, .int .u32 0, .slice none 0 0]) (t := 100) ?hr ?_; (case hr => first | (go_simp; done) | (go_simp; rfl)); intro gb408 hg w27 hbox hb; replace HO_8 := A_ (Kd.S_below (Kd.S_elderB (mv_ HO_8.out) gb408 (Nat.le_of_eq hg.symm)) hb); replace HO_11 := A_ (Kd.R_below (mv_ HO_11.out) hb); replace HO406 := A_ (Kd.R_below (mv_ HO406.out) hb); have BK408 := A_ hbox; have GW408 := A_ (gw_ w hg); have GE408 := A_ (gw_ w hg); have NB393_408 := A_ ((by rw [hg]; exact Nat.ne_of_lt (lt_ BK393.out) : gb393 ≠ gb408)); have NB408_393 := A_ ((by rw [hg]; exact Nat.ne_of_gt (lt_ BK393.out) : gb408 ≠ gb393)); replace BK393 := A_ (bb_ BK393.out hb); replace HB := A_ (below_step bl_ hb); clear hb hbox hg; have hnb28 := NB408_393.out; have hnc28 := NB393_408.out; have ⟨_, _, _, _, _, _⟩ := k3_ BK408.out; obtain ⟨Ao30, co30, eo30⟩ := Kd.R_slice HO406.out; subst eo30) | ((with_reducible refine gate_store (t := 100) (p := 14) rfl ?_); refine store_event (t := 100) (p := 14) (v := ?vo_w31) (w1 := (((w27.setCell ⟨gb408, 0, none⟩ (.int .i32 t402)).setCell ⟨gb408, 1, none⟩ (.int .u32 t403)).setCell ⟨gb408, 2, none⟩ (.slice Ao30 t404.length co30))) ?hg ?ho ?hn ?hr ?_; (case ho => rfl); (case hg => rfl); (case hn => rfl); (case hr => first | (go_simp; done) | (go_simp; rfl)); intro w31 hw; replace HO_8 : Aside0 (Kd.S k100 100 w31 w.heap.size (fun k_ => some k_ ≠ (.slice Ao30 t404.length co30 : Value).ownBlock ∧ k_ ≠ gb408) u8 x8_1) := ⟨(by rw [hw]; exact (by (with_reducible repeat (first | apply Kd.S_alloc | apply Kd.S_drewN | apply Kd.S_drew)); exact Kd.S_mono (Kd.S_far (Kd.S_far (Kd.S_far (Kd.S_mono HO_8.out (fun k_ hk => (⟨hk, hk.2⟩ : _ ∧ k_ ≠ gb408))) (fun _ hk => hk.2) (.int .i32 t402)) (fun _ hk => hk.2) (.int .u32 t403)) (fun _ hk => hk.2) (.slice Ao30 t404.length co30)) (fun _ hk => ⟨hk.1.1.2, hk.1.2⟩)))⟩; replace HO_11 : Aside0 (Kd.R (Kd.int .i32) 21 w31 w.heap.size (fun _ => True) (.slice Ao25 x11_2.length co25) x11_2) := ⟨(by rw [hw]; exact (by (with_reducible repeat (first | apply Kd.R_alloc | apply Kd.R_drewN | apply Kd.R_drew)); exact Kd.R_mono (Kd.R_far (Kd.R_far (Kd.R_far (Kd.R_types HO_11.out BK408.out (by decide)) (fun _ hk => hk.2) (.int .i32 t402)) (fun _ hk => hk.2) (.int .u32 t403)) (fun _ hk => hk.2) (.slice Ao30 t404.length co30)) (fun _ hk => trivial)))⟩; replace HO406 : Aside0 (Kd.R (Kd.int .i64) 3 w31 w.heap.size (fun _ => True) (.slice Ao30 t404.length co30) t404) := ⟨(by rw [hw]; exact (by (with_reducible repeat (first | apply Kd.R_alloc | apply Kd.R_drewN | apply Kd.R_drew)); exact Kd.R_mono (Kd.R_far (Kd.R_far (Kd.R_far (Kd.R_types HO406.out BK408.out (by decide)) (fun _ hk => hk.2) (.int .i32 t402)) (fun _ hk => hk.2) (.int .u32 t403)) (fun _ hk => hk.2) (.slice Ao30 t404.length co30)) (fun _ hk => trivial)))⟩; replace BK393 : Aside0 (w31.heap[gb393]? = some (.cells #[.int .i64 a0_0, .int .i64 a0_1, .int .i64 a0_2, .int .i64 a0_3, .int .i64 a0_4, .int .i64 a0_5, .int .i64 a0_6] 53 (0, 0))) := ⟨(by rw [hw]; exact (ft_ BK393.out NB393_408.out))⟩; replace BK408 : Aside0 (w31.heap[gb408]? = some (.cells #[.int .i32 t402, .int .u32 t403, .slice Ao30 t404.length co30] 100 (0, 0))) := ⟨(by rw [hw]; exact (by (with_reducible repeat (first | apply bn_ | apply bd_ | apply ba_)); refine blk_put (cs := #[.int .i32 t402, .int .u32 t403, .slice none 0 0]) ?_ 2 _ rfl; (with_reducible repeat (first | apply bn_ | apply bd_ | apply ba_)); refine blk_put (cs := #[.int .i32 t402, .int .u32 0, .slice none 0 0]) ?_ 1 _ rfl; (with_reducible repeat (first | apply bn_ | apply bd_ | apply ba_)); refine blk_put (cs := #[.int .i32 0, .int .u32 0, .slice none 0 0]) ?_ 0 _ rfl; (with_reducible repeat (first | apply bn_ | apply bd_ | apply ba_)); exact BK408.out))⟩; replace HB : Aside0 (Below w.heap.size w w31) := ⟨(by rw [hw]; exact bl_)⟩; clear hw; have ⟨_, _, _, _, _, _⟩ := k3_ BK408.out) | ((with_reducible refine gate_builtin (b := .append) (xs := #[.tmp 65, .tmp 67]) rfl ?_); at_builtin; refine Kd.S_append k100 (w0 := w) w.heap.size rfl (.tmp 65) (.tmp 67) 99 100 (.agg #[(.int .i32 0), (.int .u32 0), (.slice none 0 0)]) 32 rfl Try.underlying99 info100 rfl (by decide) (by omega) u8 x8_1 (⟨t402, t403, t404⟩ : S100) [.int .i32 t402, .int .u32 t403, .slice Ao30 t404.length co30] (fun k_ => k_ ≠ gb408) (fun k_ => some k_ = (.slice Ao30 t404.length co30 : Value).ownBlock) rfl rfl ?aP (fun k_ hk_ => ((Kd.R_mono (ok' := fun k_ => ((fun k_ => k_ ≠ gb408)) k_ ∧ some k_ ≠ (u8 : Value).ownBlock) (Kd.R_types (Kd.R_apart' (HO406.out) (Kd.S_typed HO_8.out) (by decide)) BK408.out (by decide)) (fun k_ hk => ⟨hk.2, hk.1.2⟩))).1 k_ hk_.symm) ?aF ?aO ?aB ?aS ?aL ?_; (case aP => exact k100_mkM _ _ _ (⟨t402, t403, t404⟩ : S100) (Kd.R_mono (Kd.R_tight rfl (Kd.R_mono (ok' := fun k_ => ((fun k_ => k_ ≠ gb408)) k_ ∧ some k_ ≠ (u8 : Value).ownBlock) (Kd.R_types (Kd.R_apart' (HO406.out) (Kd.S_typed HO_8.out) (by decide)) BK408.out (by decide)) (fun k_ hk => ⟨hk.2, hk.1.2⟩))) (fun _ h_ => h_))); (case aB => exact bl_); (case aF => exact (fun k_ hk => Kd.freshB (g := gb408) (o := .cells #[.int .i32 t402, .int .u32 t403, .slice Ao30 t404.length co30] 100 (0, 0)) (mv_ BK408.out) k_ hk)); (case aO => exact (by (with_reducible repeat (first | apply Kd.S_alloc | apply Kd.S_drewN | apply Kd.S_drew)); exact Kd.S_mono HO_8.out (fun k_ hk => ⟨hk.2, fun e_ => hk.1 e_⟩))); (case aS => exact (below_size bl_)); (case aL => have := LMc23.out; omega); intro v410 w33 ho hb hg hat; rw [← Ny409.out] at ho; replace HO_11 := A_ (Kd.R_over' (mv_ HO_11.out) (Kd.S_typed (mv_ HO_8.out)) (by decide) hg); replace BK393 := A_ (bg_ BK393.out hg (Kd.S_ne HO_8.out BK393.out (by decide))); replace BK408 := A_ (bg_ BK408.out hg (Kd.S_away HO_8.out (fun _ hk => hk.2))); have HO411 := A_ ho; replace HB := A_ hb; clear HO_8 HO406 ho hb hg hat))
           go_roundg k2
           case measure => have := HK1.out; have := HK2.out; omega
           case rel => exact ⟨(y409), (wrap64 (x41_1 + 1)), rs_, H', ⟨by have := HK1.out; have := HK2.out; omega⟩, ⟨by (with_reducible repeat (first | apply Kd.S_alloc | apply Kd.S_drewN | apply Kd.S_drew)); exact Kd.S_mono HO411.out (fun _ hk => trivial)⟩, ⟨mv_ BK393.out⟩, ⟨bl_⟩⟩
          ·rw [if_neg c23] at H
           exact absurd H (by simp)
      ·rw [if_neg c14] at H
       have c14b0 : decide (x41_1 < a0_3) = false := decide_eq_false c14
       clear c14
       have H' := A_ H
       clear H
       go_wp2
       go_loopg [9, 72] k1 (fun kq v9 v72 w' => ∃ (x9_2 : List (S100)) (x72_2 : Int), v72 = .int .i64 x72_2 ∧ Aside0 (page_Quantize.l2 kq x8_1 x9_2 l2 (l2.length : Int) x72_2 a0_0 a0_1 a0_2 a0_3 a0_4 a0_5 a0_6 = some (r1, r2, r3)) ∧ Aside0 (kq ≤ k1) ∧ Aside0 (Kd.S k100 100 w' w.heap.size (fun k_ => some k_ ≠ (v9 : Value).ownBlock) u8 x8_1) ∧ Aside0 (Kd.S k100 100 w' w.heap.size (fun k_ => some k_ ≠ (u8 : Value).ownBlock) v9 x9_2) ∧ Aside0 (w'.heap[gb393]? = some (.cells #[.int .i64 a0_0, .int .i64 a0_1, .int .i64 a0_2, .int .i64 a0_3, .int .i64 a0_4, .int .i64 a0_5, .int .i64 a0_6] 53 (0, 0))) ∧ Aside0 (Below w.heap.size w w'))
       case atStart => exact ⟨(([] : List (S100))), (0), rs_, H', ⟨Nat.le_refl _⟩, ⟨by (with_reducible repeat (first | apply Kd.S_alloc | apply Kd.S_drewN | apply Kd.S_drew)); exact Kd.S_mono HO_8.out (fun _ hk => (by simp [Value.ownBlock]))⟩, ⟨nil_⟩, ⟨mv_ BK393.out⟩, ⟨bl_⟩⟩
       case round =>
        clear H'
        obtain ⟨x9_2, x72_2, rfl, HA, HK2, HO_8, HO_9, BK393, HB⟩ := hrel
        cases gk with
        | zero => exact absurd HA.out (by simp [page_Quantize.l2])
        | succ k2 =>
         have H := HA.out
         clear HA
         simp only [page_Quantize.l2] at H
         by_cases c34 : x72_2 < (l2.length : Int)
         ·rw [if_pos c34] at H
          have c34b0 : decide (x72_2 < (l2.length : Int)) = true := decide_eq_true c34
          clear c34
          by_cases c35 : 0 ≤ x72_2
          ·rw [if_pos c35] at H
           have c35b0 : decide (0 ≤ x72_2) = true := decide_eq_true c35
           clear c35
           by_cases c36 : x72_2 < (l2.length : Int)
           ·rw [if_pos c36] at H
            have c36b0 : decide (x72_2 < (l2.length : Int)) = true := decide_eq_true c36
            clear c36
            replace H := ob_ H
            obtain ⟨⟨t413, t414, t415, t418⟩, A37, H⟩ := H
            try dsimp only at H
            by_cases c38 : x9_2.length < 4398046511104
            ·rw [if_pos c38] at H
             have LMc38 := A_ c38
             clear c38
             obtain ⟨y420, hy420⟩ : ∃ y_ : List (S100), y_ = (x9_2 ++ [(⟨t413, t414, t415⟩ : S100)]) := ⟨_, rfl⟩
             replace H : (page_Quantize.l2 k2 x8_1 y420 l2 (l2.length : Int) (wrap64 (x72_2 + 1)) a0_0 a0_1 a0_2 a0_3 a0_4 a0_5 a0_6) = some (r1, r2, r3) := hy_ hy420 H
             have Ny420 := A_ hy420
             clear hy420
             have H' := A_ H
             clear H
             have p412 : 0 ≤ (x72_2 : Int) := od_
             have q412 : x72_2 < (l2.length : Int) := od_
             obtain ⟨ad412, A412_0, c412_0, e412, hx412_0, hl412_0, hi412_0⟩ := at_L11 HR2.out x72_2 p412 q412
             cases e412
             replace hx412_0 := hc_ HB.out hx412_0
             have HR412_0 := A_ hi412_0
             have HC412_0 := A_ hl412_0
             clear hi412_0 hl412_0
             replace p412 := eq_true p412
             replace q412 := eq_true q412
             have ⟨_, _, _, _, _, _, _, _, _, _, _, _, _, _⟩ := k7_ BK393.out
             go_wp2_with (first | (refine goesL_ (some 80) rfl rfl Try.func58 (by kernel_rfl) rfl #[.slice A412_0 (rd_L11 l2 x72_2).length c412_0, .int .i64 a0_1] rfl ar_ ?_; (with_reducible refine (group_Of.calls k2 _ _ (rd_L11 l2 x72_2) a0_1 t413 t414 t415 t418 _ ?side1 ?side2 A37.out).mono ?_); (case side1 => exact cb_ (Kd.C_below HR412_0.out HB.out)); (case side2 => exact HC412_0.out); rintro e w40 ⟨v416, rfl, ho0, hb⟩; refine ⟨_, rfl, ?_⟩; replace HO_8 := A_ (Kd.S_elder' (mv_ HO_8.out) (Kd.R_base ho0) hb); replace HO_9 := A_ (Kd.S_elder' (mv_ HO_9.out) (Kd.R_base ho0) hb); have HO417 := A_ (Kd.R_lower ho0 (below_size bl_)); replace BK393 := A_ (bb_ BK393.out hb); replace HB := A_ (below_step bl_ hb)) | (refine box_event rfl (N := 18) rfl (cs := #[.int .i32 0, .int .u32 0, .slice none 0 0]) (t := 100) ?hr ?_; (case hr => first | (go_simp; done) | (go_simp; rfl)); intro gb419 hg w41 hbox hb; replace HO_8 := A_ (Kd.S_below (Kd.S_elderB (mv_ HO_8.out) gb419 (Nat.le_of_eq hg.symm)) hb); replace HO_9 := A_ (Kd.S_below (Kd.S_elderB (mv_ HO_9.out) gb419 (Nat.le_of_eq hg.symm)) hb); replace HO417 := A_ (Kd.R_below (mv_ HO417.out) hb); have BK419 := A_ hbox; have GW419 := A_ (gw_ w hg); have GE419 := A_ (gw_ w hg); have NB393_419 := A_ ((by rw [hg]; exact Nat.ne_of_lt (lt_ BK393.out) : gb393 ≠ gb419)); have NB419_393 := A_ ((by rw [hg]; exact Nat.ne_of_gt (lt_ BK393.out) : gb419 ≠ gb393)); replace BK393 := A_ (bb_ BK393.out hb); replace HB := A_ (below_step bl_ hb); clear hb hbox hg; have hnb42 := NB419_393.out; have hnc42 := NB393_419.out; have ⟨_, _, _, _, _, _⟩ := k3_ BK419.out; obtain ⟨Ao44, co44, eo44⟩ := Kd.R_slice HO417.out; subst eo44) | ((with_reducible refine gate_store (t := 100) (p := 18) rfl ?_); refine store_event (t := 100) (p := 18) (v := ?vo_w45) (w1 := (((w41.setCell ⟨gb419, 0, none⟩ (.int .i32 t413)).setCell ⟨gb419, 1, none⟩ (.int .u32 t414)).setCell ⟨gb419, 2, none⟩ (.slice Ao44 t415.length co44))) ?hg ?ho ?hn ?hr ?_; (case ho => rfl); (case hg => rfl); (case hn => rfl); (case hr => first | (go_simp; done) | (go_simp; rfl)); intro w45 hw; replace HO_8 : Aside0 (Kd.S k100 100 w45 w.heap.size (fun k_ => some k_ ≠ (u9 : Value).ownBlock ∧ some k_ ≠ (.slice Ao44 t415.length co44 : Value).ownBlock ∧ k_ ≠ gb419) u8 x8_1) := ⟨(by rw [hw]; exact (by (with_reducible repeat (first | apply Kd.S_alloc | apply Kd.S_drewN | apply Kd.S_drew)); exact Kd.S_mono (Kd.S_far (Kd.S_far (Kd.S_far (Kd.S_mono HO_8.out (fun k_ hk => (⟨hk, hk.2⟩ : _ ∧ k_ ≠ gb419))) (fun _ hk => hk.2) (.int .i32 t413)) (fun _ hk => hk.2) (.int .u32 t414)) (fun _ hk => hk.2) (.slice Ao44 t415.length co44)) (fun _ hk => ⟨hk.1.1.1, ⟨hk.1.1.2, hk.1.2⟩⟩)))⟩; replace HO_9 : Aside0 (Kd.S k100 100 w45 w.heap.size (fun k_ => some k_ ≠ (u8 : Value).ownBlock ∧ some k_ ≠ (.slice Ao44 t415.length co44 : Value).ownBlock ∧ k_ ≠ gb419) u9 x9_2) := ⟨(by rw [hw]; exact (by (with_reducible repeat (first | apply Kd.S_alloc | apply Kd.S_drewN | apply Kd.S_drew)); exact Kd.S_mono (Kd.S_far (Kd.S_far (Kd.S_far (Kd.S_mono HO_9.out (fun k_ hk => (⟨hk, hk.2⟩ : _ ∧ k_ ≠ gb419))) (fun _ hk => hk.2) (.int .i32 t413)) (fun _ hk => hk.2) (.int .u32 t414)) (fun _ hk => hk.2) (.slice Ao44 t415.length co44)) (fun _ hk => ⟨hk.1.1.1, ⟨hk.1.1.2, hk.1.2⟩⟩)))⟩; replace HO417 : Aside0 (Kd.R (Kd.int .i64) 3 w45 w.heap.size (fun _ => True) (.slice Ao44 t415.length co44) t415) := ⟨(by rw [hw]; exact (by (with_reducible repeat (first | apply Kd.R_alloc | apply Kd.R_drewN | apply Kd.R_drew)); exact Kd.R_mono (Kd.R_far (Kd.R_far (Kd.R_far (Kd.R_types HO417.out BK419.out (by decide)) (fun _ hk => hk.2) (.int .i32 t413)) (fun _ hk => hk.2) (.int .u32 t414)) (fun _ hk => hk.2) (.slice Ao44 t415.length co44)) (fun _ hk => trivial)))⟩; replace BK393 : Aside0 (w45.heap[gb393]? = some (.cells #[.int .i64 a0_0, .int .i64 a0_1, .int .i64 a0_2, .int .i64 a0_3, .int .i64 a0_4, .int .i64 a0_5, .int .i64 a0_6] 53 (0, 0))) := ⟨(by rw [hw]; exact (ft_ BK393.out NB393_419.out))⟩; replace BK419 : Aside0 (w45.heap[gb419]? = some (.cells #[.int .i32 t413, .int .u32 t414, .slice Ao44 t415.length co44] 100 (0, 0))) := ⟨(by rw [hw]; exact (by (with_reducible repeat (first | apply bn_ | apply bd_ | apply ba_)); refine blk_put (cs := #[.int .i32 t413, .int .u32 t414, .slice none 0 0]) ?_ 2 _ rfl; (with_reducible repeat (first | apply bn_ | apply bd_ | apply ba_)); refine blk_put (cs := #[.int .i32 t413, .int .u32 0, .slice none 0 0]) ?_ 1 _ rfl; (with_reducible repeat (first | apply bn_ | apply bd_ | apply ba_)); refine blk_put (cs := #[.int .i32 0, .int .u32 0, .slice none 0 0]) ?_ 0 _ rfl; (with_reducible repeat (first | apply bn_ | apply bd_ | apply ba_)); exact BK419.out))⟩; replace HB : Aside0 (Below w.heap.size w w45) := ⟨(by rw [hw]; exact bl_)⟩; clear hw; have ⟨_, _, _, _, _, _⟩ := k3_ BK419.out) | ((with_reducible refine gate_builtin (b := .append) (xs := #[.tmp 83, .tmp 85]) rfl ?_); at_builtin; refine Kd.S_append k100 (w0 := w) w.heap.size rfl (.tmp 83) (.tmp 85) 99 100 (.agg #[(.int .i32 0), (.int .u32 0), (.slice none 0 0)]) 32 rfl Try.underlying99 info100 rfl (by decide) (by omega) u9 x9_2 (⟨t413, t414, t415⟩ : S100) [.int .i32 t413, .int .u32 t414, .slice Ao44 t415.length co44] (fun k_ => some k_ ≠ (u8 : Value).ownBlock ∧ k_ ≠ gb419) (fun k_ => some k_ = (.slice Ao44 t415.length co44 : Value).ownBlock) rfl rfl ?aP (fun k_ hk_ => ((Kd.R_mono (ok' := fun k_ => ((fun k_ => some k_ ≠ (u8 : Value).ownBlock ∧ k_ ≠ gb419)) k_ ∧ some k_ ≠ (u9 : Value).ownBlock) (Kd.R_types (Kd.R_apart' (Kd.R_apart' (HO417.out) (Kd.S_typed HO_8.out) (by decide)) (Kd.S_typed HO_9.out) (by decide)) BK419.out (by decide)) (fun k_ hk => ⟨⟨hk.1.1.2, hk.2⟩, hk.1.2⟩))).1 k_ hk_.symm) ?aF ?aO ?aB ?aS ?aL ?_; (case aP => exact k100_mkM _ _ _ (⟨t413, t414, t415⟩ : S100) (Kd.R_mono (Kd.R_tight rfl (Kd.R_mono (ok' := fun k_ => ((fun k_ => some k_ ≠ (u8 : Value).ownBlock ∧ k_ ≠ gb419)) k_ ∧ some k_ ≠ (u9 : Value).ownBlock) (Kd.R_types (Kd.R_apart' (Kd.R_apart' (HO417.out) (Kd.S_typed HO_8.out) (by decide)) (Kd.S_typed HO_9.out) (by decide)) BK419.out (by decide)) (fun k_ hk => ⟨⟨hk.1.1.2, hk.2⟩, hk.1.2⟩))) (fun _ h_ => h_))); (case aB => exact bl_); (case aF => exact (fun k_ hk => ⟨Kd.fresh' (Kd.S_lt (mv_ HO_8.out)) k_ hk, Kd.freshB (g := gb419) (o := .cells #[.int .i32 t413, .int .u32 t414, .slice Ao44 t415.length co44] 100 (0, 0)) (mv_ BK419.out) k_ hk⟩)); (case aO => exact (by (with_reducible repeat (first | apply Kd.S_alloc | apply Kd.S_drewN | apply Kd.S_drew)); exact Kd.S_mono HO_9.out (fun k_ hk => ⟨⟨hk.1, hk.2.2⟩, fun e_ => hk.2.1 e_⟩))); (case aS => exact (below_size bl_)); (case aL => have := LMc38.out; omega); intro v421 w47 ho hb hg hat; rw [← Ny420.out] at ho; replace HO_8 := A_ (Kd.S_after (ok := (fun k_ => some k_ ≠ (.slice Ao44 t415.length co44 : Value).ownBlock ∧ k_ ≠ gb419)) (by (with_reducible repeat (first | apply Kd.S_alloc | apply Kd.S_drewN | apply Kd.S_drew)); exact Kd.S_mono HO_8.out (fun _ hk => ⟨⟨hk.2.1, hk.2.2⟩, hk.1⟩)) hg hat); replace BK393 := A_ (bg_ BK393.out hg (Kd.S_ne HO_9.out BK393.out (by decide))); replace BK419 := A_ (bg_ BK419.out hg (Kd.S_away HO_9.out (fun _ hk => hk.2.2))); have HO422 := A_ ho; replace HB := A_ hb; clear HO_9 HO417 ho hb hg hat))
             go_roundg k2
             case measure => have := HK1.out; have := HK2.out; omega
             case rel => exact ⟨(y420), (wrap64 (x72_2 + 1)), rs_, H', ⟨by have := HK1.out; have := HK2.out; omega⟩, ⟨by (with_reducible repeat (first | apply Kd.S_alloc | apply Kd.S_drewN | apply Kd.S_drew)); exact Kd.S_mono HO_8.out (fun _ hk => hk.2)⟩, ⟨by (with_reducible repeat (first | apply Kd.S_alloc | apply Kd.S_drewN | apply Kd.S_drew)); exact Kd.S_mono HO422.out (fun _ hk => hk.1)⟩, ⟨mv_ BK393.out⟩, ⟨bl_⟩⟩
            ·rw [if_neg c38] at H
             exact absurd H (by simp)
           ·rw [if_neg c36] at H
            exact absurd H (by simp)
          ·rw [if_neg c35] at H
           exact absurd H (by simp)
         ·rw [if_neg c34] at H
          have c34b0 : decide (x72_2 < (l2.length : Int)) = false := decide_eq_false c34
          clear c34
          simp only [Option.some.injEq, Prod.mk.injEq] at H
          obtain ⟨rfl, rfl, rfl⟩ := H
          have hcz_0 := c0_ BK393.out
          have hcz_1 := c1_ BK393.out
          have hcz_2 := c2_ BK393.out
          have hcz_3 := c3_ BK393.out
          have hcz_4 := c4_ BK393.out
          have hcz_5 := c5_ BK393.out
          have hcz_6 := c6_ BK393.out
          obtain ⟨Ak_, ck_, rfl, hlk_, hCk_⟩ := Kd.R_reads (Kd.S_R HO_8.out)
          obtain ⟨Av_, cv_, rfl, hlv_, hCv_⟩ := Kd.R_reads (Kd.S_R HO_9.out)
          have HCk_ := A_ hCk_
          have HCv_ := A_ hCv_
          have HLk_ := A_ hlk_
          have HLv_ := A_ hlv_
          have HQ2 := HQ.out
          first | rw [if_pos rfl] at HQ2 | rw [if_pos trivial] at HQ2
          have HQ3 := A_ HQ2
          clear HQ2 hlk_ hlv_ hCk_ hCv_ HQ
          go_wp2_with (go_at_call 59; (with_reducible refine (page_New.calls k a0_0 a0_1 a0_2 a0_3 a0_4 a0_5 a0_6 Ak_ ck_ _ Av_ cv_ _ q1 q2 _ ?side1 HLk_.out ?side2 HLv_.out HQ3.out).mono ?_); (case side1 => exact cb_ HCk_.out); (case side2 => exact cb_ HCv_.out); rintro e wp_ ⟨Ap_, rfl, hp_, hbp_⟩)
          go_ret2
          exact ⟨_, rfl, Kd.M_lower_ hp_ (below_size bl_), below_step bl_ hbp_⟩
   ·replace c9 := Bool.eq_false_iff.mpr c9
    subst c9
    replace H : (some (([] : List (S100)), ([] : List (S100)), 25)) = some (r1, r2, r3) := by rw [if_neg (show ¬ (false = true) by decide)] at H; exact H
    simp only [Option.some.injEq, Prod.mk.injEq] at H
    obtain ⟨rfl, rfl, rfl⟩ := H
    go_enter Try.func35, Try.ntmps35
    go_wp2_with (first | (refine box_event rfl (N := 3) rfl (cs := #[.int .i64 a0_0, .int .i64 a0_1, .int .i64 a0_2, .int .i64 a0_3, .int .i64 a0_4, .int .i64 a0_5, .int .i64 a0_6]) (t := 53) ?hr ?_; (case hr => first | (go_simp; done) | (go_simp; rfl)); intro gb393 hg w48 hbox hb; have BK393 := A_ hbox; have GW393 := A_ (gw_ w hg); have GE393 := A_ (gw_ w hg); replace HB := A_ (below_step bl_ hb); clear hb hbox hg; have ⟨_, _, _, _, _, _, _, _, _, _, _, _, _, _⟩ := k7_ BK393.out) | (refine goesL_ (some 22) rfl rfl Try.func56 (by kernel_rfl) rfl #[.agg #[.int .i64 a0_0, .int .i64 a0_1, .int .i64 a0_2, .int .i64 a0_3, .int .i64 a0_4, .int .i64 a0_5, .int .i64 a0_6]] rfl ar_ ?_; (with_reducible refine (page_Right.calls a0_0 a0_1 a0_2 a0_3 a0_4 a0_5 a0_6 true _ A4.out).mono ?_); rintro e w50 ⟨rfl, hb⟩; refine ⟨_, rfl, ?_⟩; replace BK393 := A_ (bb_ BK393.out hb); replace HB := A_ (below_step bl_ hb); have ⟨_, _, _, _, _, _, _, _, _, _, _, _, _, _⟩ := k7_ BK393.out) | (refine goesL_ (some 30) rfl rfl Try.func57 (by kernel_rfl) rfl #[.slice A1 l1.length c1, .int .i64 a0_2, .int .i64 a0_3] rfl ar_ ?_; (with_reducible refine (page_numbers.calls k _ _ l1 a0_2 a0_3 true _ ?side1 ?side2 A6.out).mono ?_); (case side1 => exact cb_ (Kd.C_below HR1.out HB.out)); (case side2 => exact HC1.out); rintro e w' ⟨rfl, ⟨nd, rfl⟩⟩; refine ⟨_, rfl, ?_⟩) | (refine goesL_ (some 37) rfl rfl Try.func57 (by kernel_rfl) rfl #[.slice A2 l2.length c2, .int .i64 a0_2, .int .i64 a0_3] rfl ar_ ?_; (with_reducible refine (page_numbers.calls k _ _ l2 a0_2 a0_3 false _ ?side1 ?side2 A8.out).mono ?_); (case side1 => repeat (first | exact (Kd.C_below HR2.out bl_) | (with_reducible refine Kd.C_alloc ?_ _) | (with_reducible refine Kd.C_drewN ?_ _) | (with_reducible refine Kd.C_drew ?_))); (case side2 => exact HC2.out); rintro e w' ⟨rfl, ⟨nd, rfl⟩⟩; refine ⟨_, rfl, ?_⟩))
    go_ret2
    have HQ2 := HQ.out
    rw [if_neg (by first | decide | exact bne_iff_ne.mp (by assumption))] at HQ2
    obtain ⟨rfl, rfl⟩ := Prod.mk.inj (Option.some.inj HQ2)
    exact ⟨none, rfl, Kd.ptr_nil _ _ _, bl_⟩
  ·replace c7 := Bool.eq_false_iff.mpr c7
   subst c7
   replace H : (some (([] : List (S100)), ([] : List (S100)), 25)) = some (r1, r2, r3) := by rw [if_neg (show ¬ (false = true) by decide)] at H; exact H
   simp only [Option.some.injEq, Prod.mk.injEq] at H
   obtain ⟨rfl, rfl, rfl⟩ := H
   go_enter Try.func35, Try.ntmps35
   go_wp2_with (first | (refine box_event rfl (N := 3) rfl (cs := #[.int .i64 a0_0, .int .i64 a0_1, .int .i64 a0_2, .int .i64 a0_3, .int .i64 a0_4, .int .i64 a0_5, .int .i64 a0_6]) (t := 53) ?hr ?_; (case hr => first | (go_simp; done) | (go_simp; rfl)); intro gb393 hg w52 hbox hb; have BK393 := A_ hbox; have GW393 := A_ (gw_ w hg); have GE393 := A_ (gw_ w hg); replace HB := A_ (below_step bl_ hb); clear hb hbox hg; have ⟨_, _, _, _, _, _, _, _, _, _, _, _, _, _⟩ := k7_ BK393.out) | (refine goesL_ (some 22) rfl rfl Try.func56 (by kernel_rfl) rfl #[.agg #[.int .i64 a0_0, .int .i64 a0_1, .int .i64 a0_2, .int .i64 a0_3, .int .i64 a0_4, .int .i64 a0_5, .int .i64 a0_6]] rfl ar_ ?_; (with_reducible refine (page_Right.calls a0_0 a0_1 a0_2 a0_3 a0_4 a0_5 a0_6 true _ A4.out).mono ?_); rintro e w54 ⟨rfl, hb⟩; refine ⟨_, rfl, ?_⟩; replace BK393 := A_ (bb_ BK393.out hb); replace HB := A_ (below_step bl_ hb); have ⟨_, _, _, _, _, _, _, _, _, _, _, _, _, _⟩ := k7_ BK393.out) | (refine goesL_ (some 30) rfl rfl Try.func57 (by kernel_rfl) rfl #[.slice A1 l1.length c1, .int .i64 a0_2, .int .i64 a0_3] rfl ar_ ?_; (with_reducible refine (page_numbers.calls k _ _ l1 a0_2 a0_3 false _ ?side1 ?side2 A6.out).mono ?_); (case side1 => exact cb_ (Kd.C_below HR1.out HB.out)); (case side2 => exact HC1.out); rintro e w' ⟨rfl, ⟨nd, rfl⟩⟩; refine ⟨_, rfl, ?_⟩))
   go_ret2
   have HQ2 := HQ.out
   rw [if_neg (by first | decide | exact bne_iff_ne.mp (by assumption))] at HQ2
   obtain ⟨rfl, rfl⟩ := Prod.mk.inj (Option.some.inj HQ2)
   exact ⟨none, rfl, Kd.ptr_nil _ _ _, bl_⟩
 ·replace c5 := Bool.eq_false_iff.mpr c5
  subst c5
  replace H : (some (([] : List (S100)), ([] : List (S100)), 11)) = some (r1, r2, r3) := by rw [if_neg (show ¬ (false = true) by decide)] at H; exact H
  simp only [Option.some.injEq, Prod.mk.injEq] at H
  obtain ⟨rfl, rfl, rfl⟩ := H
  go_enter Try.func35, Try.ntmps35
  go_wp2_with (first | (refine box_event rfl (N := 3) rfl (cs := #[.int .i64 a0_0, .int .i64 a0_1, .int .i64 a0_2, .int .i64 a0_3, .int .i64 a0_4, .int .i64 a0_5, .int .i64 a0_6]) (t := 53) ?hr ?_; (case hr => first | (go_simp; done) | (go_simp; rfl)); intro gb393 hg w56 hbox hb; have BK393 := A_ hbox; have GW393 := A_ (gw_ w hg); have GE393 := A_ (gw_ w hg); replace HB := A_ (below_step bl_ hb); clear hb hbox hg; have ⟨_, _, _, _, _, _, _, _, _, _, _, _, _, _⟩ := k7_ BK393.out) | (refine goesL_ (some 22) rfl rfl Try.func56 (by kernel_rfl) rfl #[.agg #[.int .i64 a0_0, .int .i64 a0_1, .int .i64 a0_2, .int .i64 a0_3, .int .i64 a0_4, .int .i64 a0_5, .int .i64 a0_6]] rfl ar_ ?_; (with_reducible refine (page_Right.calls a0_0 a0_1 a0_2 a0_3 a0_4 a0_5 a0_6 false _ A4.out).mono ?_); rintro e w58 ⟨rfl, hb⟩; refine ⟨_, rfl, ?_⟩; replace BK393 := A_ (bb_ BK393.out hb); replace HB := A_ (below_step bl_ hb)))
  go_ret2
  have HQ2 := HQ.out
  rw [if_neg (by first | decide | exact bne_iff_ne.mp (by assumption))] at HQ2
  obtain ⟨rfl, rfl⟩ := Prod.mk.inj (Option.some.inj HQ2)
  exact ⟨none, rfl, Kd.ptr_nil _ _ _, bl_⟩
theorem page_Quantize.calls (k : Nat) (a0_0 a0_1 a0_2 a0_3 a0_4 a0_5 a0_6 : Int) (A1 : Option Addr) (c1 : Nat) (l1 : List (List Int)) (A2 : Option Addr) (c2 : Nat) (l2 : List (List Int)) (r1 : List S125) (r2 : Int) (w : World) (hr1 : Kd.C (Kd.slice 21 (Kd.int .i32)) w A1 l1.length l1) (hc1 : l1.length ≤ c1) (hr2 : Kd.C (Kd.slice 21 (Kd.int .i32)) w A2 l2.length l2) (hc2 : l2.length ≤ c2) (h : page_Quantize.f k a0_0 a0_1 a0_2 a0_3 a0_4 a0_5 a0_6 l1 l2 = some (r1, r2)) :
  Calls Try.prog 35 #[.agg #[.int .i64 a0_0, .int .i64 a0_1, .int .i64 a0_2, .int .i64 a0_3, .int .i64 a0_4, .int .i64 a0_5, .int .i64 a0_6], .slice A1 l1.length c1, .slice A2 l2.length c2] w fun e w' => ∃ A : Option Addr, e = .returned (.tuple #[.pointer A, .int .i64 r2]) ∧ (Kd.ptr 125 k125).M w' w.heap.size (fun _ => True) r1 [.pointer A] ∧ Below w.heap.size w w' := by
 obtain ⟨⟨t1, t2, t3⟩, hg, hq⟩ := Option.bind_eq_some_iff.1 h
 exact page_Quantize.callsg k a0_0 a0_1 a0_2 a0_3 a0_4 a0_5 a0_6 A1 c1 l1 A2 c2 l2 t1 t2 t3 r1 r2 w hr1 hc1 hr2 hc2 hg hq
end Go.Proofs.Yteflolamihhmdaa.Q

namespace Go.Proofs.Yteflolamihhmdaa.Pure.Pg
open Go.RowKit Go.Proofs.Yteflolamihhmdaa.Q Go.Proofs.YteflolamihhmdaaW.PrintWords Go.Proofs.YteflolamihhmdaaW.PrintLast Go.Proofs.YteflolamihhmdaaW.PrintMore
theorem pg_w2 {p n : Nat} (h : p < n) (hn : n ≤ 9223372036854775807) : wrap64 ((p : Int) + 1) = ((p + 1 : Nat) : Int) := by unfold wrap64; omega
def HeadOk (h0 h1 h2 h3 h4 h5 h6 : Int) : Prop := Bit h0 ∧ Bit h1 ∧ (1 ≤ h2 ∧ h2 ≤ 16) ∧ (1 ≤ h3 ∧ h3 ≤ 16) ∧ (0 ≤ h4 ∧ h4 ≤ 3) ∧ (0 ≤ h5 ∧ h5 ≤ 3) ∧ (0 ≤ h6 ∧ h6 ≤ 1023)
theorem bits_some (b : Int) : ∃ r, pack_Bits.f b = some r ∧ (r = true ↔ Bit b) := by
 unfold pack_Bits.f Bit
 by_cases h1 : b = 2
 ·exact ⟨true, by rw [if_pos h1], by simp [h1]⟩
 ·by_cases h2 : b = 4
  ·exact ⟨true, by rw [if_neg h1, if_pos h2], by simp [h2]⟩
  ·exact ⟨b == 8, by rw [if_neg h1, if_neg h2], by simp [h1, h2]⟩
theorem within_some (n a b : Int) : ∃ r, page_within.f n a b = some r ∧ (r = true ↔ a ≤ n ∧ n ≤ b) := by
 unfold page_within.f
 by_cases h : n ≥ a
 ·exact ⟨decide (n ≤ b), by rw [if_pos h], by simp; omega⟩
 ·exact ⟨false, by rw [if_neg h], by simp; omega⟩
theorem right_some (h0 h1 h2 h3 h4 h5 h6 : Int) : ∃ r, page_Right.f h0 h1 h2 h3 h4 h5 h6 = some r ∧ (r = true ↔ HeadOk h0 h1 h2 h3 h4 h5 h6) := by
 unfold page_Right.f HeadOk
 obtain ⟨r0, e0, i0⟩ := bits_some h0
 obtain ⟨r1, e1, i1⟩ := bits_some h1
 obtain ⟨r2, e2, i2⟩ := within_some h2 1 16
 obtain ⟨r3, e3, i3⟩ := within_some h3 1 16
 obtain ⟨r4, e4, i4⟩ := within_some h4 0 3
 obtain ⟨r5, e5, i5⟩ := within_some h5 0 3
 obtain ⟨r6, e6, i6⟩ := within_some h6 0 1023
 refine ⟨r0 && r1 && r2 && r3 && r4 && r5 && r6, ?_, by simp only [Bool.and_eq_true, i0, i1, i2, i3, i4, i5, i6, and_assoc]⟩
 rw [e0, e1, e2, e3, e4, e5, e6]
 cases r0 <;> cases r1 <;> cases r2 <;> cases r3 <;> cases r4 <;> cases r5 <;> cases r6 <;> rfl
theorem numbers_loop (l : List (List Int)) (hl : l.length ≤ 9223372036854775807) (n each : Int) : ∀ (d p : Nat), p + d = l.length → ∃ b, Ev (fun k => page_numbers.l0 k l n each l (l.length : Int) (p : Int)) b ∧ (b = true ↔ (l.length : Int) = n ∧ ∀ r ∈ l.drop p, (r.length : Int) = each) := by
 intro d
 induction d with
 | zero =>
  intro p h
  refine ⟨((l.length : Int) == n), Ev.step (fun k => by rw [page_numbers.l0, if_neg (by omega)]) (Ev.now _), ?_⟩
  rw [List.drop_eq_nil_of_le (by omega)]
  simp
 | succ d ih =>
  intro p h
  have hlt : p < l.length := by omega
  have hd : l.drop p = rd_L11 l (p : Int) :: l.drop (p + 1) := drop_row hlt
  rw [hd]
  by_cases c : ((rd_L11 l (p : Int)).length : Int) = each
  ·obtain ⟨b, hb, hi⟩ := ih (p + 1) (by omega)
   refine ⟨b, Ev.step (fun k => by rw [page_numbers.l0, if_pos (by omega), if_pos (by omega), if_pos (by omega), if_pos c, pg_w2 hlt hl]) hb, ?_⟩
   rw [hi]
   constructor
   ·rintro ⟨h1, h2⟩
    exact ⟨h1, fun r hr => by
     rcases List.mem_cons.1 hr with rfl | hr
     ·exact c
     ·exact h2 r hr⟩
   ·rintro ⟨h1, h2⟩
    exact ⟨h1, fun r hr => h2 r (List.mem_cons_of_mem _ hr)⟩
  ·refine ⟨false, Ev.step (fun k => by rw [page_numbers.l0, if_pos (by omega), if_pos (by omega), if_pos (by omega), if_neg c]) (Ev.now _), ?_⟩
   simp only [Bool.false_eq_true, false_iff]
   rintro ⟨-, h2⟩
   exact c (h2 _ List.mem_cons_self)
theorem numbers_ev (l : List (List Int)) (hl : l.length ≤ 9223372036854775807) (n each : Int) : ∃ b, Ev (fun k => page_numbers.f k l n each) b ∧ (b = true ↔ (l.length : Int) = n ∧ ∀ r ∈ l, (r.length : Int) = each) := by
 obtain ⟨b, h1, h2⟩ := numbers_loop l hl n each l.length 0 (by omega)
 exact ⟨b, Ev.congr (fun k => by rw [page_numbers.f]; rfl) h1, by simpa using h2⟩
def colR (keys : List (List Int)) (p : Nat) : List Int := keys.map fun r => rd r (p : Int)
def gR (b : Int) (l : List Int) : S100 := ⟨leastR l, scaleR b l, codesR b l⟩
structure Tab (l : List (List Int)) (n m : Nat) : Prop where
 rows : l.length = n
 cols : ∀ r ∈ l, r.length = m
 i32 : AA32 l
 n1 : 1 ≤ n
 n16 : n ≤ 16
 m1 : 1 ≤ m
 m16 : m ≤ 16
theorem Tab.col {l : List (List Int)} {n m : Nat} (h : Tab l n m) {p : Nat} (hp : p < m) : (colR l p).length = n ∧ A32 (colR l p) := by
 refine ⟨by simp [colR, h.rows], fun x hx => ?_⟩
 obtain ⟨r, hr, rfl⟩ := List.mem_map.1 hx
 exact h.i32 r hr _ (pg_mem (by rw [h.cols r hr]; exact hp))
theorem quant_l1 {keys vals : List (List Int)} {n m : Nat} (hk : Tab keys n m) (h0 h1 h2 h3 h4 h5 h6 : Int) (acc : List S100) (x40 : Int) (p : Nat) (hp : p < m) (r : List S100 × List S100 × Int)
  (hr : Ev (fun k => (group_Of.f k (colR keys p) h0).bind fun bt402 => (if acc.length < 4398046511104 then (page_Quantize.l0 k keys vals (acc ++ [(⟨bt402.1, bt402.2.1, bt402.2.2.1⟩ : S100)]) x40 (wrap64 ((p : Int) + 1)) h0 h1 h2 h3 h4 h5 h6) else (none))) r) :
  ∀ (d q : Nat), q + d = keys.length → Ev (fun k => page_Quantize.l1 k keys vals acc (p : Int) (colR (keys.take q) p) x40 (p : Int) keys (keys.length : Int) (q : Int) h0 h1 h2 h3 h4 h5 h6) r := by
 have hkl : keys.length ≤ 16 := by have := hk.rows; have := hk.n16; omega
 intro d
 induction d with
 | zero =>
  intro q h
  obtain rfl : q = keys.length := by omega
  rw [List.take_length]
  refine Ev.step (fun k => ?_) hr
  rw [page_Quantize.l1, if_neg (by omega)]
 | succ d ih =>
  intro q h
  have hlt : q < keys.length := by omega
  have hrow : ((rd_L11 keys (q : Int)).length : Int) = (m : Int) := by
   have := hk.cols _ (rowAt_mem hlt)
   exact_mod_cast this
  have hlen : (colR (keys.take q) p).length < 35184372088832 := by simp [colR]; omega
  refine Ev.step (fun k => ?_) (ih (q + 1) (by omega))
  rw [page_Quantize.l1, if_pos (by omega), if_pos (by omega), if_pos (by omega), if_pos (by omega), if_pos (by omega), if_pos hlen, pg_w1 (by omega)]
  have e : colR (keys.take (q + 1)) p = colR (keys.take q) p ++ [rd (rd_L11 keys (q : Int)) (p : Int)] := by
   unfold colR
   rw [take_row hlt, List.map_append]
   rfl
  rw [e]
theorem gOf_ev {b : Int} (hb : Bit b) {l : List Int} (h0 : 0 < l.length) (ha : A32 l) (hl : l.length ≤ 256) : Ev (fun k => group_Of.f k l b) (leastR l, scaleR b l, codesR b l, 0) := group_Of_ev hb h0 ha hl
theorem quant_l2 {vals : List (List Int)} {n m : Nat} (hv : Tab vals n m) {h1 : Int} (hb : Bit h1) (h0 h2 h3 h4 h5 h6 : Int) (ks : List S100) : ∀ (d q : Nat), q + d = vals.length →
  Ev (fun k => page_Quantize.l2 k ks ((vals.take q).map (gR h1)) vals (vals.length : Int) (q : Int) h0 h1 h2 h3 h4 h5 h6) (ks, vals.map (gR h1), 0) := by
 have hvl : vals.length ≤ 16 := by have := hv.rows; have := hv.n16; omega
 intro d
 induction d with
 | zero =>
  intro q h
  obtain rfl : q = vals.length := by omega
  rw [List.take_length]
  refine Ev.step (fun k => ?_) (Ev.now _)
  rw [page_Quantize.l2, if_neg (by omega)]
 | succ d ih =>
  intro q h
  have hlt : q < vals.length := by omega
  have hmem := rowAt_mem hlt
  have hrl := hv.cols _ hmem
  have hm1 := hv.m1
  have hm16 := hv.m16
  have hlen : ((vals.take q).map (gR h1)).length < 4398046511104 := by simp; omega
  have e : (vals.take (q + 1)).map (gR h1) = (vals.take q).map (gR h1) ++ [gR h1 (rowAt vals (q : Int))] := by
   rw [take_row hlt, List.map_append]
   rfl
  have ih := ih (q + 1) (by omega)
  rw [e] at ih
  refine Ev.step (f := fun k => (group_Of.f k (rowAt vals (q : Int)) h1).bind fun bt413 => page_Quantize.l2 k ks ((vals.take q).map (gR h1) ++ [(⟨bt413.1, bt413.2.1, bt413.2.2.1⟩ : S100)]) vals (vals.length : Int) ((q + 1 : Nat) : Int) h0 h1 h2 h3 h4 h5 h6) (fun k => ?_) (Ev.bind (gOf_ev hb (by omega) (hv.i32 _ hmem) (by omega)) ih)
  rw [page_Quantize.l2, if_pos (by omega), if_pos (by omega), if_pos (by omega), pg_w1 (by omega)]
  simp only [if_pos hlen]
  rfl
def kgsR (h0 : Int) (keys : List (List Int)) (m : Nat) : List S100 := (List.range m).map fun p => gR h0 (colR keys p)
theorem quant_l0 {keys vals : List (List Int)} {n m : Nat} (hk : Tab keys n m) (hv : Tab vals n m) {h0 h1 : Int} (hb0 : Bit h0) (hb1 : Bit h1) (h2 h3 h4 h5 h6 : Int) : ∀ (d p : Nat), p + d = m →
  Ev (fun k => page_Quantize.l0 k keys vals (kgsR h0 keys p) (m : Int) (p : Int) h0 h1 h2 h3 h4 h5 h6) (kgsR h0 keys m, vals.map (gR h1), 0) := by
 have hkl : keys.length ≤ 16 := by have := hk.rows; have := hk.n16; omega
 have hm16 := hk.m16
 intro d
 induction d with
 | zero =>
  intro p h
  obtain rfl : p = m := by omega
  refine Ev.step (fun k => ?_) (quant_l2 hv hb1 h0 h2 h3 h4 h5 h6 (kgsR h0 keys p) vals.length 0 (by omega))
  rw [page_Quantize.l0, if_neg (by omega)]
  rfl
 | succ d ih =>
  intro p h
  have hlt : p < m := by omega
  obtain ⟨c1, c2⟩ := hk.col hlt
  have hn1 := hk.n1
  have hn16 := hk.n16
  have hlen : (kgsR h0 keys p).length < 4398046511104 := by simp [kgsR]; omega
  have e : kgsR h0 keys (p + 1) = kgsR h0 keys p ++ [gR h0 (colR keys p)] := by
   unfold kgsR
   rw [List.range_succ, List.map_append]
   rfl
  have ih := ih (p + 1) (by omega)
  rw [e] at ih
  refine Ev.step (fun k => ?_) (quant_l1 (vals := vals) hk h0 h1 h2 h3 h4 h5 h6 (kgsR h0 keys p) (m : Int) p hlt _ ?_ keys.length 0 (by omega))
  ·rw [page_Quantize.l0, if_pos (by omega)]
   rfl
  ·refine Ev.bind (gOf_ev hb0 (by omega) c2 (by omega)) ?_
   simp only [if_pos hlen, pg_w1 (show p ≤ 1000000 by omega)]
   exact ih
def pkR (b : Int) (g : S100) : S135 := ⟨⟨g.f0, g.f1, []⟩, packR b g.f2⟩
structure GOk (b : Int) (n : Nat) (g : S100) : Prop where
 len : g.f2.length = n
 codes : Codes b g.f2
 scale : g.f1 ≤ 1431655765
 flat : g.f1 = 0 → ∀ c ∈ g.f2, c = 0
theorem gR_ok {b : Int} (hb : Bit b) {l : List Int} (h0 : 0 < l.length) (ha : A32 l) : GOk b l.length (gR b l) := by
 obtain ⟨s1, s2, -⟩ := scale_bd hb h0 ha
 refine ⟨by simp [gR, codesR], fun c hc => ?_, s2, fun hz c hc => ?_⟩
 ·obtain ⟨x, hx, rfl⟩ := List.mem_map.1 hc
  have := code_bd hb h0 ha hx
  exact ⟨this.1, this.2.1⟩
 ·obtain ⟨x, hx, rfl⟩ := List.mem_map.1 hc
  exact (code_bd hb h0 ha hx).2.2 hz
theorem gAt_mem {l : List S100} {p : Nat} (h : p < l.length) : rd_T100 l (p : Int) ∈ l ∧ l.drop p = rd_T100 l (p : Int) :: l.drop (p + 1) ∧ l.take (p + 1) = l.take p ++ [rd_T100 l (p : Int)] := by
 have e : rd_T100 l (p : Int) = l[p] := by simp [rd_T100, List.getD_eq_getElem?_getD, List.getElem?_eq_getElem h]
 rw [e]
 exact ⟨List.getElem_mem h, List.drop_eq_getElem_cons h, List.take_succ_eq_append_getElem h⟩
theorem packAll_loop {b : Int} (hb : Bit b) {n : Nat} (hn0 : 0 < n) (hn : n ≤ 256) {l : List S100} (hl : ∀ g ∈ l, GOk b n g) (hll : l.length ≤ 1000) : ∀ (d p : Nat), p + d = l.length →
  Ev (fun k => page_packAll.l0 k b ((l.take p).map (pkR b)) l (l.length : Int) (p : Int)) (l.map (pkR b), 0) := by
 intro d
 induction d with
 | zero =>
  intro p h
  obtain rfl : p = l.length := by omega
  rw [List.take_length]
  refine Ev.step (fun k => ?_) (Ev.now _)
  rw [page_packAll.l0, if_neg (by omega)]
 | succ d ih =>
  intro p h
  have hlt : p < l.length := by omega
  obtain ⟨hm, -, ht⟩ := gAt_mem hlt
  have hg := hl _ hm
  have hlen : ((l.take p).map (pkR b)).length < 2513169434916 := by simp; omega
  have e : (l.take (p + 1)).map (pkR b) = (l.take p).map (pkR b) ++ [pkR b (rd_T100 l (p : Int))] := by
   rw [ht, List.map_append]
   rfl
  have ih := ih (p + 1) (by omega)
  rw [e] at ih
  refine Ev.step (fun k => ?_) ih
  have hr : group_Right.f (rd_T100 l (p : Int)).f0 (rd_T100 l (p : Int)).f1 (rd_T100 l (p : Int)).f2 b = some 0 := group_Right_some hb (by rw [hg.len]; exact hn0) hg.codes (by rw [hg.len]; exact hn) hg.scale hg.flat
  have hp := pack_some hb hg.codes (by rw [hg.len]; exact hn)
  rw [page_packAll.l0, if_pos (by omega), if_pos (by omega), if_pos (by omega), hr, Option.bind_some, if_pos rfl, hp, Option.bind_some, if_pos rfl, if_pos hlen, pg_w1 (by omega)]
  rfl
theorem packAll_ev {b : Int} (hb : Bit b) {n : Nat} (hn0 : 0 < n) (hn : n ≤ 256) {l : List S100} (hl : ∀ g ∈ l, GOk b n g) (hll : l.length ≤ 1000) : Ev (fun k => page_packAll.f k l b) (l.map (pkR b), 0) :=
 Ev.congr (fun k => by rw [page_packAll.f]; rfl) (packAll_loop hb hn0 hn hl hll l.length 0 (by omega))
theorem codes_loop (l : List S100) (n : Int) (each : Nat) (hl : ∀ g ∈ l, g.f2.length = each) (hll : l.length ≤ 1000) : ∀ (d p : Nat), p + d = l.length → Ev (fun k => page_codes.l0 k l n (each : Int) l (l.length : Int) (p : Int)) ((l.length : Int) == n) := by
 intro d
 induction d with
 | zero =>
  intro p h
  refine Ev.step (fun k => ?_) (Ev.now _)
  rw [page_codes.l0, if_neg (by omega)]
 | succ d ih =>
  intro p h
  have hlt : p < l.length := by omega
  have hg := hl _ (gAt_mem hlt).1
  refine Ev.step (fun k => ?_) (ih (p + 1) (by omega))
  rw [page_codes.l0, if_pos (by omega), if_pos (by omega), if_pos (by omega), if_pos (by rw [hg]), pg_w1 (by omega)]
theorem codes_ev {l : List S100} {n each : Nat} (hl : ∀ g ∈ l, g.f2.length = each) (hn : l.length = n) (hll : l.length ≤ 1000) : Ev (fun k => page_codes.f k l (n : Int) (each : Int)) true := by
 have h := codes_loop l (n : Int) each hl hll l.length 0 (by omega)
 have e : ((l.length : Int) == (n : Int)) = true := by rw [hn]; simp
 rw [e] at h
 exact Ev.congr (fun k => by rw [page_codes.f]; rfl) h
def pageR (h0 h1 h4 h5 h6 : Int) (keys vals : List (List Int)) (n m : Nat) : S125 := ⟨⟨h0, h1, (n : Int), (m : Int), h4, h5, h6⟩, (kgsR h0 keys m).map (pkR h0), (vals.map (gR h1)).map (pkR h1)⟩
theorem quantize_ok {keys vals : List (List Int)} {n m : Nat} (hk : Tab keys n m) (hv : Tab vals n m) {h0 h1 h4 h5 h6 : Int} (hh : HeadOk h0 h1 (n : Int) (m : Int) h4 h5 h6) :
  Ev (fun k => page_Quantize.f k h0 h1 (n : Int) (m : Int) h4 h5 h6 keys vals) ([pageR h0 h1 h4 h5 h6 keys vals n m], 0) := by
 obtain ⟨r, e1, i1⟩ := right_some h0 h1 (n : Int) (m : Int) h4 h5 h6
 obtain rfl : r = true := i1.2 hh
 obtain ⟨hb0, hb1, -⟩ := hh
 obtain ⟨b1, n1, j1⟩ := numbers_ev keys (by have := hk.rows; have := hk.n16; omega) (n : Int) (m : Int)
 obtain rfl : b1 = true := j1.2 ⟨by rw [hk.rows], fun r hr => by rw [hk.cols r hr]⟩
 obtain ⟨b2, n2, j2⟩ := numbers_ev vals (by have := hv.rows; have := hv.n16; omega) (n : Int) (m : Int)
 obtain rfl : b2 = true := j2.2 ⟨by rw [hv.rows], fun r hr => by rw [hv.cols r hr]⟩
 have q := quant_l0 hk hv hb0 hb1 (n : Int) (m : Int) h4 h5 h6 m 0 (by omega)
 have hn1 := hk.n1
 have hn16 := hk.n16
 have hm1 := hk.m1
 have hm16 := hk.m16
 have gk : ∀ g ∈ kgsR h0 keys m, GOk h0 n g := by
  intro g hg
  obtain ⟨p, hp, rfl⟩ := List.mem_map.1 hg
  obtain ⟨c1, c2⟩ := hk.col (List.mem_range.1 hp)
  have := gR_ok hb0 (l := colR keys p) (by omega) c2
  rwa [c1] at this
 have gv : ∀ g ∈ vals.map (gR h1), GOk h1 m g := by
  intro g hg
  obtain ⟨r, hr, rfl⟩ := List.mem_map.1 hg
  have hl := hv.cols r hr
  have := gR_ok hb1 (l := r) (by omega) (hv.i32 r hr)
  rwa [hl] at this
 have lk : (kgsR h0 keys m).length = m := by simp [kgsR]
 have lv : (vals.map (gR h1)).length = n := by rw [List.length_map, hv.rows]
 have hg : Ev (fun k => page_Quantize.g k h0 h1 (n : Int) (m : Int) h4 h5 h6 keys vals) (kgsR h0 keys m, vals.map (gR h1), 0) := by
  refine Ev.congr (fun k => by rw [page_Quantize.g, e1, Option.bind_some, if_pos rfl]) ?_
  refine Ev.bind n1 (Ev.congr (fun k => by rw [if_pos rfl]) (Ev.bind n2 (Ev.congr (fun k => by rw [if_pos rfl]) ?_)))
  exact q
 have hn : Ev (fun k => page_New.f k h0 h1 (n : Int) (m : Int) h4 h5 h6 (kgsR h0 keys m) (vals.map (gR h1))) ([pageR h0 h1 h4 h5 h6 keys vals n m], 0) := by
  refine Ev.bind (a := ((kgsR h0 keys m).map (pkR h0), (vals.map (gR h1)).map (pkR h1), 0)) ?_ ?_
  ·refine Ev.congr (fun k => by rw [page_New.g, e1, Option.bind_some, if_pos rfl]) ?_
   refine Ev.bind (codes_ev (fun g hg => (gk g hg).len) lk (by omega)) (Ev.congr (fun k => by rw [if_pos rfl]) (Ev.bind (codes_ev (fun g hg => (gv g hg).len) lv (by omega)) (Ev.congr (fun k => by rw [if_pos rfl]) ?_)))
   refine Ev.bind (packAll_ev hb0 (by omega) (by omega) gk (by omega)) (Ev.congr (fun k => by rw [if_pos rfl]) (Ev.bind (packAll_ev hb1 (by omega) (by omega) gv (by omega)) (Ev.congr (fun k => by rw [if_pos rfl]) (Ev.now _))))
  ·exact ⟨0, fun k _ => by rw [if_pos rfl]; rfl⟩
 refine Ev.bind hg (Ev.congr (f := fun k => page_New.f k h0 h1 (n : Int) (m : Int) h4 h5 h6 (kgsR h0 keys m) (vals.map (gR h1))) (fun k => ?_) hn)
 rw [if_pos rfl]
end Go.Proofs.Yteflolamihhmdaa.Pure.Pg

namespace Go.Proofs.Yteflolamihhmdaa.Q
open Go.RowKit Go.Proofs.YteflolamihhmdaaW.PrintWords Go.Proofs.YteflolamihhmdaaW.PrintLast Go.Proofs.YteflolamihhmdaaW.PrintMore
attribute [local go_sem] max2_int min2_int max_two min_two max_three min_three max_four min_four
mutual
def credenzaref08_Quantize.l0 : Nat → List (List Int) → List (List Int) → Int → Int → Int → Int → Int → Int → Int → Int → Int → Int → Int → Int → Int → Int → Int → List (S72) → Option (Int × Int × Int × Int × Int × Int × Int × (List (S72)) × (List (S72)))
 | 0, _, _, _, _, _, _, _, _, _, _, _, _, _, _, _, _, _, _ => none
 | k + 1, x1, x2, x8, x455000, x455001, x455002, x455003, x455004, x455005, x455006, x457000, x457001, x457002, x457003, x457004, x457005, x457006, x457007 => if x8 < x455003 then (credenzaref08_Quantize.l1 k x1 x2 x8 ([] : List Int) 0 x455000 x455001 x455002 x455003 x455004 x455005 x455006 x457000 x457001 x457002 x457003 x457004 x457005 x457006 x457007) else (credenzaref08_Quantize.l2 k x2 0 x455000 x455001 x455002 x455003 x455004 x455005 x455006 x457000 x457001 x457002 x457003 x457004 x457005 x457006 x457007 ([] : List (S72)))
def credenzaref08_Quantize.l1 : Nat → List (List Int) → List (List Int) → Int → List Int → Int → Int → Int → Int → Int → Int → Int → Int → Int → Int → Int → Int → Int → Int → Int → List (S72) → Option (Int × Int × Int × Int × Int × Int × Int × (List (S72)) × (List (S72)))
 | 0, _, _, _, _, _, _, _, _, _, _, _, _, _, _, _, _, _, _, _, _ => none
 | k + 1, x1, x2, x8, x9, x10, x455000, x455001, x455002, x455003, x455004, x455005, x455006, x457000, x457001, x457002, x457003, x457004, x457005, x457006, x457007 => if x10 < (x1.length : Int) then (if 0 ≤ x10 then (if 0 ≤ x8 then (if x8 < ((rd_L11 x1 x10).length : Int) then (if x9.length < 35184372088832 then (credenzaref08_Quantize.l1 k x1 x2 x8 (x9 ++ [rd (rd_L11 x1 x10) x8]) (wrap64 (x10 + 1)) x455000 x455001 x455002 x455003 x455004 x455005 x455006 x457000 x457001 x457002 x457003 x457004 x457005 x457006 x457007) else (none)) else (none)) else (none)) else (none)) else ((credenzaref07_Of.f k x9 x455000).bind fun bt462 => (if x457007.length < 4398046511104 then (credenzaref08_Quantize.l0 k x1 x2 (wrap64 (x8 + 1)) x455000 x455001 x455002 x455003 x455004 x455005 x455006 x457000 x457001 x457002 x457003 x457004 x457005 x457006 (x457007 ++ [(⟨bt462.1, bt462.2.1, bt462.2.2⟩ : S72)])) else (none)))
def credenzaref08_Quantize.l2 : Nat → List (List Int) → Int → Int → Int → Int → Int → Int → Int → Int → Int → Int → Int → Int → Int → Int → Int → List (S72) → List (S72) → Option (Int × Int × Int × Int × Int × Int × Int × (List (S72)) × (List (S72)))
 | 0, _, _, _, _, _, _, _, _, _, _, _, _, _, _, _, _, _, _ => none
 | k + 1, x2, x11, x455000, x455001, x455002, x455003, x455004, x455005, x455006, x457000, x457001, x457002, x457003, x457004, x457005, x457006, x457007, x457008 => if x11 < (x2.length : Int) then (if 0 ≤ x11 then ((credenzaref07_Of.f k (rd_L11 x2 x11) x455001).bind fun bt471 => (if x457008.length < 4398046511104 then (credenzaref08_Quantize.l2 k x2 (wrap64 (x11 + 1)) x455000 x455001 x455002 x455003 x455004 x455005 x455006 x457000 x457001 x457002 x457003 x457004 x457005 x457006 x457007 (x457008 ++ [(⟨bt471.1, bt471.2.1, bt471.2.2⟩ : S72)])) else (none))) else (none)) else (some (x457000, x457001, x457002, x457003, x457004, x457005, x457006, x457007, x457008))
end
def credenzaref08_Quantize.f (k : Nat) (a0_0 : Int) (a0_1 : Int) (a0_2 : Int) (a0_3 : Int) (a0_4 : Int) (a0_5 : Int) (a0_6 : Int) (l1 : List (List Int)) (l2 : List (List Int)) : Option (Int × Int × Int × Int × Int × Int × Int × (List (S72)) × (List (S72))) := credenzaref08_Quantize.l0 k l1 l2 0 a0_0 a0_1 a0_2 a0_3 a0_4 a0_5 a0_6 a0_0 a0_1 a0_2 a0_3 a0_4 a0_5 a0_6 ([] : List (S72))
def credenzaref08_Quantize.T10 : Bool × List (List Nat × List Nat) := (true, [([], []), ([0], [0]), ([], []), ([], []), ([3], [3]), ([2, 4], [2, 4]), ([5], [5]), ([1, 6, 5], [1, 6]), ([0, 1, 2, 3, 4, 5, 6, 7], []), ([8, 7, 7, 0, 1, 2, 3, 4, 5, 6, 7], [7, 8])])
def credenzaref08_Quantize.B10 : List Nat := [0, 1, 0, 0, 8, 28, 60, 127, 255, 511]
theorem credenzaref08_Quantize.tab10 : rtab .any (opsOf Try.f18 10) = credenzaref08_Quantize.T10 := by kernel_rfl
theorem credenzaref08_Quantize.bits10 : waitsOk credenzaref08_Quantize.T10.2 credenzaref08_Quantize.B10 = true := by kernel_rfl
def credenzaref08_Quantize.T14 : Bool × List (List Nat × List Nat) := (true, [([], []), ([0], [0]), ([], []), ([], []), ([2, 3], [2, 3]), ([4], [4]), ([], []), ([6], [6]), ([5, 7], [5, 7]), ([8], [8]), ([1, 9, 8], [1, 9]), ([0, 1, 2, 3, 4, 5, 6, 7, 8, 9, 10], []), ([11, 10, 10, 0, 1, 2, 3, 4, 5, 6, 7, 8, 9, 10], [10, 11])])
def credenzaref08_Quantize.B14 : List Nat := [0, 1, 0, 0, 12, 28, 0, 64, 252, 508, 1023, 2047, 4095]
theorem credenzaref08_Quantize.tab14 : rtab .any (opsOf Try.f18 14) = credenzaref08_Quantize.T14 := by kernel_rfl
theorem credenzaref08_Quantize.bits14 : waitsOk credenzaref08_Quantize.T14.2 credenzaref08_Quantize.B14 = true := by kernel_rfl
theorem credenzaref08_Quantize.calls (k : Nat) (a0_0 : Int) (a0_1 : Int) (a0_2 : Int) (a0_3 : Int) (a0_4 : Int) (a0_5 : Int) (a0_6 : Int) (A1 : Option Addr) (c1 : Nat) (l1 : List (List Int)) (A2 : Option Addr) (c2 : Nat) (l2 : List (List Int)) (r1 : Int) (r2 : Int) (r3 : Int) (r4 : Int) (r5 : Int) (r6 : Int) (r7 : Int) (r8 : List (S72)) (r9 : List (S72)) (w : World) (hr1 : Kd.C (Kd.slice 21 (Kd.int .i32)) w A1 l1.length l1) (hc1 : l1.length ≤ c1) (hr2 : Kd.C (Kd.slice 21 (Kd.int .i32)) w A2 l2.length l2) (hc2 : l2.length ≤ c2) (h : credenzaref08_Quantize.f k a0_0 a0_1 a0_2 a0_3 a0_4 a0_5 a0_6 l1 l2 = some (r1, r2, r3, r4, r5, r6, r7, r8, r9)) :
  Calls Try.prog 18 #[.agg #[.int .i64 a0_0, .int .i64 a0_1, .int .i64 a0_2, .int .i64 a0_3, .int .i64 a0_4, .int .i64 a0_5, .int .i64 a0_6], .slice A1 l1.length c1, .slice A2 l2.length c2] w fun e w' => ∃ v7_ v8_ : Value, e = .returned (.agg #[.int .i64 r1, .int .i64 r2, .int .i64 r3, .int .i64 r4, .int .i64 r5, .int .i64 r6, .int .i64 r7, v7_, v8_]) ∧ Kd.S k72 72 w' w.heap.size (fun k_ => some k_ ≠ (v8_ : Value).ownBlock) v7_ r8 ∧ Kd.S k72 72 w' w.heap.size (fun k_ => some k_ ≠ (v7_ : Value).ownBlock) v8_ r9 ∧ Below w.heap.size w w' := by
 have hu46 := Try.underlying46
 have hu49 := Try.underlying49
 have HR1 := A_ hr1
 have HC1 := A_ hc1
 clear hr1 hc1
 have HR2 := A_ hr2
 have HC2 := A_ hc2
 clear hr2 hc2
 have HB := A_ (Below.refl w.heap.size w)
 have H : (credenzaref08_Quantize.l0 k l1 l2 0 a0_0 a0_1 a0_2 a0_3 a0_4 a0_5 a0_6 a0_0 a0_1 a0_2 a0_3 a0_4 a0_5 a0_6 ([] : List (S72))) = some (r1, r2, r3, r4, r5, r6, r7, r8, r9) := h
 clear h
 have H' := A_ H
 clear H
 go_enter Try.func18, Try.ntmps18
 go_wp2_with (first | (refine box_event rfl (N := 3) rfl (cs := #[.int .i64 a0_0, .int .i64 a0_1, .int .i64 a0_2, .int .i64 a0_3, .int .i64 a0_4, .int .i64 a0_5, .int .i64 a0_6]) (t := 46) ?hr ?_; (case hr => first | (go_simp; done) | (go_simp; rfl)); intro gb454 hg w4 hbox hb; have BK454 := A_ hbox; have GW454 := A_ (gw_ w hg); have GE454 := A_ (gw_ w hg); replace HB := A_ (below_step bl_ hb); clear hb hbox hg) | (refine box_event rfl (N := 6) rfl (cs := #[.int .i64 0, .int .i64 0, .int .i64 0, .int .i64 0, .int .i64 0, .int .i64 0, .int .i64 0, .slice none 0 0, .slice none 0 0]) (t := 49) ?hr ?_; (case hr => first | (go_simp; done) | (go_simp; rfl)); intro gb455 hg w5 hbox hb; have BK455 := A_ hbox; have GW455 := A_ (gw_ w hg); have GE455 := A_ (gw_ w hg); have NB454_455 := A_ ((by rw [hg]; exact Nat.ne_of_lt (lt_ BK454.out) : gb454 ≠ gb455)); have NB455_454 := A_ ((by rw [hg]; exact Nat.ne_of_gt (lt_ BK454.out) : gb455 ≠ gb454)); replace BK454 := A_ (bb_ BK454.out hb); replace HB := A_ (below_step bl_ hb); clear hb hbox hg; have hnb6 := NB454_455.out; have hnc6 := NB455_454.out; have ⟨_, _, _, _, _, _, _, _, _, _, _, _, _, _⟩ := k7_ BK454.out) | (refine box_event rfl (N := 7) rfl (cs := #[.int .i64 0, .int .i64 0, .int .i64 0, .int .i64 0, .int .i64 0, .int .i64 0, .int .i64 0, .slice none 0 0, .slice none 0 0]) (t := 49) ?hr ?_; (case hr => first | (go_simp; done) | (go_simp; rfl)); intro gb456 hg w8 hbox hb; have BK456 := A_ hbox; have GW456 := A_ (gw_ w hg); have GE456 := A_ (gw_ w hg); have NB454_456 := A_ ((by rw [hg]; exact Nat.ne_of_lt (lt_ BK454.out) : gb454 ≠ gb456)); have NB456_454 := A_ ((by rw [hg]; exact Nat.ne_of_gt (lt_ BK454.out) : gb456 ≠ gb454)); replace BK454 := A_ (bb_ BK454.out hb); have NB455_456 := A_ ((by rw [hg]; exact Nat.ne_of_lt (lt_ BK455.out) : gb455 ≠ gb456)); have NB456_455 := A_ ((by rw [hg]; exact Nat.ne_of_gt (lt_ BK455.out) : gb456 ≠ gb455)); replace BK455 := A_ (bb_ BK455.out hb); replace HB := A_ (below_step bl_ hb); clear hb hbox hg; have hnb9 := NB456_454.out; have hnc9 := NB454_456.out; have hnb10 := NB456_455.out; have hnc10 := NB455_456.out; have ⟨_, _, _, _, _, _, _, _, _, _, _, _, _, _, _, _, _, _⟩ := k9_ BK456.out))
 go_loopg [8] k (fun kq v8 w' => ∃ (x8_1 : Int) (x457007_1 : List (S72)) (u457007 : Value), v8 = .int .i64 x8_1 ∧ Aside0 (credenzaref08_Quantize.l0 kq l1 l2 x8_1 a0_0 a0_1 a0_2 a0_3 a0_4 a0_5 a0_6 a0_0 a0_1 a0_2 a0_3 a0_4 a0_5 a0_6 x457007_1 = some (r1, r2, r3, r4, r5, r6, r7, r8, r9)) ∧ Aside0 (kq ≤ k) ∧ Aside0 (Kd.S k72 72 w' w.heap.size (fun _ => True) u457007 x457007_1) ∧ Aside0 (w'.heap[gb454]? = some (.cells #[.int .i64 a0_0, .int .i64 a0_1, .int .i64 a0_2, .int .i64 a0_3, .int .i64 a0_4, .int .i64 a0_5, .int .i64 a0_6] 46 (0, 0))) ∧ Aside0 (w'.heap[gb455]? = some (.cells #[.int .i64 0, .int .i64 0, .int .i64 0, .int .i64 0, .int .i64 0, .int .i64 0, .int .i64 0, (.slice none 0 0), (.slice none 0 0)] 49 (0, 0))) ∧ Aside0 (w'.heap[gb456]? = some (.cells #[.int .i64 a0_0, .int .i64 a0_1, .int .i64 a0_2, .int .i64 a0_3, .int .i64 a0_4, .int .i64 a0_5, .int .i64 a0_6, u457007, (.slice none 0 0)] 49 (0, 0))) ∧ Aside0 (Below w.heap.size w w'))
 case atStart => exact ⟨(0), (([] : List (S72))), (.slice none 0 0), rs_, H', ⟨Nat.le_refl _⟩, ⟨nil_⟩, ⟨ft_ BK454.out NB454_456.out⟩, ⟨ft_ BK455.out NB455_456.out⟩, ⟨by (with_reducible repeat (first | apply bn_ | apply bd_ | apply ba_)); refine blk_put (cs := #[.int .i64 a0_0, .int .i64 a0_1, .int .i64 a0_2, .int .i64 a0_3, .int .i64 a0_4, .int .i64 a0_5, .int .i64 a0_6, .slice none 0 0, .slice none 0 0]) ?_ 8 _ rfl; (with_reducible repeat (first | apply bn_ | apply bd_ | apply ba_)); refine blk_put (cs := #[.int .i64 a0_0, .int .i64 a0_1, .int .i64 a0_2, .int .i64 a0_3, .int .i64 a0_4, .int .i64 a0_5, .int .i64 a0_6, .slice none 0 0, .slice none 0 0]) ?_ 7 _ rfl; (with_reducible repeat (first | apply bn_ | apply bd_ | apply ba_)); refine blk_put (cs := #[.int .i64 a0_0, .int .i64 a0_1, .int .i64 a0_2, .int .i64 a0_3, .int .i64 a0_4, .int .i64 a0_5, .int .i64 0, .slice none 0 0, .slice none 0 0]) ?_ 6 _ rfl; (with_reducible repeat (first | apply bn_ | apply bd_ | apply ba_)); refine blk_put (cs := #[.int .i64 a0_0, .int .i64 a0_1, .int .i64 a0_2, .int .i64 a0_3, .int .i64 a0_4, .int .i64 0, .int .i64 0, .slice none 0 0, .slice none 0 0]) ?_ 5 _ rfl; (with_reducible repeat (first | apply bn_ | apply bd_ | apply ba_)); refine blk_put (cs := #[.int .i64 a0_0, .int .i64 a0_1, .int .i64 a0_2, .int .i64 a0_3, .int .i64 0, .int .i64 0, .int .i64 0, .slice none 0 0, .slice none 0 0]) ?_ 4 _ rfl; (with_reducible repeat (first | apply bn_ | apply bd_ | apply ba_)); refine blk_put (cs := #[.int .i64 a0_0, .int .i64 a0_1, .int .i64 a0_2, .int .i64 0, .int .i64 0, .int .i64 0, .int .i64 0, .slice none 0 0, .slice none 0 0]) ?_ 3 _ rfl; (with_reducible repeat (first | apply bn_ | apply bd_ | apply ba_)); refine blk_put (cs := #[.int .i64 a0_0, .int .i64 a0_1, .int .i64 0, .int .i64 0, .int .i64 0, .int .i64 0, .int .i64 0, .slice none 0 0, .slice none 0 0]) ?_ 2 _ rfl; (with_reducible repeat (first | apply bn_ | apply bd_ | apply ba_)); refine blk_put (cs := #[.int .i64 a0_0, .int .i64 0, .int .i64 0, .int .i64 0, .int .i64 0, .int .i64 0, .int .i64 0, .slice none 0 0, .slice none 0 0]) ?_ 1 _ rfl; (with_reducible repeat (first | apply bn_ | apply bd_ | apply ba_)); refine blk_put (cs := #[.int .i64 0, .int .i64 0, .int .i64 0, .int .i64 0, .int .i64 0, .int .i64 0, .int .i64 0, .slice none 0 0, .slice none 0 0]) ?_ 0 _ rfl; (with_reducible repeat (first | apply bn_ | apply bd_ | apply ba_)); exact BK456.out⟩, ⟨bl_⟩⟩
 case round =>
  clear H'
  obtain ⟨x8_1, x457007_1, u457007, rfl, HA, HK1, HO_457007, BK454, BK455, BK456, HB⟩ := hrel
  cases gk with
  | zero => exact absurd HA.out (by simp [credenzaref08_Quantize.l0])
  | succ k1 =>
   have H := HA.out
   clear HA
   simp only [credenzaref08_Quantize.l0] at H
   by_cases c12 : x8_1 < a0_3
   ·rw [if_pos c12] at H
    have c12b0 : decide (x8_1 < a0_3) = true := decide_eq_true c12
    clear c12
    have H' := A_ H
    clear H
    have hnb13 := NB454_455.out
    have hnc13 := NB455_454.out
    have hnb14 := NB454_456.out
    have hnc14 := NB456_454.out
    have ⟨_, _, _, _, _, _, _, _, _, _, _, _, _, _⟩ := k7_ BK454.out
    go_wp2
    go_loopg [9, 10] k1 (fun kq v9 v10 w' => ∃ (x9_2 : List Int) (x10_2 : Int), v10 = .int .i64 x10_2 ∧ Aside0 (credenzaref08_Quantize.l1 kq l1 l2 x8_1 x9_2 x10_2 a0_0 a0_1 a0_2 a0_3 a0_4 a0_5 a0_6 a0_0 a0_1 a0_2 a0_3 a0_4 a0_5 a0_6 x457007_1 = some (r1, r2, r3, r4, r5, r6, r7, r8, r9)) ∧ Aside0 (kq ≤ k1) ∧ Aside0 (Kd.R (Kd.int .i32) 21 w' w.heap.size (fun _ => True) v9 x9_2) ∧ Aside0 (Kd.S k72 72 w' w.heap.size (fun _ => True) u457007 x457007_1) ∧ Aside0 (w'.heap[gb454]? = some (.cells #[.int .i64 a0_0, .int .i64 a0_1, .int .i64 a0_2, .int .i64 a0_3, .int .i64 a0_4, .int .i64 a0_5, .int .i64 a0_6] 46 (0, 0))) ∧ Aside0 (w'.heap[gb455]? = some (.cells #[.int .i64 0, .int .i64 0, .int .i64 0, .int .i64 0, .int .i64 0, .int .i64 0, .int .i64 0, (.slice none 0 0), (.slice none 0 0)] 49 (0, 0))) ∧ Aside0 (w'.heap[gb456]? = some (.cells #[.int .i64 a0_0, .int .i64 a0_1, .int .i64 a0_2, .int .i64 a0_3, .int .i64 a0_4, .int .i64 a0_5, .int .i64 a0_6, u457007, (.slice none 0 0)] 49 (0, 0))) ∧ Aside0 (Below w.heap.size w w'))
    case atStart => exact ⟨(([] : List Int)), (0), rs_, H', ⟨Nat.le_refl _⟩, ⟨nil_⟩, ⟨mv_ HO_457007.out⟩, ⟨mv_ BK454.out⟩, ⟨mv_ BK455.out⟩, ⟨mv_ BK456.out⟩, ⟨bl_⟩⟩
    case round =>
     clear H'
     obtain ⟨x9_2, x10_2, rfl, HA, HK2, HO_9, HO_457007, BK454, BK455, BK456, HB⟩ := hrel
     cases gk with
     | zero => exact absurd HA.out (by simp [credenzaref08_Quantize.l1])
     | succ k2 =>
      have H := HA.out
      clear HA
      simp only [credenzaref08_Quantize.l1] at H
      by_cases c16 : x10_2 < (l1.length : Int)
      ·rw [if_pos c16] at H
       have c16b0 : decide (x10_2 < (l1.length : Int)) = true := decide_eq_true c16
       clear c16
       by_cases c17 : 0 ≤ x10_2
       ·rw [if_pos c17] at H
        have c17b0 : decide (0 ≤ x10_2) = true := decide_eq_true c17
        clear c17
        by_cases c18 : 0 ≤ x8_1
        ·rw [if_pos c18] at H
         have c18b0 : decide (0 ≤ x8_1) = true := decide_eq_true c18
         clear c18
         by_cases c19 : x8_1 < ((rd_L11 l1 x10_2).length : Int)
         ·rw [if_pos c19] at H
          have c19b0 : decide (x8_1 < ((rd_L11 l1 x10_2).length : Int)) = true := decide_eq_true c19
          clear c19
          by_cases c20 : x9_2.length < 35184372088832
          ·rw [if_pos c20] at H
           have LMc20 := A_ c20
           clear c20
           obtain ⟨y459, hy459⟩ : ∃ y_ : List Int, y_ = (x9_2 ++ [rd (rd_L11 l1 x10_2) x8_1]) := ⟨_, rfl⟩
           replace H : (credenzaref08_Quantize.l1 k2 l1 l2 x8_1 y459 (wrap64 (x10_2 + 1)) a0_0 a0_1 a0_2 a0_3 a0_4 a0_5 a0_6 a0_0 a0_1 a0_2 a0_3 a0_4 a0_5 a0_6 x457007_1) = some (r1, r2, r3, r4, r5, r6, r7, r8, r9) := hy_ hy459 H
           have Ny459 := A_ hy459
           clear hy459
           have H' := A_ H
           clear H
           have p457 : 0 ≤ (x10_2 : Int) := od_
           have q457 : x10_2 < (l1.length : Int) := od_
           obtain ⟨ad457, A457_0, c457_0, e457, hx457_0, hl457_0, hi457_0⟩ := at_L11 HR1.out x10_2 p457 q457
           cases e457
           replace hx457_0 := hc_ HB.out hx457_0
           have HR457_0 := A_ hi457_0
           have HC457_0 := A_ hl457_0
           clear hi457_0 hl457_0
           replace p457 := eq_true p457
           replace q457 := eq_true q457
           have p458 : 0 ≤ (x8_1 : Int) := od_
           have q458 : x8_1 < ((rd_L11 l1 x10_2).length : Int) := od_
           obtain ⟨ad458, e458, hx458_0⟩ := Kd.at_int HR457_0.out x8_1 p458 q458
           cases e458
           replace hx458_0 := hc_ HB.out hx458_0
           replace p458 := eq_true p458
           replace q458 := eq_true q458
           go_wp2_with (first | ((with_reducible refine gate_builtin (b := .append) (xs := #[.tmp 26, .tmp 34]) rfl ?_); at_builtin; refine Kd.R_append (Kd.int .i32) (w0 := w) w.heap.size rfl (.tmp 26) (.tmp 34) 22 21 (.int .i32 0) 4 rfl Try.underlying22 info21 rfl (by decide) (by omega) u9 x9_2 (rd (rd_L11 l1 x10_2) x8_1) [.int .i32 (rd (rd_L11 l1 x10_2) x8_1)] (fun _ => True) (fun _ => False) rfl rfl ?aP (fun _ hk => hk.elim) ?aF ?aO ?aB ?aS ?aL ?_; (case aP => exact rfl); (case aB => exact bl_); (case aF => exact (fun _ _ => trivial)); (case aO => exact (mv_ HO_9.out)); (case aS => exact (below_size bl_)); (case aL => have := LMc20.out; omega); intro v460 w21 ho hb hg hat; rw [← Ny459.out] at ho; replace HO_457007 := A_ (Kd.S_over' (mv_ HO_457007.out) (Kd.R_typed (mv_ HO_9.out)) (by decide) hg); replace BK454 := A_ (bg_ BK454.out hg (Kd.R_ne HO_9.out BK454.out (by decide))); replace BK455 := A_ (bg_ BK455.out hg (Kd.R_ne HO_9.out BK455.out (by decide))); replace BK456 := A_ (bg_ BK456.out hg (Kd.R_ne HO_9.out BK456.out (by decide))); have HO461 := A_ ho; replace HB := A_ hb; clear HO_9 ho hb hg hat))
           go_roundg k2
           case measure => have := HK1.out; have := HK2.out; omega
           case rel => exact ⟨(y459), (wrap64 (x10_2 + 1)), rs_, H', ⟨by have := HK1.out; have := HK2.out; omega⟩, ⟨mv_ HO461.out⟩, ⟨mv_ HO_457007.out⟩, ⟨mv_ BK454.out⟩, ⟨mv_ BK455.out⟩, ⟨mv_ BK456.out⟩, ⟨bl_⟩⟩
          ·rw [if_neg c20] at H
           exact absurd H (by simp)
         ·rw [if_neg c19] at H
          exact absurd H (by simp)
        ·rw [if_neg c18] at H
         exact absurd H (by simp)
       ·rw [if_neg c17] at H
        exact absurd H (by simp)
      ·rw [if_neg c16] at H
       have c16b0 : decide (x10_2 < (l1.length : Int)) = false := decide_eq_false c16
       clear c16
       replace H := ob_ H
       obtain ⟨⟨t462, t463, t464⟩, A22, H⟩ := H
       try dsimp only at H
       by_cases c23 : x457007_1.length < 4398046511104
       ·rw [if_pos c23] at H
        have LMc23 := A_ c23
        clear c23
        obtain ⟨y467, hy467⟩ : ∃ y_ : List (S72), y_ = (x457007_1 ++ [(⟨t462, t463, t464⟩ : S72)]) := ⟨_, rfl⟩
        replace H : (credenzaref08_Quantize.l0 k2 l1 l2 (wrap64 (x8_1 + 1)) a0_0 a0_1 a0_2 a0_3 a0_4 a0_5 a0_6 a0_0 a0_1 a0_2 a0_3 a0_4 a0_5 a0_6 y467) = some (r1, r2, r3, r4, r5, r6, r7, r8, r9) := hy_ hy467 H
        have Ny467 := A_ hy467
        clear hy467
        have H' := A_ H
        clear H
        try go_wp2
        replace HO_9 := A_ (Kd.R_drew HO_9.out)
        replace HO_457007 := A_ (Kd.S_drew HO_457007.out)
        replace BK454 := A_ (blk_drew BK454.out)
        replace BK455 := A_ (blk_drew BK455.out)
        replace BK456 := A_ (blk_drew BK456.out)
        replace HB := A_ (below_drew1 HB.out)
        obtain ⟨Ao25, co25, eo25⟩ := Kd.R_slice HO_9.out
        (first | subst eo25 | (injection eo25 with f1_ f2_ f3_; have f4_ := f1_.symm; have f5_ := f3_.symm; clear f1_ f2_ f3_; subst f4_; subst f5_))
        refine start_ (n := 10) (S := fun w' => w'.cell? ⟨gb456, 0, none⟩ = some (.int .i64 a0_0) ∧ w'.cell? ⟨gb456, 1, none⟩ = some (.int .i64 a0_1) ∧ w'.cell? ⟨gb456, 2, none⟩ = some (.int .i64 a0_2) ∧ w'.cell? ⟨gb456, 3, none⟩ = some (.int .i64 a0_3) ∧ w'.cell? ⟨gb456, 4, none⟩ = some (.int .i64 a0_4) ∧ w'.cell? ⟨gb456, 5, none⟩ = some (.int .i64 a0_5) ∧ w'.cell? ⟨gb456, 6, none⟩ = some (.int .i64 a0_6) ∧ w'.cell? ⟨gb456, 7, none⟩ = some (u457007) ∧ w'.cell? ⟨gb456, 8, none⟩ = some (.slice none 0 0) ∧ w'.cell? ⟨gb454, 0, none⟩ = some (.int .i64 a0_0) ∧ w'.cell? ⟨gb454, 1, none⟩ = some (.int .i64 a0_1) ∧ w'.cell? ⟨gb454, 2, none⟩ = some (.int .i64 a0_2) ∧ w'.cell? ⟨gb454, 3, none⟩ = some (.int .i64 a0_3) ∧ w'.cell? ⟨gb454, 4, none⟩ = some (.int .i64 a0_4) ∧ w'.cell? ⟨gb454, 5, none⟩ = some (.int .i64 a0_5) ∧ w'.cell? ⟨gb454, 6, none⟩ = some (.int .i64 a0_6)) (ds := [9]) #[false, false, false, false, false, false, false, false, false, false] (by kernel_rfl) rfl rfl ⟨c0_ BK456.out, c1_ BK456.out, c2_ BK456.out, c3_ BK456.out, c4_ BK456.out, c5_ BK456.out, c6_ BK456.out, c7_ BK456.out, c8_ BK456.out, c0_ BK454.out, c1_ BK454.out, c2_ BK454.out, c3_ BK454.out, c4_ BK454.out, c5_ BK454.out, c6_ BK454.out⟩ (fun hHeld => ?_); refine with_tabW credenzaref08_Quantize.tab10 credenzaref08_Quantize.bits10 (fun HT_ HW_ => ?_)
        generalize wr.drew = w24 at HO_9 HO_457007 BK454 BK455 BK456 HB hHeld ⊢
        refine pure_ (i := 0) (N := some 36) (v := ?_) (a' := ?_) #[true, false, false, false, false, false, false, false, false, false] rfl rfl (any_of HT_.out (by kernel_rfl)) (fun _ _ _ h => h) (Or.inl ⟨by rfl, ?_⟩) ?_ ?_
        rotate_left
        ·intro w'
         go_simp
         with_reducible rfl
        rotate_left
        ·simp only [Act.put, ps_, i64_w, i32_w]
         rfl
        refine pure_ (i := 2) (N := some 38) (v := ?_) (a' := ?_) #[true, false, true, false, false, false, false, false, false, false] rfl rfl (any_of HT_.out (by kernel_rfl)) (fun _ _ _ h => h) (Or.inl ⟨by rfl, ?_⟩) ?_ ?_
        rotate_left
        ·intro w'
         go_simp
         with_reducible rfl
        rotate_left
        ·simp only [Act.put, ps_, i64_w, i32_w]
         rfl
        refine pure_ (i := 3) (N := some 39) (v := ?_) (a' := ?_) #[true, false, true, true, false, false, false, false, false, false] rfl rfl (any_of HT_.out (by kernel_rfl)) (fun _ _ _ h => h) (Or.inl ⟨by rfl, ?_⟩) ?_ ?_
        rotate_left
        ·intro w'
         go_simp
         with_reducible rfl
        rotate_left
        ·simp only [Act.put, ps_, i64_w, i32_w]
         rfl
        refine take_ (i := 1) (N := some 37) (v := ?_) (a' := ?_) #[true, true, true, true, false, false, false, false, false, false] rfl rfl (take_ofW HT_.out HW_.out (by kernel_rfl)) (fun _ _ _ h => h) (Or.inl ⟨by rfl, ?_⟩) hHeld ?_ ?_
        rotate_left
        ·rintro w' ⟨s0, s1, s2, s3, s4, s5, s6, s7, s8, s9, s10, s11, s12, s13, s14, s15⟩
         go_simp
         with_reducible rfl
        rotate_left
        ·simp only [Act.put, ps_, i64_w, i32_w]
         rfl
        refine take_ (i := 4) (N := some 40) (v := ?_) (a' := ?_) #[true, true, true, true, true, false, false, false, false, false] rfl rfl (take_ofW HT_.out HW_.out (by kernel_rfl)) (fun _ _ _ h => h) (Or.inl ⟨by rfl, ?_⟩) hHeld ?_ ?_
        rotate_left
        ·rintro w' ⟨s0, s1, s2, s3, s4, s5, s6, s7, s8, s9, s10, s11, s12, s13, s14, s15⟩
         go_simp
         with_reducible rfl
        rotate_left
        ·simp only [Act.put, ps_, i64_w, i32_w]
         rfl
        refine one_ (i := 5) (N := some 41) #[true, true, true, true, true, true, false, false, false, false] rfl rfl (one_of HT_.out (by kernel_rfl)) (by decide) (fun K hK => ?_)
        refine goes_ Try.func36 (by kernel_rfl) rfl #[.slice Ao25 x9_2.length co25, .int .i64 a0_0] (by rfl) rfl rfl ar_ ?_
        with_reducible refine (credenzaref07_Of.calls k2 _ _ x9_2 a0_0 t462 t463 t464 _ ?side1 ?side2 A22.out).mono ?_
        (case side1 => exact cb_ (Kd.R_reads' HO_9.out).2.2)
        (case side2 => exact (Kd.R_reads' HO_9.out).2.1)
        rintro e w26 ⟨v465, rfl, ho0, hb⟩
        refine ⟨_, rfl, ?_⟩
        replace HO_9 := A_ (Kd.R_below (mv_ HO_9.out) hb)
        replace HO_457007 := A_ (Kd.S_elder' (mv_ HO_457007.out) (Kd.R_base ho0) hb)
        have HO466 := A_ (Kd.R_lower ho0 (below_size bl_))
        replace BK454 := A_ (bb_ BK454.out hb)
        replace BK455 := A_ (bb_ BK455.out hb)
        replace BK456 := A_ (bb_ BK456.out hb)
        replace HB := A_ (below_step bl_ hb)
        obtain ⟨Ao28, co28, eo28⟩ := Kd.R_slice HO466.out
        (first | subst eo28 | (injection eo28 with f1_ f2_ f3_; have f4_ := f1_.symm; have f5_ := f3_.symm; clear f1_ f2_ f3_; subst f4_; subst f5_))
        refine hK.out _ _ ⟨c0_ BK456.out, c1_ BK456.out, c2_ BK456.out, c3_ BK456.out, c4_ BK456.out, c5_ BK456.out, c6_ BK456.out, c7_ BK456.out, c8_ BK456.out, c0_ BK454.out, c1_ BK454.out, c2_ BK454.out, c3_ BK454.out, c4_ BK454.out, c5_ BK454.out, c6_ BK454.out⟩ (fun hHeld => ?_)
        clear hK K
        refine norm_ (a' := ?_) ?_ ?_
        rotate_left
        ·show Act.put _ (some 41) _ = _
         simp only [Act.put, ps_, i64_w, i32_w]
         rfl
        refine one_ (i := 6) (N := some 42) #[true, true, true, true, true, true, true, false, false, false] rfl rfl (one_of HT_.out (by kernel_rfl)) (by decide) (fun K hK => ?_)
        refine value_ (w1 := ?_) (v := ?_) (by rfl) rfl ?_ ?_
        rotate_left 2
        ·go_simp
         constructor
         ·rfl
         ·rfl
        refine hK.out _ _ ⟨(blk_cell (blk_alloc BK456.out _) 0).trans rfl, (blk_cell (blk_alloc BK456.out _) 1).trans rfl, (blk_cell (blk_alloc BK456.out _) 2).trans rfl, (blk_cell (blk_alloc BK456.out _) 3).trans rfl, (blk_cell (blk_alloc BK456.out _) 4).trans rfl, (blk_cell (blk_alloc BK456.out _) 5).trans rfl, (blk_cell (blk_alloc BK456.out _) 6).trans rfl, (blk_cell (blk_alloc BK456.out _) 7).trans rfl, (blk_cell (blk_alloc BK456.out _) 8).trans rfl, (blk_cell (blk_alloc BK454.out _) 0).trans rfl, (blk_cell (blk_alloc BK454.out _) 1).trans rfl, (blk_cell (blk_alloc BK454.out _) 2).trans rfl, (blk_cell (blk_alloc BK454.out _) 3).trans rfl, (blk_cell (blk_alloc BK454.out _) 4).trans rfl, (blk_cell (blk_alloc BK454.out _) 5).trans rfl, (blk_cell (blk_alloc BK454.out _) 6).trans rfl⟩ (fun hHeld => ?_)
        clear hK K
        refine norm_ (a' := ?_) ?_ ?_
        rotate_left
        ·show Act.put _ (some 42) _ = _
         simp only [Act.put, ps_, i64_w, i32_w]
         rfl
        refine one_ (i := 7) (N := some 43) #[true, true, true, true, true, true, true, true, false, false] rfl rfl (one_of HT_.out (by kernel_rfl)) (by decide) (fun K hK => ?_)
        refine Kd.S_append_step k72 (w0 := w) w.heap.size (by rfl) (.tmp 37) (.tmp 42) 47 72 (.agg #[(.int .i32 0), (.int .u32 0), (.slice none 0 0)]) 32 rfl Try.underlying47 info72 rfl (by decide) (by omega) u457007 x457007_1 (⟨t462, t463, t464⟩ : S72) [.int .i32 t462, .int .u32 t463, .slice Ao28 t464.length co28] (fun _ => True) (fun k_ => some k_ = (.slice Ao28 t464.length co28 : Value).ownBlock) rfl rfl ?aP (fun k_ hk_ => ((Kd.R_mono (ok' := fun k_ => ((fun _ => True)) k_ ∧ some k_ ≠ (u457007 : Value).ownBlock) (Kd.R_apart' (HO466.out) (Kd.S_typed HO_457007.out) (by decide)) (fun k_ hk => ⟨trivial, hk.2⟩))).1 k_ hk_.symm) ?aF ?aO ?aB ?aS ?aL ?_
        (case aP => exact k72_mkM _ _ _ (⟨t462, t463, t464⟩ : S72) (Kd.R_mono (Kd.R_tight rfl (Kd.R_mono (ok' := fun k_ => ((fun _ => True)) k_ ∧ some k_ ≠ (u457007 : Value).ownBlock) (Kd.R_apart' (HO466.out) (Kd.S_typed HO_457007.out) (by decide)) (fun k_ hk => ⟨trivial, hk.2⟩))) (fun _ h_ => h_)))
        (case aB => exact bl_)
        (case aF => exact (fun _ _ => trivial))
        (case aO => exact (by (with_reducible repeat (first | apply Kd.S_alloc | apply Kd.S_drewN | apply Kd.S_drew)); exact Kd.S_mono HO_457007.out (fun k_ hk => ⟨trivial, fun e_ => hk.2 e_⟩)))
        (case aS => exact (below_size bl_))
        (case aL => have := LMc23.out; omega)
        intro v468 w27 ho hb hg hat
        rw [← Ny467.out] at ho
        replace HO_9 := A_ (Kd.R_over' (mv_ HO_9.out) (Kd.S_typed (mv_ HO_457007.out)) (by decide) hg)
        replace BK454 := A_ (bg_ BK454.out hg (Kd.S_ne HO_457007.out BK454.out (by decide)))
        replace BK455 := A_ (bg_ BK455.out hg (Kd.S_ne HO_457007.out BK455.out (by decide)))
        replace BK456 := A_ (bg_ BK456.out hg (Kd.S_ne HO_457007.out BK456.out (by decide)))
        have HO469 := A_ ho
        replace HB := A_ hb
        clear HO_457007 HO466 ho hb hg hat
        obtain ⟨Ao29, co29, eo29⟩ := Kd.S_slice HO469.out
        (first | subst eo29 | (injection eo29 with f1_ f2_ f3_; have f4_ := f1_.symm; have f5_ := f3_.symm; clear f1_ f2_ f3_; subst f4_; subst f5_))
        refine hK.out _ _ ⟨c0_ BK456.out, c1_ BK456.out, c2_ BK456.out, c3_ BK456.out, c4_ BK456.out, c5_ BK456.out, c6_ BK456.out, c7_ BK456.out, c8_ BK456.out, c0_ BK454.out, c1_ BK454.out, c2_ BK454.out, c3_ BK454.out, c4_ BK454.out, c5_ BK454.out, c6_ BK454.out⟩ (fun hHeld => ?_)
        clear hK K
        refine norm_ (a' := ?_) ?_ ?_
        rotate_left
        ·show Act.put _ (some 43) _ = _
         simp only [Act.put, ps_, i64_w, i32_w]
         rfl
        refine pure_ (i := 8) (N := some 44) (v := ?_) (a' := ?_) #[true, true, true, true, true, true, true, true, true, false] rfl rfl (any_of HT_.out (by kernel_rfl)) (fun _ _ _ h => h) (Or.inl ⟨by rfl, ?_⟩) ?_ ?_
        rotate_left
        ·intro w'
         go_simp
         with_reducible rfl
        rotate_left
        ·simp only [Act.put, ps_, i64_w, i32_w]
         rfl
        refine last_ (i := 9) (N := none) #[true, true, true, true, true, true, true, true, true, true] rfl rfl (one_of HT_.out (by kernel_rfl)) (by decide) (fun K hK => ?_)
        have hs30 := c7_ BK456.out
        have hfs30 := blk_frozen BK456.out 7
        have hns30_0 := NB454_456.out
        have hns30_1 := NB455_456.out
        have hms30_0 := NB456_454.out
        have hms30_1 := NB456_455.out
        refine skip_ (w1 := ?_) (by rfl) rfl ?_ ?_
        rotate_left
        ·go_simp
         rfl
        refine hK.out _ _ ?_
        clear hK K
        refine done_ (done_of HT_.out (by kernel_rfl)) ?_
        try go_wp2
        go_roundg k2
        case measure => have := HK1.out; have := HK2.out; omega
        case rel => exact ⟨(wrap64 (x8_1 + 1)), (y467), (.slice Ao29 y467.length co29), rs_, H', ⟨by have := HK1.out; have := HK2.out; omega⟩, ⟨by (with_reducible repeat (first | apply Kd.S_alloc | apply Kd.S_drewN | apply Kd.S_drew)); exact Kd.S_mono (Kd.S_far (Kd.S_types HO469.out BK456.out (by decide)) (fun _ hk => hk.2) (.slice Ao29 y467.length co29)) (fun _ hk => trivial)⟩, ⟨ft_ BK454.out NB454_456.out⟩, ⟨ft_ BK455.out NB455_456.out⟩, ⟨by (with_reducible repeat (first | apply bn_ | apply bd_ | apply ba_)); refine blk_put (cs := #[.int .i64 a0_0, .int .i64 a0_1, .int .i64 a0_2, .int .i64 a0_3, .int .i64 a0_4, .int .i64 a0_5, .int .i64 a0_6, u457007, .slice none 0 0]) ?_ 7 _ rfl; (with_reducible repeat (first | apply bn_ | apply bd_ | apply ba_)); exact BK456.out⟩, ⟨bl_⟩⟩
       ·rw [if_neg c23] at H
        exact absurd H (by simp)
   ·rw [if_neg c12] at H
    have c12b0 : decide (x8_1 < a0_3) = false := decide_eq_false c12
    clear c12
    have H' := A_ H
    clear H
    have hnb31 := NB454_455.out
    have hnc31 := NB455_454.out
    have hnb32 := NB454_456.out
    have hnc32 := NB456_454.out
    have ⟨_, _, _, _, _, _, _, _, _, _, _, _, _, _⟩ := k7_ BK454.out
    go_wp2
    go_loopg [11] k1 (fun kq v11 w' => ∃ (x11_2 : Int) (x457008_2 : List (S72)) (u457008 : Value), v11 = .int .i64 x11_2 ∧ Aside0 (credenzaref08_Quantize.l2 kq l2 x11_2 a0_0 a0_1 a0_2 a0_3 a0_4 a0_5 a0_6 a0_0 a0_1 a0_2 a0_3 a0_4 a0_5 a0_6 x457007_1 x457008_2 = some (r1, r2, r3, r4, r5, r6, r7, r8, r9)) ∧ Aside0 (kq ≤ k1) ∧ Aside0 (Kd.S k72 72 w' w.heap.size (fun k_ => some k_ ≠ (u457008 : Value).ownBlock) u457007 x457007_1) ∧ Aside0 (Kd.S k72 72 w' w.heap.size (fun k_ => some k_ ≠ (u457007 : Value).ownBlock) u457008 x457008_2) ∧ Aside0 (w'.heap[gb454]? = some (.cells #[.int .i64 a0_0, .int .i64 a0_1, .int .i64 a0_2, .int .i64 a0_3, .int .i64 a0_4, .int .i64 a0_5, .int .i64 a0_6] 46 (0, 0))) ∧ Aside0 (w'.heap[gb455]? = some (.cells #[.int .i64 0, .int .i64 0, .int .i64 0, .int .i64 0, .int .i64 0, .int .i64 0, .int .i64 0, (.slice none 0 0), (.slice none 0 0)] 49 (0, 0))) ∧ Aside0 (w'.heap[gb456]? = some (.cells #[.int .i64 a0_0, .int .i64 a0_1, .int .i64 a0_2, .int .i64 a0_3, .int .i64 a0_4, .int .i64 a0_5, .int .i64 a0_6, u457007, u457008] 49 (0, 0))) ∧ Aside0 (Below w.heap.size w w'))
    case atStart => exact ⟨(0), (([] : List (S72))), (.slice none 0 0), rs_, H', ⟨Nat.le_refl _⟩, ⟨by (with_reducible repeat (first | apply Kd.S_alloc | apply Kd.S_drewN | apply Kd.S_drew)); exact Kd.S_mono HO_457007.out (fun _ hk => (by simp [Value.ownBlock]))⟩, ⟨nil_⟩, ⟨mv_ BK454.out⟩, ⟨mv_ BK455.out⟩, ⟨mv_ BK456.out⟩, ⟨bl_⟩⟩
    case round =>
     clear H'
     obtain ⟨x11_2, x457008_2, u457008, rfl, HA, HK2, HO_457007, HO_457008, BK454, BK455, BK456, HB⟩ := hrel
     cases gk with
     | zero => exact absurd HA.out (by simp [credenzaref08_Quantize.l2])
     | succ k2 =>
      have H := HA.out
      clear HA
      simp only [credenzaref08_Quantize.l2] at H
      by_cases c34 : x11_2 < (l2.length : Int)
      ·rw [if_pos c34] at H
       have c34b0 : decide (x11_2 < (l2.length : Int)) = true := decide_eq_true c34
       clear c34
       by_cases c35 : 0 ≤ x11_2
       ·rw [if_pos c35] at H
        have c35b0 : decide (0 ≤ x11_2) = true := decide_eq_true c35
        clear c35
        replace H := ob_ H
        obtain ⟨⟨t471, t472, t473⟩, A36, H⟩ := H
        try dsimp only at H
        by_cases c37 : x457008_2.length < 4398046511104
        ·rw [if_pos c37] at H
         have LMc37 := A_ c37
         clear c37
         obtain ⟨y476, hy476⟩ : ∃ y_ : List (S72), y_ = (x457008_2 ++ [(⟨t471, t472, t473⟩ : S72)]) := ⟨_, rfl⟩
         replace H : (credenzaref08_Quantize.l2 k2 l2 (wrap64 (x11_2 + 1)) a0_0 a0_1 a0_2 a0_3 a0_4 a0_5 a0_6 a0_0 a0_1 a0_2 a0_3 a0_4 a0_5 a0_6 x457007_1 y476) = some (r1, r2, r3, r4, r5, r6, r7, r8, r9) := hy_ hy476 H
         have Ny476 := A_ hy476
         clear hy476
         have H' := A_ H
         clear H
         try go_wp2
         replace HO_457007 := A_ (Kd.S_drew HO_457007.out)
         replace HO_457008 := A_ (Kd.S_drew HO_457008.out)
         replace BK454 := A_ (blk_drew BK454.out)
         replace BK455 := A_ (blk_drew BK455.out)
         replace BK456 := A_ (blk_drew BK456.out)
         replace HB := A_ (below_drew1 HB.out)
         have p470 : 0 ≤ (x11_2 : Int) := od_
         have q470 : x11_2 < (l2.length : Int) := od_
         obtain ⟨ad470, A470_0, c470_0, e470, hx470_0, hl470_0, hi470_0⟩ := at_L11 HR2.out x11_2 p470 q470
         have hw470_0 := hx470_0
         cases e470
         replace hx470_0 := hc_ HB.out hx470_0
         have HR470_0 := A_ hi470_0
         have HC470_0 := A_ hl470_0
         clear hi470_0 hl470_0
         replace p470 := eq_true p470
         replace q470 := eq_true q470
         refine start_ (n := 13) (S := fun w' => w'.cell? ⟨gb456, 0, none⟩ = some (.int .i64 a0_0) ∧ w'.cell? ⟨gb456, 1, none⟩ = some (.int .i64 a0_1) ∧ w'.cell? ⟨gb456, 2, none⟩ = some (.int .i64 a0_2) ∧ w'.cell? ⟨gb456, 3, none⟩ = some (.int .i64 a0_3) ∧ w'.cell? ⟨gb456, 4, none⟩ = some (.int .i64 a0_4) ∧ w'.cell? ⟨gb456, 5, none⟩ = some (.int .i64 a0_5) ∧ w'.cell? ⟨gb456, 6, none⟩ = some (.int .i64 a0_6) ∧ w'.cell? ⟨gb456, 7, none⟩ = some (u457007) ∧ w'.cell? ⟨gb456, 8, none⟩ = some (u457008) ∧ w'.cell? ⟨gb454, 0, none⟩ = some (.int .i64 a0_0) ∧ w'.cell? ⟨gb454, 1, none⟩ = some (.int .i64 a0_1) ∧ w'.cell? ⟨gb454, 2, none⟩ = some (.int .i64 a0_2) ∧ w'.cell? ⟨gb454, 3, none⟩ = some (.int .i64 a0_3) ∧ w'.cell? ⟨gb454, 4, none⟩ = some (.int .i64 a0_4) ∧ w'.cell? ⟨gb454, 5, none⟩ = some (.int .i64 a0_5) ∧ w'.cell? ⟨gb454, 6, none⟩ = some (.int .i64 a0_6) ∧ w'.cell? (ad470.add (x11_2).toNat) = some (.slice A470_0 (rd_L11 l2 x11_2).length c470_0)) (ds := [12]) #[false, false, false, false, false, false, false, false, false, false, false, false, false] (by kernel_rfl) rfl rfl ⟨c0_ BK456.out, c1_ BK456.out, c2_ BK456.out, c3_ BK456.out, c4_ BK456.out, c5_ BK456.out, c6_ BK456.out, c7_ BK456.out, c8_ BK456.out, c0_ BK454.out, c1_ BK454.out, c2_ BK454.out, c3_ BK454.out, c4_ BK454.out, c5_ BK454.out, c6_ BK454.out, (hc_ HB.out hw470_0)⟩ (fun hHeld => ?_); refine with_tabW credenzaref08_Quantize.tab14 credenzaref08_Quantize.bits14 (fun HT_ HW_ => ?_)
         generalize wr.drew = w38 at HO_457007 HO_457008 BK454 BK455 BK456 HB HR470_0 hx470_0 hHeld ⊢
         refine pure_ (i := 0) (N := some 51) (v := ?_) (a' := ?_) #[true, false, false, false, false, false, false, false, false, false, false, false, false] rfl rfl (any_of HT_.out (by kernel_rfl)) (fun _ _ _ h => h) (Or.inl ⟨by rfl, ?_⟩) ?_ ?_
         rotate_left
         ·intro w'
          go_simp
          with_reducible rfl
         rotate_left
         ·simp only [Act.put, ps_, i64_w, i32_w]
          rfl
         refine pure_ (i := 2) (N := some 53) (v := ?_) (a' := ?_) #[true, false, true, false, false, false, false, false, false, false, false, false, false] rfl rfl (any_of HT_.out (by kernel_rfl)) (fun _ _ _ h => h) (Or.inl ⟨by rfl, ?_⟩) ?_ ?_
         rotate_left
         ·intro w'
          go_simp
          with_reducible rfl
         rotate_left
         ·simp only [Act.put, ps_, i64_w, i32_w]
          rfl
         refine pure_ (i := 3) (N := some 54) (v := ?_) (a' := ?_) #[true, false, true, true, false, false, false, false, false, false, false, false, false] rfl rfl (any_of HT_.out (by kernel_rfl)) (fun _ _ _ h => h) (Or.inl ⟨by rfl, ?_⟩) ?_ ?_
         rotate_left
         ·intro w'
          go_simp
          with_reducible rfl
         rotate_left
         ·simp only [Act.put, ps_, i64_w, i32_w]
          rfl
         refine pure_ (i := 4) (N := some 55) (v := ?_) (a' := ?_) #[true, false, true, true, true, false, false, false, false, false, false, false, false] rfl rfl (any_of HT_.out (by kernel_rfl)) (fun _ _ _ h => h) (Or.inl ⟨by rfl, ?_⟩) ?_ ?_
         rotate_left
         ·intro w'
          go_simp
          with_reducible rfl
         rotate_left
         ·simp only [Act.put, ps_, i64_w, i32_w]
          rfl
         refine pure_ (i := 6) (N := some 57) (v := ?_) (a' := ?_) #[true, false, true, true, true, false, true, false, false, false, false, false, false] rfl rfl (any_of HT_.out (by kernel_rfl)) (fun _ _ _ h => h) (Or.inl ⟨by rfl, ?_⟩) ?_ ?_
         rotate_left
         ·intro w'
          go_simp
          with_reducible rfl
         rotate_left
         ·simp only [Act.put, ps_, i64_w, i32_w]
          rfl
         refine take_ (i := 1) (N := some 52) (v := ?_) (a' := ?_) #[true, true, true, true, true, false, true, false, false, false, false, false, false] rfl rfl (take_ofW HT_.out HW_.out (by kernel_rfl)) (fun _ _ _ h => h) (Or.inl ⟨by rfl, ?_⟩) hHeld ?_ ?_
         rotate_left
         ·rintro w' ⟨s0, s1, s2, s3, s4, s5, s6, s7, s8, s9, s10, s11, s12, s13, s14, s15, s16⟩
          go_simp
          with_reducible rfl
         rotate_left
         ·simp only [Act.put, ps_, i64_w, i32_w]
          rfl
         refine take_ (i := 5) (N := some 56) (v := ?_) (a' := ?_) #[true, true, true, true, true, true, true, false, false, false, false, false, false] rfl rfl (take_ofW HT_.out HW_.out (by kernel_rfl)) (fun _ _ _ h => h) (Or.inl ⟨by rfl, ?_⟩) hHeld ?_ ?_
         rotate_left
         ·rintro w' ⟨s0, s1, s2, s3, s4, s5, s6, s7, s8, s9, s10, s11, s12, s13, s14, s15, s16⟩
          go_simp
          with_reducible rfl
         rotate_left
         ·simp only [Act.put, ps_, i64_w, i32_w]
          rfl
         refine take_ (i := 7) (N := some 58) (v := ?_) (a' := ?_) #[true, true, true, true, true, true, true, true, false, false, false, false, false] rfl rfl (take_ofW HT_.out HW_.out (by kernel_rfl)) (fun _ _ _ h => h) (Or.inl ⟨by rfl, ?_⟩) hHeld ?_ ?_
         rotate_left
         ·rintro w' ⟨s0, s1, s2, s3, s4, s5, s6, s7, s8, s9, s10, s11, s12, s13, s14, s15, s16⟩
          go_simp
          with_reducible rfl
         rotate_left
         ·simp only [Act.put, ps_, i64_w, i32_w]
          rfl
         refine one_ (i := 8) (N := some 59) #[true, true, true, true, true, true, true, true, true, false, false, false, false] rfl rfl (one_of HT_.out (by kernel_rfl)) (by decide) (fun K hK => ?_)
         refine goes_ Try.func36 (by kernel_rfl) rfl #[.slice A470_0 (rd_L11 l2 x11_2).length c470_0, .int .i64 a0_1] (by rfl) rfl rfl ar_ ?_
         with_reducible refine (credenzaref07_Of.calls k2 _ _ (rd_L11 l2 x11_2) a0_1 t471 t472 t473 _ ?side1 ?side2 A36.out).mono ?_
         (case side1 => exact cb_ (Kd.C_below HR470_0.out HB.out))
         (case side2 => exact HC470_0.out)
         rintro e w39 ⟨v474, rfl, ho0, hb⟩
         refine ⟨_, rfl, ?_⟩
         replace HO_457007 := A_ (Kd.S_elder' (mv_ HO_457007.out) (Kd.R_base ho0) hb)
         replace HO_457008 := A_ (Kd.S_elder' (mv_ HO_457008.out) (Kd.R_base ho0) hb)
         have HO475 := A_ (Kd.R_lower ho0 (below_size bl_))
         replace BK454 := A_ (bb_ BK454.out hb)
         replace BK455 := A_ (bb_ BK455.out hb)
         replace BK456 := A_ (bb_ BK456.out hb)
         replace HB := A_ (below_step bl_ hb)
         obtain ⟨Ao41, co41, eo41⟩ := Kd.R_slice HO475.out
         (first | subst eo41 | (injection eo41 with f1_ f2_ f3_; have f4_ := f1_.symm; have f5_ := f3_.symm; clear f1_ f2_ f3_; subst f4_; subst f5_))
         refine hK.out _ _ ⟨c0_ BK456.out, c1_ BK456.out, c2_ BK456.out, c3_ BK456.out, c4_ BK456.out, c5_ BK456.out, c6_ BK456.out, c7_ BK456.out, c8_ BK456.out, c0_ BK454.out, c1_ BK454.out, c2_ BK454.out, c3_ BK454.out, c4_ BK454.out, c5_ BK454.out, c6_ BK454.out, (hc_ HB.out hw470_0)⟩ (fun hHeld => ?_)
         clear hK K
         refine norm_ (a' := ?_) ?_ ?_
         rotate_left
         ·show Act.put _ (some 59) _ = _
          simp only [Act.put, ps_, i64_w, i32_w]
          rfl
         refine one_ (i := 9) (N := some 60) #[true, true, true, true, true, true, true, true, true, true, false, false, false] rfl rfl (one_of HT_.out (by kernel_rfl)) (by decide) (fun K hK => ?_)
         refine value_ (w1 := ?_) (v := ?_) (by rfl) rfl ?_ ?_
         rotate_left 2
         ·go_simp
          constructor
          ·rfl
          ·rfl
         refine hK.out _ _ ⟨(blk_cell (blk_alloc BK456.out _) 0).trans rfl, (blk_cell (blk_alloc BK456.out _) 1).trans rfl, (blk_cell (blk_alloc BK456.out _) 2).trans rfl, (blk_cell (blk_alloc BK456.out _) 3).trans rfl, (blk_cell (blk_alloc BK456.out _) 4).trans rfl, (blk_cell (blk_alloc BK456.out _) 5).trans rfl, (blk_cell (blk_alloc BK456.out _) 6).trans rfl, (blk_cell (blk_alloc BK456.out _) 7).trans rfl, (blk_cell (blk_alloc BK456.out _) 8).trans rfl, (blk_cell (blk_alloc BK454.out _) 0).trans rfl, (blk_cell (blk_alloc BK454.out _) 1).trans rfl, (blk_cell (blk_alloc BK454.out _) 2).trans rfl, (blk_cell (blk_alloc BK454.out _) 3).trans rfl, (blk_cell (blk_alloc BK454.out _) 4).trans rfl, (blk_cell (blk_alloc BK454.out _) 5).trans rfl, (blk_cell (blk_alloc BK454.out _) 6).trans rfl, (World.cell?_alloc_lt _ _ _ (World.block_lt_of_cell? _ _ ((hc_ HB.out hw470_0)))).trans ((hc_ HB.out hw470_0))⟩ (fun hHeld => ?_)
         clear hK K
         refine norm_ (a' := ?_) ?_ ?_
         rotate_left
         ·show Act.put _ (some 60) _ = _
          simp only [Act.put, ps_, i64_w, i32_w]
          rfl
         refine one_ (i := 10) (N := some 61) #[true, true, true, true, true, true, true, true, true, true, true, false, false] rfl rfl (one_of HT_.out (by kernel_rfl)) (by decide) (fun K hK => ?_)
         refine Kd.S_append_step k72 (w0 := w) w.heap.size (by rfl) (.tmp 52) (.tmp 60) 47 72 (.agg #[(.int .i32 0), (.int .u32 0), (.slice none 0 0)]) 32 rfl Try.underlying47 info72 rfl (by decide) (by omega) u457008 x457008_2 (⟨t471, t472, t473⟩ : S72) [.int .i32 t471, .int .u32 t472, .slice Ao41 t473.length co41] (fun k_ => some k_ ≠ (u457007 : Value).ownBlock) (fun k_ => some k_ = (.slice Ao41 t473.length co41 : Value).ownBlock) rfl rfl ?aP (fun k_ hk_ => ((Kd.R_mono (ok' := fun k_ => ((fun k_ => some k_ ≠ (u457007 : Value).ownBlock)) k_ ∧ some k_ ≠ (u457008 : Value).ownBlock) (Kd.R_apart' (Kd.R_apart' (HO475.out) (Kd.S_typed HO_457007.out) (by decide)) (Kd.S_typed HO_457008.out) (by decide)) (fun k_ hk => ⟨hk.1.2, hk.2⟩))).1 k_ hk_.symm) ?aF ?aO ?aB ?aS ?aL ?_
         (case aP => exact k72_mkM _ _ _ (⟨t471, t472, t473⟩ : S72) (Kd.R_mono (Kd.R_tight rfl (Kd.R_mono (ok' := fun k_ => ((fun k_ => some k_ ≠ (u457007 : Value).ownBlock)) k_ ∧ some k_ ≠ (u457008 : Value).ownBlock) (Kd.R_apart' (Kd.R_apart' (HO475.out) (Kd.S_typed HO_457007.out) (by decide)) (Kd.S_typed HO_457008.out) (by decide)) (fun k_ hk => ⟨hk.1.2, hk.2⟩))) (fun _ h_ => h_)))
         (case aB => exact bl_)
         (case aF => exact (fun k_ hk => Kd.fresh' (Kd.S_lt (mv_ HO_457007.out)) k_ hk))
         (case aO => exact (by (with_reducible repeat (first | apply Kd.S_alloc | apply Kd.S_drewN | apply Kd.S_drew)); exact Kd.S_mono HO_457008.out (fun k_ hk => ⟨hk.1, fun e_ => hk.2 e_⟩)))
         (case aS => exact (below_size bl_))
         (case aL => have := LMc37.out; omega)
         intro v477 w40 ho hb hg hat
         rw [← Ny476.out] at ho
         replace HO_457007 := A_ (Kd.S_after (ok := (fun k_ => some k_ ≠ (.slice Ao41 t473.length co41 : Value).ownBlock)) (by (with_reducible repeat (first | apply Kd.S_alloc | apply Kd.S_drewN | apply Kd.S_drew)); exact Kd.S_mono HO_457007.out (fun _ hk => ⟨hk.2, hk.1⟩)) hg hat)
         replace BK454 := A_ (bg_ BK454.out hg (Kd.S_ne HO_457008.out BK454.out (by decide)))
         replace BK455 := A_ (bg_ BK455.out hg (Kd.S_ne HO_457008.out BK455.out (by decide)))
         replace BK456 := A_ (bg_ BK456.out hg (Kd.S_ne HO_457008.out BK456.out (by decide)))
         have HO478 := A_ ho
         replace HB := A_ hb
         clear HO_457008 HO475 ho hb hg hat
         obtain ⟨Ao42, co42, eo42⟩ := Kd.S_slice HO478.out
         (first | subst eo42 | (injection eo42 with f1_ f2_ f3_; have f4_ := f1_.symm; have f5_ := f3_.symm; clear f1_ f2_ f3_; subst f4_; subst f5_))
         refine hK.out _ _ ⟨c0_ BK456.out, c1_ BK456.out, c2_ BK456.out, c3_ BK456.out, c4_ BK456.out, c5_ BK456.out, c6_ BK456.out, c7_ BK456.out, c8_ BK456.out, c0_ BK454.out, c1_ BK454.out, c2_ BK454.out, c3_ BK454.out, c4_ BK454.out, c5_ BK454.out, c6_ BK454.out, (hc_ HB.out hw470_0)⟩ (fun hHeld => ?_)
         clear hK K
         refine norm_ (a' := ?_) ?_ ?_
         rotate_left
         ·show Act.put _ (some 61) _ = _
          simp only [Act.put, ps_, i64_w, i32_w]
          rfl
         refine pure_ (i := 11) (N := some 62) (v := ?_) (a' := ?_) #[true, true, true, true, true, true, true, true, true, true, true, true, false] rfl rfl (any_of HT_.out (by kernel_rfl)) (fun _ _ _ h => h) (Or.inl ⟨by rfl, ?_⟩) ?_ ?_
         rotate_left
         ·intro w'
          go_simp
          with_reducible rfl
         rotate_left
         ·simp only [Act.put, ps_, i64_w, i32_w]
          rfl
         refine last_ (i := 12) (N := none) #[true, true, true, true, true, true, true, true, true, true, true, true, true] rfl rfl (one_of HT_.out (by kernel_rfl)) (by decide) (fun K hK => ?_)
         have hs43 := c8_ BK456.out
         have hfs43 := blk_frozen BK456.out 8
         have hns43_0 := NB454_456.out
         have hns43_1 := NB455_456.out
         have hms43_0 := NB456_454.out
         have hms43_1 := NB456_455.out
         refine skip_ (w1 := ?_) (by rfl) rfl ?_ ?_
         rotate_left
         ·go_simp
          rfl
         refine hK.out _ _ ?_
         clear hK K
         refine done_ (done_of HT_.out (by kernel_rfl)) ?_
         try go_wp2
         go_roundg k2
         case measure => have := HK1.out; have := HK2.out; omega
         case rel => exact ⟨(wrap64 (x11_2 + 1)), (y476), (.slice Ao42 y476.length co42), rs_, H', ⟨by have := HK1.out; have := HK2.out; omega⟩, ⟨by (with_reducible repeat (first | apply Kd.S_alloc | apply Kd.S_drewN | apply Kd.S_drew)); exact Kd.S_mono (Kd.S_far (Kd.S_types HO_457007.out BK456.out (by decide)) (fun _ hk => hk.2) (.slice Ao42 y476.length co42)) (fun _ hk => hk.1.2)⟩, ⟨by (with_reducible repeat (first | apply Kd.S_alloc | apply Kd.S_drewN | apply Kd.S_drew)); exact Kd.S_mono (Kd.S_far (Kd.S_types HO478.out BK456.out (by decide)) (fun _ hk => hk.2) (.slice Ao42 y476.length co42)) (fun _ hk => hk.1)⟩, ⟨ft_ BK454.out NB454_456.out⟩, ⟨ft_ BK455.out NB455_456.out⟩, ⟨by (with_reducible repeat (first | apply bn_ | apply bd_ | apply ba_)); refine blk_put (cs := #[.int .i64 a0_0, .int .i64 a0_1, .int .i64 a0_2, .int .i64 a0_3, .int .i64 a0_4, .int .i64 a0_5, .int .i64 a0_6, u457007, u457008]) ?_ 8 _ rfl; (with_reducible repeat (first | apply bn_ | apply bd_ | apply ba_)); exact BK456.out⟩, ⟨bl_⟩⟩
        ·rw [if_neg c37] at H
         exact absurd H (by simp)
       ·rw [if_neg c35] at H
        exact absurd H (by simp)
      ·rw [if_neg c34] at H
       have c34b0 : decide (x11_2 < (l2.length : Int)) = false := decide_eq_false c34
       clear c34
       simp only [Option.some.injEq, Prod.mk.injEq] at H
       obtain ⟨rfl, rfl, rfl, rfl, rfl, rfl, rfl, rfl, rfl⟩ := H
       have hnb44 := NB456_454.out
       have hnc44 := NB454_456.out
       have hnb45 := NB456_455.out
       have hnc45 := NB455_456.out
       have ⟨_, _, _, _, _, _, _, _, _, _, _, _, _, _, _, _, _, _⟩ := k9_ BK456.out
       have hnb47 := NB455_454.out
       have hnc47 := NB454_455.out
       have ⟨_, _, _, _, _, _, _, _, _, _, _, _, _, _, _, _, _, _⟩ := k9_ BK455.out
       obtain ⟨Ao49, co49, eo49⟩ := Kd.S_slice HO_457007.out
       subst eo49
       obtain ⟨Ao50, co50, eo50⟩ := Kd.S_slice HO_457008.out
       subst eo50
       go_wp2
       refine bodyPost_ret (results_cell_row rfl _ _ gb455 49 #[.int .i64 a0_0, .int .i64 a0_1, .int .i64 a0_2, .int .i64 a0_3, .int .i64 a0_4, .int .i64 a0_5, .int .i64 a0_6, .slice Ao49 x457007_1.length co49, .slice Ao50 x457008_2.length co50] (0, 0) _ rfl (by (with_reducible repeat (first | apply bn_ | apply bd_ | apply ba_)); refine blk_put (cs := #[.int .i64 a0_0, .int .i64 a0_1, .int .i64 a0_2, .int .i64 a0_3, .int .i64 a0_4, .int .i64 a0_5, .int .i64 a0_6, .slice Ao49 x457007_1.length co49, .slice none 0 0]) ?_ 8 _ rfl; (with_reducible repeat (first | apply bn_ | apply bd_ | apply ba_)); refine blk_put (cs := #[.int .i64 a0_0, .int .i64 a0_1, .int .i64 a0_2, .int .i64 a0_3, .int .i64 a0_4, .int .i64 a0_5, .int .i64 a0_6, .slice none 0 0, .slice none 0 0]) ?_ 7 _ rfl; (with_reducible repeat (first | apply bn_ | apply bd_ | apply ba_)); refine blk_put (cs := #[.int .i64 a0_0, .int .i64 a0_1, .int .i64 a0_2, .int .i64 a0_3, .int .i64 a0_4, .int .i64 a0_5, .int .i64 0, .slice none 0 0, .slice none 0 0]) ?_ 6 _ rfl; (with_reducible repeat (first | apply bn_ | apply bd_ | apply ba_)); refine blk_put (cs := #[.int .i64 a0_0, .int .i64 a0_1, .int .i64 a0_2, .int .i64 a0_3, .int .i64 a0_4, .int .i64 0, .int .i64 0, .slice none 0 0, .slice none 0 0]) ?_ 5 _ rfl; (with_reducible repeat (first | apply bn_ | apply bd_ | apply ba_)); refine blk_put (cs := #[.int .i64 a0_0, .int .i64 a0_1, .int .i64 a0_2, .int .i64 a0_3, .int .i64 0, .int .i64 0, .int .i64 0, .slice none 0 0, .slice none 0 0]) ?_ 4 _ rfl; (with_reducible repeat (first | apply bn_ | apply bd_ | apply ba_)); refine blk_put (cs := #[.int .i64 a0_0, .int .i64 a0_1, .int .i64 a0_2, .int .i64 0, .int .i64 0, .int .i64 0, .int .i64 0, .slice none 0 0, .slice none 0 0]) ?_ 3 _ rfl; (with_reducible repeat (first | apply bn_ | apply bd_ | apply ba_)); refine blk_put (cs := #[.int .i64 a0_0, .int .i64 a0_1, .int .i64 0, .int .i64 0, .int .i64 0, .int .i64 0, .int .i64 0, .slice none 0 0, .slice none 0 0]) ?_ 2 _ rfl; (with_reducible repeat (first | apply bn_ | apply bd_ | apply ba_)); refine blk_put (cs := #[.int .i64 a0_0, .int .i64 0, .int .i64 0, .int .i64 0, .int .i64 0, .int .i64 0, .int .i64 0, .slice none 0 0, .slice none 0 0]) ?_ 1 _ rfl; (with_reducible repeat (first | apply bn_ | apply bd_ | apply ba_)); refine blk_put (cs := #[.int .i64 0, .int .i64 0, .int .i64 0, .int .i64 0, .int .i64 0, .int .i64 0, .int .i64 0, .slice none 0 0, .slice none 0 0]) ?_ 0 _ rfl; (with_reducible repeat (first | apply bn_ | apply bd_ | apply ba_)); exact BK455.out) Try.underlying49 rfl (by kernel_rfl)) rfl ?_
       exact ⟨_, _, ew_, by (with_reducible repeat (first | apply Kd.S_alloc | apply Kd.S_drewN | apply Kd.S_drew)); exact Kd.S_mono (Kd.S_far (Kd.S_far (Kd.S_far (Kd.S_far (Kd.S_far (Kd.S_far (Kd.S_far (Kd.S_far (Kd.S_far (Kd.S_types HO_457007.out BK455.out (by decide)) (fun _ hk => hk.2) (.int .i64 a0_0)) (fun _ hk => hk.2) (.int .i64 a0_1)) (fun _ hk => hk.2) (.int .i64 a0_2)) (fun _ hk => hk.2) (.int .i64 a0_3)) (fun _ hk => hk.2) (.int .i64 a0_4)) (fun _ hk => hk.2) (.int .i64 a0_5)) (fun _ hk => hk.2) (.int .i64 a0_6)) (fun _ hk => hk.2) (.slice Ao49 x457007_1.length co49)) (fun _ hk => hk.2) (.slice Ao50 x457008_2.length co50)) (fun _ hk => hk.1), by (with_reducible repeat (first | apply Kd.S_alloc | apply Kd.S_drewN | apply Kd.S_drew)); exact Kd.S_mono (Kd.S_far (Kd.S_far (Kd.S_far (Kd.S_far (Kd.S_far (Kd.S_far (Kd.S_far (Kd.S_far (Kd.S_far (Kd.S_types HO_457008.out BK455.out (by decide)) (fun _ hk => hk.2) (.int .i64 a0_0)) (fun _ hk => hk.2) (.int .i64 a0_1)) (fun _ hk => hk.2) (.int .i64 a0_2)) (fun _ hk => hk.2) (.int .i64 a0_3)) (fun _ hk => hk.2) (.int .i64 a0_4)) (fun _ hk => hk.2) (.int .i64 a0_5)) (fun _ hk => hk.2) (.int .i64 a0_6)) (fun _ hk => hk.2) (.slice Ao49 x457007_1.length co49)) (fun _ hk => hk.2) (.slice Ao50 x457008_2.length co50)) (fun _ hk => hk.1), bl_⟩
def credenzaref07_One.f (a0_0 : Int) (a0_1 : Int) (l0_2 : List Int) (a1 : Int) : Option (Int) := (credenzaref01_Wide.f (wrap64 ((wrap64 (a0_0)) + (wrap64 (a1 * (wrap64 (a0_1))))))).bind fun t482 => (some t482)
theorem credenzaref07_One.calls (a0_0 : Int) (a0_1 : Int) (A0_2 : Option Addr) (c0_2 : Nat) (l0_2 : List Int) (a1 : Int) (r : Int) (w : World) (hr0_2 : Kd.C (Kd.int .i64) w A0_2 l0_2.length l0_2) (hc0_2 : l0_2.length ≤ c0_2) (h : credenzaref07_One.f a0_0 a0_1 l0_2 a1 = some r) :
  Calls Try.prog 37 #[.agg #[.int .i32 a0_0, .int .u32 a0_1, .slice A0_2 l0_2.length c0_2], .int .i64 a1] w fun e w' => e = .returned (.int .i32 r) ∧ Below w.heap.size w w' := by
 have hu72 := Try.underlying72
 have HR0_2 := A_ hr0_2
 have HC0_2 := A_ hc0_2
 clear hr0_2 hc0_2
 have HB := A_ (Below.refl w.heap.size w)
 have H := h
 unfold credenzaref07_One.f at H
 clear h
 replace H := ob_ H
 obtain ⟨t482, A3, H⟩ := H
 try dsimp only at H
 obtain rfl := Option.some.inj H
 go_enter Try.func37, Try.ntmps37
 go_wp2_with (first | (refine box_event rfl (N := 2) rfl (cs := #[.int .i32 a0_0, .int .u32 a0_1, .slice A0_2 l0_2.length c0_2]) (t := 72) ?hr ?_; (case hr => first | (go_simp; done) | (go_simp; rfl)); intro gb481 hg w4 hbox hb; have BK481 := A_ hbox; have GW481 := A_ (gw_ w hg); have GE481 := A_ (gw_ w hg); replace HB := A_ (below_step bl_ hb); clear hb hbox hg; have ⟨_, _, _, _, _, _⟩ := k3_ BK481.out) | (refine goesL_ (some 14) rfl rfl Try.func28 (by kernel_rfl) rfl #[.int .i64 (wrap64 ((wrap64 (a0_0)) + (wrap64 (a1 * (wrap64 (a0_1))))))] rfl ar_ ?_; (with_reducible refine (credenzaref01_Wide.calls (wrap64 ((wrap64 (a0_0)) + (wrap64 (a1 * (wrap64 (a0_1)))))) t482 _ A3.out).mono ?_); rintro e w' ⟨rfl, ⟨nd, rfl⟩⟩; refine ⟨_, rfl, ?_⟩))
 go_ret
 exact ⟨ew_, bl_⟩
def credenzaref08_Page_Key.l0 : Nat → Int → List Int → Int → Int → Int → Int → Int → Int → Int → Int → List (S72) → List (S72) → Option (List Int)
 | 0, _, _, _, _, _, _, _, _, _, _, _, _ => none
 | k + 1, x1, x5, x6, x484000, x484001, x484002, x484003, x484004, x484005, x484006, x484007, x484008 => if x6 < (x484007.length : Int) then (if 0 ≤ x6 then (if 0 ≤ x1 then (if x1 < (((rd_T72 x484007 x6).f2).length : Int) then ((credenzaref07_One.f ((rd_T72 x484007 x6).f0) ((rd_T72 x484007 x6).f1) ((rd_T72 x484007 x6).f2) (rd ((rd_T72 x484007 x6).f2) x1)).bind fun t487 => (if x5.length < 35184372088832 then (credenzaref08_Page_Key.l0 k x1 (x5 ++ [t487]) (wrap64 (x6 + 1)) x484000 x484001 x484002 x484003 x484004 x484005 x484006 x484007 x484008) else (none))) else (none)) else (none)) else (none)) else (some x5)
def credenzaref08_Page_Key.f (k : Nat) (a0_0 : Int) (a0_1 : Int) (a0_2 : Int) (a0_3 : Int) (a0_4 : Int) (a0_5 : Int) (a0_6 : Int) (l0_7 : List (S72)) (l0_8 : List (S72)) (a1 : Int) : Option (List Int) := credenzaref08_Page_Key.l0 k a1 ([] : List Int) 0 a0_0 a0_1 a0_2 a0_3 a0_4 a0_5 a0_6 l0_7 l0_8
def credenzaref08_Page_Key.T5 : Bool × List (List Nat × List Nat) := (true, [([], []), ([], []), ([1], [1]), ([], []), ([2, 3], [2, 3]), ([4], [4]), ([], []), ([6], [6]), ([], []), ([7, 8], [7, 8]), ([9], [9]), ([10], [10]), ([], []), ([11, 12], [11, 12]), ([13], [13]), ([5, 14], [5, 14]), ([15], [15]), ([0, 16, 15], [0, 16]), ([17, 17, 0, 1, 2, 3, 4, 5, 6, 7, 8, 9, 10, 11, 12, 13, 14, 15, 16, 17], [0, 17])])
def credenzaref08_Page_Key.B5 : List Nat := [0, 0, 2, 0, 14, 30, 0, 64, 0, 448, 960, 1984, 0, 8128, 16320, 32766, 65534, 131071, 262143]
theorem credenzaref08_Page_Key.tab5 : rtab .any (opsOf Try.f20 5) = credenzaref08_Page_Key.T5 := by kernel_rfl
theorem credenzaref08_Page_Key.bits5 : waitsOk credenzaref08_Page_Key.T5.2 credenzaref08_Page_Key.B5 = true := by kernel_rfl
theorem credenzaref08_Page_Key.calls (k : Nat) (a0_0 : Int) (a0_1 : Int) (a0_2 : Int) (a0_3 : Int) (a0_4 : Int) (a0_5 : Int) (a0_6 : Int) (A0_7 : Option Addr) (c0_7 : Nat) (l0_7 : List (S72)) (A0_8 : Option Addr) (c0_8 : Nat) (l0_8 : List (S72)) (a1 : Int) (r : List Int) (w : World) (hr0_7 : Kd.C k72 w A0_7 l0_7.length l0_7) (hc0_7 : l0_7.length ≤ c0_7) (hr0_8 : Kd.C k72 w A0_8 l0_8.length l0_8) (hc0_8 : l0_8.length ≤ c0_8) (h : credenzaref08_Page_Key.f k a0_0 a0_1 a0_2 a0_3 a0_4 a0_5 a0_6 l0_7 l0_8 a1 = some r) :
  Calls Try.prog 20 #[.agg #[.int .i64 a0_0, .int .i64 a0_1, .int .i64 a0_2, .int .i64 a0_3, .int .i64 a0_4, .int .i64 a0_5, .int .i64 a0_6, .slice A0_7 l0_7.length c0_7, .slice A0_8 l0_8.length c0_8], .int .i64 a1] w fun e w' => ∃ v0_ : Value, e = .returned (v0_) ∧ Kd.R (Kd.int .i32) 21 w' w.heap.size (fun _ => True) v0_ r ∧ Below w.heap.size w w' := by
 have hu49 := Try.underlying49
 have hu72 := Try.underlying72
 have HR0_7 := A_ hr0_7
 have HC0_7 := A_ hc0_7
 clear hr0_7 hc0_7
 have HR0_8 := A_ hr0_8
 have HC0_8 := A_ hc0_8
 clear hr0_8 hc0_8
 have HB := A_ (Below.refl w.heap.size w)
 have H := h
 unfold credenzaref08_Page_Key.f at H
 clear h
 have H' := A_ H
 clear H
 go_enter Try.func20, Try.ntmps20
 go_wp2_with (first | (refine box_event rfl (N := 2) rfl (cs := #[.int .i64 a0_0, .int .i64 a0_1, .int .i64 a0_2, .int .i64 a0_3, .int .i64 a0_4, .int .i64 a0_5, .int .i64 a0_6, .slice A0_7 l0_7.length c0_7, .slice A0_8 l0_8.length c0_8]) (t := 49) ?hr ?_; (case hr => first | (go_simp; done) | (go_simp; rfl)); intro gb483 hg w3 hbox hb; have BK483 := A_ hbox; have GW483 := A_ (gw_ w hg); have GE483 := A_ (gw_ w hg); replace HB := A_ (below_step bl_ hb); clear hb hbox hg))
 go_loopg [5, 6] k (fun kq v5 v6 w' => ∃ (x5_1 : List Int) (x6_1 : Int), v6 = .int .i64 x6_1 ∧ Aside0 (credenzaref08_Page_Key.l0 kq a1 x5_1 x6_1 a0_0 a0_1 a0_2 a0_3 a0_4 a0_5 a0_6 l0_7 l0_8 = some r) ∧ Aside0 (kq ≤ k) ∧ Aside0 (Kd.R (Kd.int .i32) 21 w' w.heap.size (fun _ => True) v5 x5_1) ∧ Aside0 (w'.heap[gb483]? = some (.cells #[.int .i64 a0_0, .int .i64 a0_1, .int .i64 a0_2, .int .i64 a0_3, .int .i64 a0_4, .int .i64 a0_5, .int .i64 a0_6, (.slice A0_7 l0_7.length c0_7), (.slice A0_8 l0_8.length c0_8)] 49 (0, 0))) ∧ Aside0 (Below w.heap.size w w'))
 case atStart => exact ⟨(([] : List Int)), (0), rs_, H', ⟨Nat.le_refl _⟩, ⟨nil_⟩, ⟨mv_ BK483.out⟩, ⟨bl_⟩⟩
 case round =>
  clear H'
  obtain ⟨x5_1, x6_1, rfl, HA, HK1, HO_5, BK483, HB⟩ := hrel
  cases gk with
  | zero => exact absurd HA.out (by simp [credenzaref08_Page_Key.l0])
  | succ k1 =>
   have H := HA.out
   clear HA
   simp only [credenzaref08_Page_Key.l0] at H
   by_cases c4 : x6_1 < (l0_7.length : Int)
   ·rw [if_pos c4] at H
    have c4b0 : decide (x6_1 < (l0_7.length : Int)) = true := decide_eq_true c4
    clear c4
    by_cases c5 : 0 ≤ x6_1
    ·rw [if_pos c5] at H
     have c5b0 : decide (0 ≤ x6_1) = true := decide_eq_true c5
     clear c5
     by_cases c6 : 0 ≤ a1
     ·rw [if_pos c6] at H
      have c6b0 : decide (0 ≤ a1) = true := decide_eq_true c6
      clear c6
      by_cases c7 : a1 < (((rd_T72 l0_7 x6_1).f2).length : Int)
      ·rw [if_pos c7] at H
       have c7b0 : decide (a1 < (((rd_T72 l0_7 x6_1).f2).length : Int)) = true := decide_eq_true c7
       clear c7
       replace H := ob_ H
       obtain ⟨t487, A8, H⟩ := H
       try dsimp only at H
       by_cases c9 : x5_1.length < 35184372088832
       ·rw [if_pos c9] at H
        have LMc9 := A_ c9
        clear c9
        obtain ⟨y488, hy488⟩ : ∃ y_ : List Int, y_ = (x5_1 ++ [t487]) := ⟨_, rfl⟩
        replace H : (credenzaref08_Page_Key.l0 k1 a1 y488 (wrap64 (x6_1 + 1)) a0_0 a0_1 a0_2 a0_3 a0_4 a0_5 a0_6 l0_7 l0_8) = some r := hy_ hy488 H
        have Ny488 := A_ hy488
        clear hy488
        have H' := A_ H
        clear H
        have ⟨_, _, _, _, _, _, _, _, _, _, _, _, _, _, _, _, _, _⟩ := k9_ BK483.out
        try go_wp2
        replace HO_5 := A_ (Kd.R_drew HO_5.out)
        replace BK483 := A_ (blk_drew BK483.out)
        replace HB := A_ (below_drew1 HB.out)
        have p484 : 0 ≤ (x6_1 : Int) := od_
        have q484 : x6_1 < (l0_7.length : Int) := od_
        obtain ⟨ad484, A484_2, c484_2, e484, hx484_0, hx484_1, hx484_2, hl484_2, hi484_2⟩ := at_T72 HR0_7.out x6_1 p484 q484
        have hw484_2 := hx484_2
        have hw484_1 := hx484_1
        have hw484_0 := hx484_0
        cases e484
        replace hx484_0 := hc_ HB.out hx484_0
        replace hx484_1 := hc_ HB.out hx484_1
        replace hx484_2 := hc_ HB.out hx484_2
        have HR484_2 := A_ hi484_2
        have HC484_2 := A_ hl484_2
        clear hi484_2 hl484_2
        replace p484 := eq_true p484
        replace q484 := eq_true q484
        have p485 : 0 ≤ (x6_1 : Int) := od_
        have q485 : x6_1 < (l0_7.length : Int) := od_
        obtain ⟨ad485, A485_2, c485_2, e485, hx485_0, hx485_1, hx485_2, hl485_2, hi485_2⟩ := at_T72 HR0_7.out x6_1 p485 q485
        have hw485_2 := hx485_2
        have hw485_1 := hx485_1
        have hw485_0 := hx485_0
        obtain rfl : ad484 = ad485 := (by injection e485)
        replace hx485_0 := hc_ HB.out hx485_0
        replace hx485_1 := hc_ HB.out hx485_1
        replace hx485_2 := hc_ HB.out hx485_2
        have HR485_2 := A_ hi485_2
        have HC485_2 := A_ hl485_2
        clear hi485_2 hl485_2
        replace p485 := eq_true p485
        replace q485 := eq_true q485
        have ea_ := Option.some.inj (hx484_2.symm.trans hx485_2)
        injection ea_ with ea_ en_ ec_
        subst ea_
        subst ec_
        clear en_
        have p486 : 0 ≤ (a1 : Int) := od_
        have q486 : a1 < (((rd_T72 l0_7 x6_1).f2).length : Int) := od_
        obtain ⟨ad486, e486, hx486_0⟩ := Kd.at_int HR485_2.out a1 p486 q486
        have hw486_0 := hx486_0
        cases e486
        replace hx486_0 := hc_ HB.out hx486_0
        replace p486 := eq_true p486
        replace q486 := eq_true q486
        refine start_ (n := 19) (S := fun w' => w'.cell? ⟨gb483, 0, none⟩ = some (.int .i64 a0_0) ∧ w'.cell? ⟨gb483, 1, none⟩ = some (.int .i64 a0_1) ∧ w'.cell? ⟨gb483, 2, none⟩ = some (.int .i64 a0_2) ∧ w'.cell? ⟨gb483, 3, none⟩ = some (.int .i64 a0_3) ∧ w'.cell? ⟨gb483, 4, none⟩ = some (.int .i64 a0_4) ∧ w'.cell? ⟨gb483, 5, none⟩ = some (.int .i64 a0_5) ∧ w'.cell? ⟨gb483, 6, none⟩ = some (.int .i64 a0_6) ∧ w'.cell? ⟨gb483, 7, none⟩ = some (.slice (some ad484) l0_7.length c0_7) ∧ w'.cell? ⟨gb483, 8, none⟩ = some (.slice A0_8 l0_8.length c0_8) ∧ w'.cell? (ad484.add ((x6_1).toNat * 3)) = some (.int .i32 ((rd_T72 l0_7 x6_1).f0)) ∧ w'.cell? ⟨(ad484.add ((x6_1).toNat * 3)).block, (ad484.add ((x6_1).toNat * 3)).off + 1, none⟩ = some (.int .u32 ((rd_T72 l0_7 x6_1).f1)) ∧ w'.cell? ⟨(ad484.add ((x6_1).toNat * 3)).block, (ad484.add ((x6_1).toNat * 3)).off + 2, none⟩ = some (.slice (some ad486) ((rd_T72 l0_7 x6_1).f2).length c484_2) ∧ w'.cell? (ad484.add ((x6_1).toNat * 3)) = some (.int .i32 ((rd_T72 l0_7 x6_1).f0)) ∧ w'.cell? ⟨(ad484.add ((x6_1).toNat * 3)).block, (ad484.add ((x6_1).toNat * 3)).off + 1, none⟩ = some (.int .u32 ((rd_T72 l0_7 x6_1).f1)) ∧ w'.cell? ⟨(ad484.add ((x6_1).toNat * 3)).block, (ad484.add ((x6_1).toNat * 3)).off + 2, none⟩ = some (.slice (some ad486) ((rd_T72 l0_7 x6_1).f2).length c484_2) ∧ w'.cell? (ad486.add (a1).toNat) = some (.int .i64 (rd ((rd_T72 l0_7 x6_1).f2) a1))) (ds := []) #[false, false, false, false, false, false, false, false, false, false, false, false, false, false, false, false, false, false, false] (by kernel_rfl) rfl rfl ⟨c0_ BK483.out, c1_ BK483.out, c2_ BK483.out, c3_ BK483.out, c4_ BK483.out, c5_ BK483.out, c6_ BK483.out, c7_ BK483.out, c8_ BK483.out, (hc_ HB.out hw484_0), (hc_ HB.out hw484_1), (hc_ HB.out hw484_2), (hc_ HB.out hw485_0), (hc_ HB.out hw485_1), (hc_ HB.out hw485_2), (hc_ HB.out hw486_0)⟩ (fun hHeld => ?_); refine with_tabW credenzaref08_Page_Key.tab5 credenzaref08_Page_Key.bits5 (fun HT_ HW_ => ?_)
        generalize wr.drew = w11 at HO_5 BK483 HB HR484_2 HR485_2 hx484_0 hx484_1 hx484_2 hx485_0 hx485_1 hx485_2 hx486_0 hHeld ⊢
        refine pure_ (i := 0) (N := some 14) (v := ?_) (a' := ?_) #[true, false, false, false, false, false, false, false, false, false, false, false, false, false, false, false, false, false, false] rfl rfl (any_of HT_.out (by kernel_rfl)) (fun _ _ _ h => h) (Or.inl ⟨by rfl, ?_⟩) ?_ ?_
        rotate_left
        ·intro w'
         go_simp
         with_reducible rfl
        rotate_left
        ·simp only [Act.put, ps_, i64_w, i32_w]
         rfl
        refine pure_ (i := 1) (N := some 15) (v := ?_) (a' := ?_) #[true, true, false, false, false, false, false, false, false, false, false, false, false, false, false, false, false, false, false] rfl rfl (any_of HT_.out (by kernel_rfl)) (fun _ _ _ h => h) (Or.inl ⟨by rfl, ?_⟩) ?_ ?_
        rotate_left
        ·intro w'
         go_simp
         with_reducible rfl
        rotate_left
        ·simp only [Act.put, ps_, i64_w, i32_w]
         rfl
        refine pure_ (i := 3) (N := some 17) (v := ?_) (a' := ?_) #[true, true, false, true, false, false, false, false, false, false, false, false, false, false, false, false, false, false, false] rfl rfl (any_of HT_.out (by kernel_rfl)) (fun _ _ _ h => h) (Or.inl ⟨by rfl, ?_⟩) ?_ ?_
        rotate_left
        ·intro w'
         go_simp
         with_reducible rfl
        rotate_left
        ·simp only [Act.put, ps_, i64_w, i32_w]
         rfl
        refine pure_ (i := 6) (N := some 20) (v := ?_) (a' := ?_) #[true, true, false, true, false, false, true, false, false, false, false, false, false, false, false, false, false, false, false] rfl rfl (any_of HT_.out (by kernel_rfl)) (fun _ _ _ h => h) (Or.inl ⟨by rfl, ?_⟩) ?_ ?_
        rotate_left
        ·intro w'
         go_simp
         with_reducible rfl
        rotate_left
        ·simp only [Act.put, ps_, i64_w, i32_w]
         rfl
        refine pure_ (i := 8) (N := some 22) (v := ?_) (a' := ?_) #[true, true, false, true, false, false, true, false, true, false, false, false, false, false, false, false, false, false, false] rfl rfl (any_of HT_.out (by kernel_rfl)) (fun _ _ _ h => h) (Or.inl ⟨by rfl, ?_⟩) ?_ ?_
        rotate_left
        ·intro w'
         go_simp
         with_reducible rfl
        rotate_left
        ·simp only [Act.put, ps_, i64_w, i32_w]
         rfl
        refine pure_ (i := 12) (N := some 26) (v := ?_) (a' := ?_) #[true, true, false, true, false, false, true, false, true, false, false, false, true, false, false, false, false, false, false] rfl rfl (any_of HT_.out (by kernel_rfl)) (fun _ _ _ h => h) (Or.inl ⟨by rfl, ?_⟩) ?_ ?_
        rotate_left
        ·intro w'
         go_simp
         with_reducible rfl
        rotate_left
        ·simp only [Act.put, ps_, i64_w, i32_w]
         rfl
        refine take_ (i := 2) (N := some 16) (v := ?_) (a' := ?_) #[true, true, true, true, false, false, true, false, true, false, false, false, true, false, false, false, false, false, false] rfl rfl (take_ofW HT_.out HW_.out (by kernel_rfl)) (fun _ _ _ h => h) (Or.inl ⟨by rfl, ?_⟩) hHeld ?_ ?_
        rotate_left
        ·rintro w' ⟨s0, s1, s2, s3, s4, s5, s6, s7, s8, s9, s10, s11, s12, s13, s14, s15⟩
         go_simp
         with_reducible rfl
        rotate_left
        ·simp only [Act.put, ps_, i64_w, i32_w]
         rfl
        refine pure_ (i := 4) (N := some 18) (v := ?_) (a' := ?_) #[true, true, true, true, true, false, true, false, true, false, false, false, true, false, false, false, false, false, false] rfl rfl (any_of HT_.out (by kernel_rfl)) (fun _ _ _ h => h) (Or.inl ⟨by rfl, ?_⟩) ?_ ?_
        rotate_left
        ·intro w'
         go_simp
         with_reducible rfl
        rotate_left
        ·simp only [Act.put, ps_, i64_w, i32_w]
         rfl
        refine take_ (i := 5) (N := some 19) (v := ?_) (a' := ?_) #[true, true, true, true, true, true, true, false, true, false, false, false, true, false, false, false, false, false, false] rfl rfl (take_ofW HT_.out HW_.out (by kernel_rfl)) (fun _ _ _ h => h) (Or.inl ⟨by rfl, ?_⟩) hHeld ?_ ?_
        rotate_left
        ·rintro w' ⟨s0, s1, s2, s3, s4, s5, s6, s7, s8, s9, s10, s11, s12, s13, s14, s15⟩
         go_simp
         with_reducible rfl
        rotate_left
        ·simp only [Act.put, ps_, i64_w, i32_w]
         rfl
        refine take_ (i := 7) (N := some 21) (v := ?_) (a' := ?_) #[true, true, true, true, true, true, true, true, true, false, false, false, true, false, false, false, false, false, false] rfl rfl (take_ofW HT_.out HW_.out (by kernel_rfl)) (fun _ _ _ h => h) (Or.inl ⟨by rfl, ?_⟩) hHeld ?_ ?_
        rotate_left
        ·rintro w' ⟨s0, s1, s2, s3, s4, s5, s6, s7, s8, s9, s10, s11, s12, s13, s14, s15⟩
         go_simp
         with_reducible rfl
        rotate_left
        ·simp only [Act.put, ps_, i64_w, i32_w]
         rfl
        refine pure_ (i := 9) (N := some 23) (v := ?_) (a' := ?_) #[true, true, true, true, true, true, true, true, true, true, false, false, true, false, false, false, false, false, false] rfl rfl (any_of HT_.out (by kernel_rfl)) (fun _ _ _ h => h) (Or.inl ⟨by rfl, ?_⟩) ?_ ?_
        rotate_left
        ·intro w'
         go_simp
         with_reducible rfl
        rotate_left
        ·simp only [Act.put, ps_, i64_w, i32_w]
         rfl
        refine pure_ (i := 10) (N := some 24) (v := ?_) (a' := ?_) #[true, true, true, true, true, true, true, true, true, true, true, false, true, false, false, false, false, false, false] rfl rfl (any_of HT_.out (by kernel_rfl)) (fun _ _ _ h => h) (Or.inl ⟨by rfl, ?_⟩) ?_ ?_
        rotate_left
        ·intro w'
         go_simp
         with_reducible rfl
        rotate_left
        ·simp only [Act.put, ps_, i64_w, i32_w]
         rfl
        refine take_ (i := 11) (N := some 25) (v := ?_) (a' := ?_) #[true, true, true, true, true, true, true, true, true, true, true, true, true, false, false, false, false, false, false] rfl rfl (take_ofW HT_.out HW_.out (by kernel_rfl)) (fun _ _ _ h => h) (Or.inl ⟨by rfl, ?_⟩) hHeld ?_ ?_
        rotate_left
        ·rintro w' ⟨s0, s1, s2, s3, s4, s5, s6, s7, s8, s9, s10, s11, s12, s13, s14, s15⟩
         go_simp
         with_reducible rfl
        rotate_left
        ·simp only [Act.put, ps_, i64_w, i32_w]
         rfl
        refine pure_ (i := 13) (N := some 27) (v := ?_) (a' := ?_) #[true, true, true, true, true, true, true, true, true, true, true, true, true, true, false, false, false, false, false] rfl rfl (any_of HT_.out (by kernel_rfl)) (fun _ _ _ h => h) (Or.inl ⟨by rfl, ?_⟩) ?_ ?_
        rotate_left
        ·intro w'
         go_simp
         with_reducible rfl
        rotate_left
        ·simp only [Act.put, ps_, i64_w, i32_w]
         rfl
        refine take_ (i := 14) (N := some 28) (v := ?_) (a' := ?_) #[true, true, true, true, true, true, true, true, true, true, true, true, true, true, true, false, false, false, false] rfl rfl (take_ofW HT_.out HW_.out (by kernel_rfl)) (fun _ _ _ h => h) (Or.inl ⟨by rfl, ?_⟩) hHeld ?_ ?_
        rotate_left
        ·rintro w' ⟨s0, s1, s2, s3, s4, s5, s6, s7, s8, s9, s10, s11, s12, s13, s14, s15⟩
         go_simp
         with_reducible rfl
        rotate_left
        ·simp only [Act.put, ps_, i64_w, i32_w]
         rfl
        refine one_ (i := 15) (N := some 29) #[true, true, true, true, true, true, true, true, true, true, true, true, true, true, true, true, false, false, false] rfl rfl (one_of HT_.out (by kernel_rfl)) (by decide) (fun K hK => ?_)
        refine goes_ Try.func37 (by kernel_rfl) rfl #[.agg #[.int .i32 ((rd_T72 l0_7 x6_1).f0), .int .u32 ((rd_T72 l0_7 x6_1).f1), .slice (some ad486) ((rd_T72 l0_7 x6_1).f2).length c484_2], .int .i64 (rd ((rd_T72 l0_7 x6_1).f2) a1)] (by rfl) rfl rfl ar_ ?_
        with_reducible refine (credenzaref07_One.calls ((rd_T72 l0_7 x6_1).f0) ((rd_T72 l0_7 x6_1).f1) _ _ ((rd_T72 l0_7 x6_1).f2) (rd ((rd_T72 l0_7 x6_1).f2) a1) t487 _ ?side1 ?side2 A8.out).mono ?_
        (case side1 => exact cb_ (Kd.C_below HR484_2.out HB.out))
        (case side2 => exact HC484_2.out)
        rintro e w12 ⟨rfl, hb⟩
        refine ⟨_, rfl, ?_⟩
        replace HO_5 := A_ (Kd.R_below (mv_ HO_5.out) hb)
        replace BK483 := A_ (bb_ BK483.out hb)
        replace HB := A_ (below_step bl_ hb)
        refine hK.out _ _ ⟨c0_ BK483.out, c1_ BK483.out, c2_ BK483.out, c3_ BK483.out, c4_ BK483.out, c5_ BK483.out, c6_ BK483.out, c7_ BK483.out, c8_ BK483.out, (hc_ HB.out hw484_0), (hc_ HB.out hw484_1), (hc_ HB.out hw484_2), (hc_ HB.out hw485_0), (hc_ HB.out hw485_1), (hc_ HB.out hw485_2), (hc_ HB.out hw486_0)⟩ (fun hHeld => ?_)
        clear hK K
        refine norm_ (a' := ?_) ?_ ?_
        rotate_left
        ·show Act.put _ (some 29) _ = _
         simp only [Act.put, ps_, i64_w, i32_w]
         rfl
        refine one_ (i := 16) (N := some 30) #[true, true, true, true, true, true, true, true, true, true, true, true, true, true, true, true, true, false, false] rfl rfl (one_of HT_.out (by kernel_rfl)) (by decide) (fun K hK => ?_)
        refine value_ (w1 := ?_) (v := ?_) (by rfl) rfl ?_ ?_
        rotate_left 2
        ·go_simp
         constructor
         ·rfl
         ·rfl
        refine hK.out _ _ ⟨(blk_cell (blk_alloc BK483.out _) 0).trans rfl, (blk_cell (blk_alloc BK483.out _) 1).trans rfl, (blk_cell (blk_alloc BK483.out _) 2).trans rfl, (blk_cell (blk_alloc BK483.out _) 3).trans rfl, (blk_cell (blk_alloc BK483.out _) 4).trans rfl, (blk_cell (blk_alloc BK483.out _) 5).trans rfl, (blk_cell (blk_alloc BK483.out _) 6).trans rfl, (blk_cell (blk_alloc BK483.out _) 7).trans rfl, (blk_cell (blk_alloc BK483.out _) 8).trans rfl, (World.cell?_alloc_lt _ _ _ (World.block_lt_of_cell? _ _ ((hc_ HB.out hw484_0)))).trans ((hc_ HB.out hw484_0)), (World.cell?_alloc_lt _ _ _ (World.block_lt_of_cell? _ _ ((hc_ HB.out hw484_1)))).trans ((hc_ HB.out hw484_1)), (World.cell?_alloc_lt _ _ _ (World.block_lt_of_cell? _ _ ((hc_ HB.out hw484_2)))).trans ((hc_ HB.out hw484_2)), (World.cell?_alloc_lt _ _ _ (World.block_lt_of_cell? _ _ ((hc_ HB.out hw485_0)))).trans ((hc_ HB.out hw485_0)), (World.cell?_alloc_lt _ _ _ (World.block_lt_of_cell? _ _ ((hc_ HB.out hw485_1)))).trans ((hc_ HB.out hw485_1)), (World.cell?_alloc_lt _ _ _ (World.block_lt_of_cell? _ _ ((hc_ HB.out hw485_2)))).trans ((hc_ HB.out hw485_2)), (World.cell?_alloc_lt _ _ _ (World.block_lt_of_cell? _ _ ((hc_ HB.out hw486_0)))).trans ((hc_ HB.out hw486_0))⟩ (fun hHeld => ?_)
        clear hK K
        refine norm_ (a' := ?_) ?_ ?_
        rotate_left
        ·show Act.put _ (some 30) _ = _
         simp only [Act.put, ps_, i64_w, i32_w]
         rfl
        refine one_ (i := 17) (N := some 31) #[true, true, true, true, true, true, true, true, true, true, true, true, true, true, true, true, true, true, false] rfl rfl (one_of HT_.out (by kernel_rfl)) (by decide) (fun K hK => ?_)
        refine Kd.R_append_step (Kd.int .i32) (w0 := w) w.heap.size (by rfl) (.tmp 14) (.tmp 30) 22 21 (.int .i32 0) 4 rfl Try.underlying22 info21 rfl (by decide) (by omega) u5 x5_1 t487 [.int .i32 t487] (fun _ => True) (fun _ => False) rfl rfl ?aP (fun _ hk => hk.elim) ?aF ?aO ?aB ?aS ?aL ?_
        (case aP => exact rfl)
        (case aB => exact bl_)
        (case aF => exact (fun _ _ => trivial))
        (case aO => exact (mv_ HO_5.out))
        (case aS => exact (below_size bl_))
        (case aL => have := LMc9.out; omega)
        intro v489 w13 ho hb hg hat
        rw [← Ny488.out] at ho
        replace BK483 := A_ (bg_ BK483.out hg (Kd.R_ne HO_5.out BK483.out (by decide)))
        have HO490 := A_ ho
        replace HB := A_ hb
        clear HO_5 ho hb hg hat
        refine hK.out _ _ ⟨c0_ BK483.out, c1_ BK483.out, c2_ BK483.out, c3_ BK483.out, c4_ BK483.out, c5_ BK483.out, c6_ BK483.out, c7_ BK483.out, c8_ BK483.out, (hc_ HB.out hw484_0), (hc_ HB.out hw484_1), (hc_ HB.out hw484_2), (hc_ HB.out hw485_0), (hc_ HB.out hw485_1), (hc_ HB.out hw485_2), (hc_ HB.out hw486_0)⟩ (fun hHeld => ?_)
        clear hK K
        refine norm_ (a' := ?_) ?_ ?_
        rotate_left
        ·show Act.put _ (some 31) _ = _
         simp only [Act.put, ps_, i64_w, i32_w]
         rfl
        refine pure_ (i := 18) (N := some 5) (v := ?_) (a' := ?_) #[true, true, true, true, true, true, true, true, true, true, true, true, true, true, true, true, true, true, true] rfl rfl (any_of HT_.out (by kernel_rfl)) (fun _ _ _ h => h) (Or.inl ⟨by rfl, ?_⟩) ?_ ?_
        rotate_left
        ·intro w'
         go_simp
         with_reducible rfl
        rotate_left
        ·simp only [Act.put, ps_, i64_w, i32_w]
         rfl
        refine done_ (done_of HT_.out (by kernel_rfl)) ?_
        try go_wp2
        go_roundg k1
        case measure => have := HK1.out; omega
        case rel => exact ⟨(y488), (wrap64 (x6_1 + 1)), rs_, H', ⟨by have := HK1.out; omega⟩, ⟨mv_ HO490.out⟩, ⟨mv_ BK483.out⟩, ⟨bl_⟩⟩
       ·rw [if_neg c9] at H
        exact absurd H (by simp)
      ·rw [if_neg c7] at H
       exact absurd H (by simp)
     ·rw [if_neg c6] at H
      exact absurd H (by simp)
    ·rw [if_neg c5] at H
     exact absurd H (by simp)
   ·rw [if_neg c4] at H
    have c4b0 : decide (x6_1 < (l0_7.length : Int)) = false := decide_eq_false c4
    clear c4
    obtain rfl := Option.some.inj H
    have ⟨_, _, _, _, _, _, _, _, _, _, _, _, _, _, _, _, _, _⟩ := k9_ BK483.out
    go_wp2
    go_ret
    exact ⟨_, ew_, by (with_reducible repeat (first | apply Kd.R_alloc | apply Kd.R_drewN | apply Kd.R_drew)); exact HO_5.out, bl_⟩
def credenzaref07_Back.l0 : Nat → List Int → Int → Int → Int → List Int → Option (List Int)
 | 0, _, _, _, _, _ => none
 | k + 1, x3, x4, x492000, x492001, x492002 => if x4 < (x492002.length : Int) then (if 0 ≤ x4 then ((credenzaref07_One.f x492000 x492001 x492002 (rd x492002 x4)).bind fun t493 => (if x3.length < 35184372088832 then (credenzaref07_Back.l0 k (x3 ++ [t493]) (wrap64 (x4 + 1)) x492000 x492001 x492002) else (none))) else (none)) else (some x3)
def credenzaref07_Back.f (k : Nat) (a0_0 : Int) (a0_1 : Int) (l0_2 : List Int) : Option (List Int) := credenzaref07_Back.l0 k ([] : List Int) 0 a0_0 a0_1 l0_2
def credenzaref07_Back.T5 : Bool × List (List Nat × List Nat) := (true, [([], []), ([], []), ([], []), ([2], [2]), ([], []), ([3, 4], [3, 4]), ([5], [5]), ([1, 6], [1, 6]), ([7], [7]), ([0, 8, 7], [0, 8]), ([9, 9, 0, 1, 2, 3, 4, 5, 6, 7, 8, 9], [0, 9])])
def credenzaref07_Back.B5 : List Nat := [0, 0, 0, 4, 0, 28, 60, 126, 254, 511, 1023]
theorem credenzaref07_Back.tab5 : rtab .any (opsOf Try.f38 5) = credenzaref07_Back.T5 := by kernel_rfl
theorem credenzaref07_Back.bits5 : waitsOk credenzaref07_Back.T5.2 credenzaref07_Back.B5 = true := by kernel_rfl
theorem credenzaref07_Back.calls (k : Nat) (a0_0 : Int) (a0_1 : Int) (A0_2 : Option Addr) (c0_2 : Nat) (l0_2 : List Int) (r : List Int) (w : World) (hr0_2 : Kd.C (Kd.int .i64) w A0_2 l0_2.length l0_2) (hc0_2 : l0_2.length ≤ c0_2) (h : credenzaref07_Back.f k a0_0 a0_1 l0_2 = some r) :
  Calls Try.prog 38 #[.agg #[.int .i32 a0_0, .int .u32 a0_1, .slice A0_2 l0_2.length c0_2]] w fun e w' => ∃ v0_ : Value, e = .returned (v0_) ∧ Kd.R (Kd.int .i32) 21 w' w.heap.size (fun _ => True) v0_ r ∧ Below w.heap.size w w' := by
 have hu72 := Try.underlying72
 have HR0_2 := A_ hr0_2
 have HC0_2 := A_ hc0_2
 clear hr0_2 hc0_2
 have HB := A_ (Below.refl w.heap.size w)
 have H := h
 unfold credenzaref07_Back.f at H
 clear h
 have H' := A_ H
 clear H
 go_enter Try.func38, Try.ntmps38
 go_wp2_with (first | (refine box_event rfl (N := 1) rfl (cs := #[.int .i32 a0_0, .int .u32 a0_1, .slice A0_2 l0_2.length c0_2]) (t := 72) ?hr ?_; (case hr => first | (go_simp; done) | (go_simp; rfl)); intro gb491 hg w2 hbox hb; have BK491 := A_ hbox; have GW491 := A_ (gw_ w hg); have GE491 := A_ (gw_ w hg); replace HB := A_ (below_step bl_ hb); clear hb hbox hg))
 go_loopg [3, 4] k (fun kq v3 v4 w' => ∃ (x3_1 : List Int) (x4_1 : Int), v4 = .int .i64 x4_1 ∧ Aside0 (credenzaref07_Back.l0 kq x3_1 x4_1 a0_0 a0_1 l0_2 = some r) ∧ Aside0 (kq ≤ k) ∧ Aside0 (Kd.R (Kd.int .i32) 21 w' w.heap.size (fun _ => True) v3 x3_1) ∧ Aside0 (w'.heap[gb491]? = some (.cells #[.int .i32 a0_0, .int .u32 a0_1, (.slice A0_2 l0_2.length c0_2)] 72 (0, 0))) ∧ Aside0 (Below w.heap.size w w'))
 case atStart => exact ⟨(([] : List Int)), (0), rs_, H', ⟨Nat.le_refl _⟩, ⟨nil_⟩, ⟨mv_ BK491.out⟩, ⟨bl_⟩⟩
 case round =>
  clear H'
  obtain ⟨x3_1, x4_1, rfl, HA, HK1, HO_3, BK491, HB⟩ := hrel
  cases gk with
  | zero => exact absurd HA.out (by simp [credenzaref07_Back.l0])
  | succ k1 =>
   have H := HA.out
   clear HA
   simp only [credenzaref07_Back.l0] at H
   by_cases c3 : x4_1 < (l0_2.length : Int)
   ·rw [if_pos c3] at H
    have c3b0 : decide (x4_1 < (l0_2.length : Int)) = true := decide_eq_true c3
    clear c3
    by_cases c4 : 0 ≤ x4_1
    ·rw [if_pos c4] at H
     have c4b0 : decide (0 ≤ x4_1) = true := decide_eq_true c4
     clear c4
     replace H := ob_ H
     obtain ⟨t493, A5, H⟩ := H
     try dsimp only at H
     by_cases c6 : x3_1.length < 35184372088832
     ·rw [if_pos c6] at H
      have LMc6 := A_ c6
      clear c6
      obtain ⟨y494, hy494⟩ : ∃ y_ : List Int, y_ = (x3_1 ++ [t493]) := ⟨_, rfl⟩
      replace H : (credenzaref07_Back.l0 k1 y494 (wrap64 (x4_1 + 1)) a0_0 a0_1 l0_2) = some r := hy_ hy494 H
      have Ny494 := A_ hy494
      clear hy494
      have H' := A_ H
      clear H
      have ⟨_, _, _, _, _, _⟩ := k3_ BK491.out
      try go_wp2
      replace HO_3 := A_ (Kd.R_drew HO_3.out)
      replace BK491 := A_ (blk_drew BK491.out)
      replace HB := A_ (below_drew1 HB.out)
      have p492 : 0 ≤ (x4_1 : Int) := od_
      have q492 : x4_1 < (l0_2.length : Int) := od_
      obtain ⟨ad492, e492, hx492_0⟩ := Kd.at_int HR0_2.out x4_1 p492 q492
      have hw492_0 := hx492_0
      cases e492
      replace hx492_0 := hc_ HB.out hx492_0
      replace p492 := eq_true p492
      replace q492 := eq_true q492
      refine start_ (n := 11) (S := fun w' => w'.cell? ⟨gb491, 0, none⟩ = some (.int .i32 a0_0) ∧ w'.cell? ⟨gb491, 1, none⟩ = some (.int .u32 a0_1) ∧ w'.cell? ⟨gb491, 2, none⟩ = some (.slice (some ad492) l0_2.length c0_2) ∧ w'.cell? (ad492.add (x4_1).toNat) = some (.int .i64 (rd l0_2 x4_1))) (ds := []) #[false, false, false, false, false, false, false, false, false, false, false] (by kernel_rfl) rfl rfl ⟨c0_ BK491.out, c1_ BK491.out, c2_ BK491.out, (hc_ HB.out hw492_0)⟩ (fun hHeld => ?_); refine with_tabW credenzaref07_Back.tab5 credenzaref07_Back.bits5 (fun HT_ HW_ => ?_)
      generalize wr.drew = w8 at HO_3 BK491 HB hx492_0 hHeld ⊢
      refine pure_ (i := 0) (N := some 12) (v := ?_) (a' := ?_) #[true, false, false, false, false, false, false, false, false, false, false] rfl rfl (any_of HT_.out (by kernel_rfl)) (fun _ _ _ h => h) (Or.inl ⟨by rfl, ?_⟩) ?_ ?_
      rotate_left
      ·intro w'
       go_simp
       with_reducible rfl
      rotate_left
      ·simp only [Act.put, ps_, i64_w, i32_w]
       rfl
      refine pure_ (i := 2) (N := some 14) (v := ?_) (a' := ?_) #[true, false, true, false, false, false, false, false, false, false, false] rfl rfl (any_of HT_.out (by kernel_rfl)) (fun _ _ _ h => h) (Or.inl ⟨by rfl, ?_⟩) ?_ ?_
      rotate_left
      ·intro w'
       go_simp
       with_reducible rfl
      rotate_left
      ·simp only [Act.put, ps_, i64_w, i32_w]
       rfl
      refine pure_ (i := 4) (N := some 16) (v := ?_) (a' := ?_) #[true, false, true, false, true, false, false, false, false, false, false] rfl rfl (any_of HT_.out (by kernel_rfl)) (fun _ _ _ h => h) (Or.inl ⟨by rfl, ?_⟩) ?_ ?_
      rotate_left
      ·intro w'
       go_simp
       with_reducible rfl
      rotate_left
      ·simp only [Act.put, ps_, i64_w, i32_w]
       rfl
      refine take_ (i := 1) (N := some 13) (v := ?_) (a' := ?_) #[true, true, true, false, true, false, false, false, false, false, false] rfl rfl (take_ofW HT_.out HW_.out (by kernel_rfl)) (fun _ _ _ h => h) (Or.inl ⟨by rfl, ?_⟩) hHeld ?_ ?_
      rotate_left
      ·rintro w' ⟨s0, s1, s2, s3⟩
       go_simp
       with_reducible rfl
      rotate_left
      ·simp only [Act.put, ps_, i64_w, i32_w]
       rfl
      refine take_ (i := 3) (N := some 15) (v := ?_) (a' := ?_) #[true, true, true, true, true, false, false, false, false, false, false] rfl rfl (take_ofW HT_.out HW_.out (by kernel_rfl)) (fun _ _ _ h => h) (Or.inl ⟨by rfl, ?_⟩) hHeld ?_ ?_
      rotate_left
      ·rintro w' ⟨s0, s1, s2, s3⟩
       go_simp
       with_reducible rfl
      rotate_left
      ·simp only [Act.put, ps_, i64_w, i32_w]
       rfl
      refine pure_ (i := 5) (N := some 17) (v := ?_) (a' := ?_) #[true, true, true, true, true, true, false, false, false, false, false] rfl rfl (any_of HT_.out (by kernel_rfl)) (fun _ _ _ h => h) (Or.inl ⟨by rfl, ?_⟩) ?_ ?_
      rotate_left
      ·intro w'
       go_simp
       with_reducible rfl
      rotate_left
      ·simp only [Act.put, ps_, i64_w, i32_w]
       rfl
      refine take_ (i := 6) (N := some 18) (v := ?_) (a' := ?_) #[true, true, true, true, true, true, true, false, false, false, false] rfl rfl (take_ofW HT_.out HW_.out (by kernel_rfl)) (fun _ _ _ h => h) (Or.inl ⟨by rfl, ?_⟩) hHeld ?_ ?_
      rotate_left
      ·rintro w' ⟨s0, s1, s2, s3⟩
       go_simp
       with_reducible rfl
      rotate_left
      ·simp only [Act.put, ps_, i64_w, i32_w]
       rfl
      refine one_ (i := 7) (N := some 19) #[true, true, true, true, true, true, true, true, false, false, false] rfl rfl (one_of HT_.out (by kernel_rfl)) (by decide) (fun K hK => ?_)
      refine goes_ Try.func37 (by kernel_rfl) rfl #[.agg #[.int .i32 a0_0, .int .u32 a0_1, .slice (some ad492) l0_2.length c0_2], .int .i64 (rd l0_2 x4_1)] (by rfl) rfl rfl ar_ ?_
      with_reducible refine (credenzaref07_One.calls a0_0 a0_1 _ _ l0_2 (rd l0_2 x4_1) t493 _ ?side1 ?side2 A5.out).mono ?_
      (case side1 => exact cb_ (Kd.C_below HR0_2.out HB.out))
      (case side2 => exact HC0_2.out)
      rintro e w9 ⟨rfl, hb⟩
      refine ⟨_, rfl, ?_⟩
      replace HO_3 := A_ (Kd.R_below (mv_ HO_3.out) hb)
      replace BK491 := A_ (bb_ BK491.out hb)
      replace HB := A_ (below_step bl_ hb)
      refine hK.out _ _ ⟨c0_ BK491.out, c1_ BK491.out, c2_ BK491.out, (hc_ HB.out hw492_0)⟩ (fun hHeld => ?_)
      clear hK K
      refine norm_ (a' := ?_) ?_ ?_
      rotate_left
      ·show Act.put _ (some 19) _ = _
       simp only [Act.put, ps_, i64_w, i32_w]
       rfl
      refine one_ (i := 8) (N := some 20) #[true, true, true, true, true, true, true, true, true, false, false] rfl rfl (one_of HT_.out (by kernel_rfl)) (by decide) (fun K hK => ?_)
      refine value_ (w1 := ?_) (v := ?_) (by rfl) rfl ?_ ?_
      rotate_left 2
      ·go_simp
       constructor
       ·rfl
       ·rfl
      refine hK.out _ _ ⟨(blk_cell (blk_alloc BK491.out _) 0).trans rfl, (blk_cell (blk_alloc BK491.out _) 1).trans rfl, (blk_cell (blk_alloc BK491.out _) 2).trans rfl, (World.cell?_alloc_lt _ _ _ (World.block_lt_of_cell? _ _ ((hc_ HB.out hw492_0)))).trans ((hc_ HB.out hw492_0))⟩ (fun hHeld => ?_)
      clear hK K
      refine norm_ (a' := ?_) ?_ ?_
      rotate_left
      ·show Act.put _ (some 20) _ = _
       simp only [Act.put, ps_, i64_w, i32_w]
       rfl
      refine one_ (i := 9) (N := some 21) #[true, true, true, true, true, true, true, true, true, true, false] rfl rfl (one_of HT_.out (by kernel_rfl)) (by decide) (fun K hK => ?_)
      refine Kd.R_append_step (Kd.int .i32) (w0 := w) w.heap.size (by rfl) (.tmp 12) (.tmp 20) 22 21 (.int .i32 0) 4 rfl Try.underlying22 info21 rfl (by decide) (by omega) u3 x3_1 t493 [.int .i32 t493] (fun _ => True) (fun _ => False) rfl rfl ?aP (fun _ hk => hk.elim) ?aF ?aO ?aB ?aS ?aL ?_
      (case aP => exact rfl)
      (case aB => exact bl_)
      (case aF => exact (fun _ _ => trivial))
      (case aO => exact (mv_ HO_3.out))
      (case aS => exact (below_size bl_))
      (case aL => have := LMc6.out; omega)
      intro v495 w10 ho hb hg hat
      rw [← Ny494.out] at ho
      replace BK491 := A_ (bg_ BK491.out hg (Kd.R_ne HO_3.out BK491.out (by decide)))
      have HO496 := A_ ho
      replace HB := A_ hb
      clear HO_3 ho hb hg hat
      refine hK.out _ _ ⟨c0_ BK491.out, c1_ BK491.out, c2_ BK491.out, (hc_ HB.out hw492_0)⟩ (fun hHeld => ?_)
      clear hK K
      refine norm_ (a' := ?_) ?_ ?_
      rotate_left
      ·show Act.put _ (some 21) _ = _
       simp only [Act.put, ps_, i64_w, i32_w]
       rfl
      refine pure_ (i := 10) (N := some 3) (v := ?_) (a' := ?_) #[true, true, true, true, true, true, true, true, true, true, true] rfl rfl (any_of HT_.out (by kernel_rfl)) (fun _ _ _ h => h) (Or.inl ⟨by rfl, ?_⟩) ?_ ?_
      rotate_left
      ·intro w'
       go_simp
       with_reducible rfl
      rotate_left
      ·simp only [Act.put, ps_, i64_w, i32_w]
       rfl
      refine done_ (done_of HT_.out (by kernel_rfl)) ?_
      try go_wp2
      go_roundg k1
      case measure => have := HK1.out; omega
      case rel => exact ⟨(y494), (wrap64 (x4_1 + 1)), rs_, H', ⟨by have := HK1.out; omega⟩, ⟨mv_ HO496.out⟩, ⟨mv_ BK491.out⟩, ⟨bl_⟩⟩
     ·rw [if_neg c6] at H
      exact absurd H (by simp)
    ·rw [if_neg c4] at H
     exact absurd H (by simp)
   ·rw [if_neg c3] at H
    have c3b0 : decide (x4_1 < (l0_2.length : Int)) = false := decide_eq_false c3
    clear c3
    obtain rfl := Option.some.inj H
    have ⟨_, _, _, _, _, _⟩ := k3_ BK491.out
    go_wp2
    go_ret
    exact ⟨_, ew_, by (with_reducible repeat (first | apply Kd.R_alloc | apply Kd.R_drewN | apply Kd.R_drew)); exact HO_3.out, bl_⟩
def credenzaref08_Page_Value.f (k : Nat) (a0_0 : Int) (a0_1 : Int) (a0_2 : Int) (a0_3 : Int) (a0_4 : Int) (a0_5 : Int) (a0_6 : Int) (l0_7 : List (S72)) (l0_8 : List (S72)) (a1 : Int) : Option (List Int) := if 0 ≤ a1 then (if a1 < (l0_8.length : Int) then ((credenzaref07_Back.f k ((rd_T72 l0_8 a1).f0) ((rd_T72 l0_8 a1).f1) ((rd_T72 l0_8 a1).f2)).bind fun t499 => (some t499)) else (none)) else (none)
theorem credenzaref08_Page_Value.calls (k : Nat) (a0_0 : Int) (a0_1 : Int) (a0_2 : Int) (a0_3 : Int) (a0_4 : Int) (a0_5 : Int) (a0_6 : Int) (A0_7 : Option Addr) (c0_7 : Nat) (l0_7 : List (S72)) (A0_8 : Option Addr) (c0_8 : Nat) (l0_8 : List (S72)) (a1 : Int) (r : List Int) (w : World) (hr0_7 : Kd.C k72 w A0_7 l0_7.length l0_7) (hc0_7 : l0_7.length ≤ c0_7) (hr0_8 : Kd.C k72 w A0_8 l0_8.length l0_8) (hc0_8 : l0_8.length ≤ c0_8) (h : credenzaref08_Page_Value.f k a0_0 a0_1 a0_2 a0_3 a0_4 a0_5 a0_6 l0_7 l0_8 a1 = some r) :
  Calls Try.prog 21 #[.agg #[.int .i64 a0_0, .int .i64 a0_1, .int .i64 a0_2, .int .i64 a0_3, .int .i64 a0_4, .int .i64 a0_5, .int .i64 a0_6, .slice A0_7 l0_7.length c0_7, .slice A0_8 l0_8.length c0_8], .int .i64 a1] w fun e w' => ∃ v0_ : Value, e = .returned (v0_) ∧ Kd.R (Kd.int .i32) 21 w' w.heap.size (fun _ => True) v0_ r ∧ Below w.heap.size w w' := by
 have hu49 := Try.underlying49
 have hu72 := Try.underlying72
 have HR0_7 := A_ hr0_7
 have HC0_7 := A_ hc0_7
 clear hr0_7 hc0_7
 have HR0_8 := A_ hr0_8
 have HC0_8 := A_ hc0_8
 clear hr0_8 hc0_8
 have HB := A_ (Below.refl w.heap.size w)
 have H := h
 unfold credenzaref08_Page_Value.f at H
 clear h
 by_cases c3 : 0 ≤ a1
 ·rw [if_pos c3] at H
  have c3b0 : decide (0 ≤ a1) = true := decide_eq_true c3
  clear c3
  by_cases c4 : a1 < (l0_8.length : Int)
  ·rw [if_pos c4] at H
   have c4b0 : decide (a1 < (l0_8.length : Int)) = true := decide_eq_true c4
   clear c4
   replace H := ob_ H
   obtain ⟨t499, A5, H⟩ := H
   try dsimp only at H
   obtain rfl := Option.some.inj H
   go_enter Try.func21, Try.ntmps21
   go_wp2_with (first | (refine box_event rfl (N := 2) rfl (cs := #[.int .i64 a0_0, .int .i64 a0_1, .int .i64 a0_2, .int .i64 a0_3, .int .i64 a0_4, .int .i64 a0_5, .int .i64 a0_6, .slice A0_7 l0_7.length c0_7, .slice A0_8 l0_8.length c0_8]) (t := 49) ?hr ?_; (case hr => first | (go_simp; done) | (go_simp; rfl)); intro gb497 hg w6 hbox hb; have BK497 := A_ hbox; have GW497 := A_ (gw_ w hg); have GE497 := A_ (gw_ w hg); replace HB := A_ (below_step bl_ hb); clear hb hbox hg; have ⟨_, _, _, _, _, _, _, _, _, _, _, _, _, _, _, _, _, _⟩ := k9_ BK497.out; have p498 : 0 ≤ (a1 : Int) := od_; have q498 : a1 < (l0_8.length : Int) := od_; obtain ⟨ad498, A498_2, c498_2, e498, hx498_0, hx498_1, hx498_2, hl498_2, hi498_2⟩ := at_T72 HR0_8.out a1 p498 q498; cases e498; replace hx498_0 := hc_ HB.out hx498_0; replace hx498_1 := hc_ HB.out hx498_1; replace hx498_2 := hc_ HB.out hx498_2; have HR498_2 := A_ hi498_2; have HC498_2 := A_ hl498_2; clear hi498_2 hl498_2; replace p498 := eq_true p498; replace q498 := eq_true q498) | (refine goesL_ (some 10) rfl rfl Try.func38 (by kernel_rfl) rfl #[.agg #[.int .i32 ((rd_T72 l0_8 a1).f0), .int .u32 ((rd_T72 l0_8 a1).f1), .slice A498_2 ((rd_T72 l0_8 a1).f2).length c498_2]] rfl ar_ ?_; (with_reducible refine (credenzaref07_Back.calls k ((rd_T72 l0_8 a1).f0) ((rd_T72 l0_8 a1).f1) _ _ ((rd_T72 l0_8 a1).f2) t499 _ ?side1 ?side2 A5.out).mono ?_); (case side1 => exact cb_ (Kd.C_below HR498_2.out HB.out)); (case side2 => exact HC498_2.out); rintro e w8 ⟨v500, rfl, ho0, hb⟩; refine ⟨_, rfl, ?_⟩; have HO501 := A_ (Kd.R_lower ho0 (below_size bl_)); replace BK497 := A_ (bb_ BK497.out hb); replace HB := A_ (below_step bl_ hb)))
   go_ret
   exact ⟨_, ew_, by (with_reducible repeat (first | apply Kd.R_alloc | apply Kd.R_drewN | apply Kd.R_drew)); exact HO501.out, bl_⟩
  ·rw [if_neg c4] at H
   exact absurd H (by simp)
 ·rw [if_neg c3] at H
  exact absurd H (by simp)
end Go.Proofs.Yteflolamihhmdaa.Q

namespace Go.Proofs.Yteflolamihhmdaa.Pure.Pg
open Go.RowKit Go.Proofs.Yteflolamihhmdaa.Q Go.Proofs.YteflolamihhmdaaW.PrintWords Go.Proofs.YteflolamihhmdaaW.PrintLast Go.Proofs.YteflolamihhmdaaW.PrintMore
def oneR (z s c : Int) : Int := wideR (z + c * s)
theorem one_sum {z s c : Int} (hz : I32 z) (hs : 0 ≤ s ∧ s ≤ 1431655765) (hc : 0 ≤ c ∧ c ≤ 255) : wrap64 ((wrap64 z) + (wrap64 (c * (wrap64 s)))) = z + c * s := by
 have h := mul_bd (A := 255) (B := 1431655765) (a := c) (b := s) (by omega) hc.2 (by omega) hs.2
 unfold I32 at hz
 have e1 : wrap64 s = s := by unfold wrap64; omega
 have e2 : wrap64 z = z := by unfold wrap64; omega
 rw [e1, e2]
 generalize c * s = y at h
 unfold wrap64
 omega
theorem group_One_some {z s c : Int} {l : List Int} (hz : I32 z) (hs : 0 ≤ s ∧ s ≤ 1431655765) (hc : 0 ≤ c ∧ c ≤ 255) : group_One.f z s l c = some (oneR z s c) := by
 rw [group_One.f, one_sum hz hs hc, fix_Wide_some, Option.bind_some]
 rfl
theorem ref_One_some {z s c : Int} {l : List Int} (hz : I32 z) (hs : 0 ≤ s ∧ s ≤ 1431655765) (hc : 0 ≤ c ∧ c ≤ 255) : credenzaref07_One.f z s l c = some (oneR z s c) := by
 rw [credenzaref07_One.f, one_sum hz hs hc, ref_Wide_some, Option.bind_some]
 rfl
structure LOk (b : Int) (n : Nat) (l : List Int) : Prop where
 bit : Bit b
 len : l.length = n
 n1 : 1 ≤ n
 n16 : n ≤ 16
 a32 : A32 l
theorem LOk.z {b : Int} {n : Nat} {l : List Int} (h : LOk b n l) : I32 (leastR l) := (least_i32 (by have := h.len; have := h.n1; omega) h.a32).1
theorem LOk.s {b : Int} {n : Nat} {l : List Int} (h : LOk b n l) : 0 ≤ scaleR b l ∧ scaleR b l ≤ 1431655765 := by
 have := scale_bd h.bit (l := l) (by have := h.len; have := h.n1; omega) h.a32
 exact ⟨this.1, this.2.1⟩
theorem LOk.clen {b : Int} {n : Nat} {l : List Int} (h : LOk b n l) : (codesR b l).length = n := by simp [codesR, h.len]
theorem LOk.codes {b : Int} {n : Nat} {l : List Int} (h : LOk b n l) : Codes b (codesR b l) := (gR_ok h.bit (l := l) (by have := h.len; have := h.n1; omega) h.a32).codes
theorem LOk.c {b : Int} {n : Nat} {l : List Int} (h : LOk b n l) {t : Nat} (ht : t < n) : 0 ≤ rd (codesR b l) (t : Int) ∧ rd (codesR b l) (t : Int) ≤ 255 := by
 have h1 := h.codes _ (pg_mem (l := codesR b l) (p := t) (by rw [h.clen]; exact ht))
 have : stepsR b ≤ 255 := by rcases h.bit with rfl | rfl | rfl <;> decide
 omega
theorem LOk.mean {b : Int} {n : Nat} {l : List Int} (h : LOk b n l) {t : Nat} (ht : t < n) : page_packed_mean.f (leastR l) (scaleR b l) [] (packR b (codesR b l)) (t : Int) b = some (oneR (leastR l) (scaleR b l) (rd (codesR b l) (t : Int))) := by
 have hl := lane_some h.bit h.codes (by rw [h.clen]; have := h.n16; omega) (t := t) (by rw [h.clen]; exact ht)
 rw [page_packed_mean.f, hl, Option.bind_some, group_One_some h.z h.s (h.c ht), Option.bind_some]
def keyR (b : Int) (keys : List (List Int)) (m t : Nat) : List Int := (List.range m).map fun p => oneR (leastR (colR keys p)) (scaleR b (colR keys p)) (rd (codesR b (colR keys p)) (t : Int))
def valR (b : Int) (row : List Int) : List Int := (codesR b row).map (oneR (leastR row) (scaleR b row))
def srcR (h0 h1 : Int) (keys vals : List (List Int)) (n m : Nat) : attn_Src := ⟨(List.range n).map (keyR h0 keys m), vals.map (valR h1)⟩
theorem map_rd (f : Int → Int) (l : List Int) : (List.range l.length).map (fun p : Nat => f (rd l (p : Int))) = l.map f := by
 apply List.ext_getElem
 ·simp
 ·intro i h1 h2
  simp [rd, List.getD_eq_getElem?_getD, List.getElem?_eq_getElem (show i < l.length by simpa using h1)]
theorem Tab.lok {b : Int} {keys : List (List Int)} {n m : Nat} (h : Tab keys n m) (hb : Bit b) {p : Nat} (hp : p < m) : LOk b n (colR keys p) := ⟨hb, (h.col hp).1, h.n1, h.n16, (h.col hp).2⟩
theorem Tab.rok {b : Int} {keys : List (List Int)} {n m : Nat} (h : Tab keys n m) (hb : Bit b) {t : Nat} (ht : t < n) : LOk b m (rowAt keys (t : Int)) := by
 have hm := rowAt_mem (l := keys) (t := t) (by rw [h.rows]; exact ht)
 exact ⟨hb, h.cols _ hm, h.m1, h.m16, h.i32 _ hm⟩
theorem pk_at {α β : Type} (f : Nat → α) (g : α → β) (z : β) {m p : Nat} (hp : p < m) : (((List.range m).map f).map g).getD p z = g (f p) := by
 simp [List.getD_eq_getElem?_getD, hp]
theorem page_key {keys vals : List (List Int)} {n m : Nat} (hk : Tab keys n m) {h0 h1 h4 h5 h6 : Int} (hb : Bit h0) {t p : Nat} (ht : t < n) (hp : p < m) : pgKeyO (pageR h0 h1 h4 h5 h6 keys vals n m) t p = some (oneR (leastR (colR keys p)) (scaleR h0 (colR keys p)) (rd (codesR h0 (colR keys p)) (t : Int))) := by
 have e : rd_T135 (pageR h0 h1 h4 h5 h6 keys vals n m).f1 (p : Int) = pkR h0 (gR h0 (colR keys p)) := by
  unfold rd_T135 pageR kgsR
  rw [Int.toNat_natCast]
  exact pk_at _ _ _ hp
 unfold pgKeyO
 rw [e]
 exact (hk.lok hb hp).mean ht
theorem page_val {keys vals : List (List Int)} {n m : Nat} (hv : Tab vals n m) {h0 h1 h4 h5 h6 : Int} (hb : Bit h1) {t p : Nat} (ht : t < n) (hp : p < m) : pgValO (pageR h0 h1 h4 h5 h6 keys vals n m) t p = some (oneR (leastR (rowAt vals (t : Int))) (scaleR h1 (rowAt vals (t : Int))) (rd (codesR h1 (rowAt vals (t : Int))) (p : Int))) := by
 have hlt : t < vals.length := by rw [hv.rows]; exact ht
 have e : rd_T135 (pageR h0 h1 h4 h5 h6 keys vals n m).f2 (t : Int) = pkR h1 (gR h1 (rowAt vals (t : Int))) := by
  unfold rd_T135 pageR
  rw [Int.toNat_natCast, List.getD_eq_getElem?_getD, List.getElem?_map, List.getElem?_map, List.getElem?_eq_getElem hlt, rowAt_at hlt]
  rfl
 unfold pgValO
 rw [e]
 exact (hv.rok hb ht).mean hp
theorem page_means {keys vals : List (List Int)} {n m : Nat} (hk : Tab keys n m) (hv : Tab vals n m) {h0 h1 h4 h5 h6 : Int} (hb0 : Bit h0) (hb1 : Bit h1) : pgOk (pageR h0 h1 h4 h5 h6 keys vals n m) = true ∧ pgSrc (pageR h0 h1 h4 h5 h6 keys vals n m) = srcR h0 h1 keys vals n m := by
 have hn16 := hk.n16
 have hm16 := hk.m16
 have en : (pageR h0 h1 h4 h5 h6 keys vals n m).f0.f2.toNat = n := by simp [pageR]
 have em : (pageR h0 h1 h4 h5 h6 keys vals n m).f0.f3.toNat = m := by simp [pageR]
 constructor
 ·unfold pgOk
  rw [en, em]
  simp only [Bool.and_eq_true, decide_eq_true_eq, List.all_eq_true, List.mem_range]
  refine ⟨⟨⟨⟨⟨⟨by simp [pageR], by simp [pageR]; omega⟩, by simp [pageR]⟩, by simp [pageR]; omega⟩, by simp [pageR, kgsR]⟩, by simp [pageR, hv.rows]⟩, fun t ht p hp => ?_⟩
  rw [page_key hk hb0 ht hp, page_val hv hb1 ht hp]
  exact ⟨rfl, rfl⟩
 ·unfold pgSrc srcR
  rw [en, em]
  congr 1
  ·apply List.map_congr_left
   intro t ht
   apply List.map_congr_left
   intro p hp
   rw [page_key hk hb0 (List.mem_range.1 ht) (List.mem_range.1 hp)]
   rfl
  ·apply List.ext_getElem
   ·simp [hv.rows]
   ·intro t h1' h2'
    have ht : t < n := by simpa using h1'
    have hlt : t < vals.length := by rw [hv.rows]; exact ht
    rw [List.getElem_map, List.getElem_map, List.getElem_range, ← rowAt_at hlt]
    have hl := (hv.rok hb1 ht).clen
    have : m = (codesR h1 (rowAt vals (t : Int))).length := hl.symm
    unfold valR
    rw [← map_rd]
    rw [hl]
    apply List.map_congr_left
    intro p hp
    rw [page_val hv hb1 ht (List.mem_range.1 hp)]
    rfl
def g72 (b : Int) (l : List Int) : S72 := ⟨leastR l, scaleR b l, codesR b l⟩
def k72R (h0 : Int) (keys : List (List Int)) (m : Nat) : List S72 := (List.range m).map fun p => g72 h0 (colR keys p)
section
variable {keys vals : List (List Int)} {n m : Nat} {a0 a1 a2 a3 a4 a5 a6 : Int}
theorem refq_l1 (hk : Tab keys n m) (h0 h1 h2 h4 h5 h6 : Int) (acc : List S72) (p : Nat) (hp : p < m) (r : Int × Int × Int × Int × Int × Int × Int × List S72 × List S72)
  (hr : Ev (fun k => (credenzaref07_Of.f k (colR keys p) h0).bind fun bt462 => (if acc.length < 4398046511104 then (credenzaref08_Quantize.l0 k keys vals (wrap64 ((p : Int) + 1)) h0 h1 h2 (m : Int) h4 h5 h6 a0 a1 a2 a3 a4 a5 a6 (acc ++ [(⟨bt462.1, bt462.2.1, bt462.2.2⟩ : S72)])) else (none))) r) :
  ∀ (d q : Nat), q + d = keys.length → Ev (fun k => credenzaref08_Quantize.l1 k keys vals (p : Int) (colR (keys.take q) p) (q : Int) h0 h1 h2 (m : Int) h4 h5 h6 a0 a1 a2 a3 a4 a5 a6 acc) r := by
 have hkl : keys.length ≤ 16 := by have := hk.rows; have := hk.n16; omega
 intro d
 induction d with
 | zero =>
  intro q h
  obtain rfl : q = keys.length := by omega
  rw [List.take_length]
  refine Ev.step (fun k => ?_) hr
  rw [credenzaref08_Quantize.l1, if_neg (by omega)]
 | succ d ih =>
  intro q h
  have hlt : q < keys.length := by omega
  have hrow : ((rd_L11 keys (q : Int)).length : Int) = (m : Int) := by
   have := hk.cols _ (rowAt_mem hlt)
   exact_mod_cast this
  have hlen : (colR (keys.take q) p).length < 35184372088832 := by simp [colR]; omega
  refine Ev.step (fun k => ?_) (ih (q + 1) (by omega))
  rw [credenzaref08_Quantize.l1, if_pos (by omega), if_pos (by omega), if_pos (by omega), if_pos (by omega), if_pos hlen, pg_w1 (by omega)]
  have e : colR (keys.take (q + 1)) p = colR (keys.take q) p ++ [rd (rd_L11 keys (q : Int)) (p : Int)] := by
   unfold colR
   rw [take_row hlt, List.map_append]
   rfl
  rw [e]
theorem refq_l2 (hv : Tab vals n m) {h1 : Int} (hb : Bit h1) (h0 h2 h4 h5 h6 : Int) (ks : List S72) : ∀ (d q : Nat), q + d = vals.length →
  Ev (fun k => credenzaref08_Quantize.l2 k vals (q : Int) h0 h1 h2 (m : Int) h4 h5 h6 a0 a1 a2 a3 a4 a5 a6 ks ((vals.take q).map (g72 h1))) (a0, a1, a2, a3, a4, a5, a6, ks, vals.map (g72 h1)) := by
 have hvl : vals.length ≤ 16 := by have := hv.rows; have := hv.n16; omega
 intro d
 induction d with
 | zero =>
  intro q h
  obtain rfl : q = vals.length := by omega
  rw [List.take_length]
  refine Ev.step (fun k => ?_) (Ev.now _)
  rw [credenzaref08_Quantize.l2, if_neg (by omega)]
 | succ d ih =>
  intro q h
  have hlt : q < vals.length := by omega
  have hmem := rowAt_mem hlt
  have hrl := hv.cols _ hmem
  have hm1 := hv.m1
  have hm16 := hv.m16
  have hlen : ((vals.take q).map (g72 h1)).length < 4398046511104 := by simp; omega
  have e : (vals.take (q + 1)).map (g72 h1) = (vals.take q).map (g72 h1) ++ [g72 h1 (rowAt vals (q : Int))] := by
   rw [take_row hlt, List.map_append]
   rfl
  have ih := ih (q + 1) (by omega)
  rw [e] at ih
  refine Ev.step (f := fun k => (credenzaref07_Of.f k (rowAt vals (q : Int)) h1).bind fun bt => credenzaref08_Quantize.l2 k vals ((q + 1 : Nat) : Int) h0 h1 h2 (m : Int) h4 h5 h6 a0 a1 a2 a3 a4 a5 a6 ks ((vals.take q).map (g72 h1) ++ [(⟨bt.1, bt.2.1, bt.2.2⟩ : S72)])) (fun k => ?_) (Ev.bind (ref_Of_ev hb (by omega) (hv.i32 _ hmem) (by omega)) ih)
  rw [credenzaref08_Quantize.l2, if_pos (by omega), if_pos (by omega), pg_w1 (by omega)]
  simp only [if_pos hlen]
  rfl
theorem refq_l0 (hk : Tab keys n m) (hv : Tab vals n m) {h0 h1 : Int} (hb0 : Bit h0) (hb1 : Bit h1) (h2 h4 h5 h6 : Int) : ∀ (d p : Nat), p + d = m →
  Ev (fun k => credenzaref08_Quantize.l0 k keys vals (p : Int) h0 h1 h2 (m : Int) h4 h5 h6 a0 a1 a2 a3 a4 a5 a6 (k72R h0 keys p)) (a0, a1, a2, a3, a4, a5, a6, k72R h0 keys m, vals.map (g72 h1)) := by
 have hkl : keys.length ≤ 16 := by have := hk.rows; have := hk.n16; omega
 have hm16 := hk.m16
 intro d
 induction d with
 | zero =>
  intro p h
  obtain rfl : p = m := by omega
  refine Ev.step (fun k => ?_) (refq_l2 hv hb1 h0 h2 h4 h5 h6 (k72R h0 keys p) vals.length 0 (by omega))
  rw [credenzaref08_Quantize.l0, if_neg (by omega)]
  rfl
 | succ d ih =>
  intro p h
  have hlt : p < m := by omega
  obtain ⟨c1, c2⟩ := hk.col hlt
  have hn1 := hk.n1
  have hn16 := hk.n16
  have hlen : (k72R h0 keys p).length < 4398046511104 := by simp [k72R]; omega
  have e : k72R h0 keys (p + 1) = k72R h0 keys p ++ [g72 h0 (colR keys p)] := by
   unfold k72R
   rw [List.range_succ, List.map_append]
   rfl
  have ih := ih (p + 1) (by omega)
  rw [e] at ih
  refine Ev.step (fun k => ?_) (refq_l1 (vals := vals) (a0 := a0) (a1 := a1) (a2 := a2) (a3 := a3) (a4 := a4) (a5 := a5) (a6 := a6) hk h0 h1 h2 h4 h5 h6 (k72R h0 keys p) p hlt _ ?_ keys.length 0 (by omega))
  ·rw [credenzaref08_Quantize.l0, if_pos (by omega)]
   rfl
  ·refine Ev.bind (ref_Of_ev hb0 (by omega) c2 (by omega)) ?_
   simp only [if_pos hlen, pg_w1 (show p ≤ 1000000 by omega)]
   exact ih
theorem refQ_ev (hk : Tab keys n m) (hv : Tab vals n m) {h0 h1 : Int} (hb0 : Bit h0) (hb1 : Bit h1) (h4 h5 h6 : Int) :
  Ev (fun k => credenzaref08_Quantize.f k h0 h1 (n : Int) (m : Int) h4 h5 h6 keys vals) (h0, h1, (n : Int), (m : Int), h4, h5, h6, k72R h0 keys m, vals.map (g72 h1)) :=
 Ev.congr (fun k => by rw [credenzaref08_Quantize.f]; rfl) (refq_l0 hk hv hb0 hb1 (n : Int) h4 h5 h6 m 0 (by omega))
theorem k72_at {h0 : Int} {p : Nat} (hp : p < m) : rd_T72 (k72R h0 keys m) (p : Int) = g72 h0 (colR keys p) := by
 unfold rd_T72 k72R
 rw [Int.toNat_natCast]
 simp [List.getD_eq_getElem?_getD, hp]
theorem refKey_loop (hk : Tab keys n m) {h0 : Int} (hb : Bit h0) (v : List S72) {t : Nat} (ht : t < n) : ∀ (d p : Nat), p + d = m →
  Ev (fun k => credenzaref08_Page_Key.l0 k (t : Int) (keyR h0 keys p t) (p : Int) a0 a1 a2 a3 a4 a5 a6 (k72R h0 keys m) v) (keyR h0 keys m t) := by
 have hm16 := hk.m16
 have hl : (k72R h0 keys m).length = m := by simp [k72R]
 intro d
 induction d with
 | zero =>
  intro p h
  obtain rfl : p = m := by omega
  refine Ev.step (fun k => ?_) (Ev.now _)
  rw [credenzaref08_Page_Key.l0, if_neg (by omega)]
 | succ d ih =>
  intro p h
  have hlt : p < m := by omega
  have ok := hk.lok hb hlt
  have e : keyR h0 keys (p + 1) t = keyR h0 keys p t ++ [oneR (leastR (colR keys p)) (scaleR h0 (colR keys p)) (rd (codesR h0 (colR keys p)) (t : Int))] := by
   unfold keyR
   rw [List.range_succ, List.map_append]
   rfl
  have hlen : (keyR h0 keys p t).length < 35184372088832 := by simp [keyR]; omega
  have hc : (t : Int) < ((codesR h0 (colR keys p)).length : Int) := by rw [ok.clen]; omega
  have ih := ih (p + 1) (by omega)
  rw [e] at ih
  refine Ev.step (fun k => ?_) ih
  rw [credenzaref08_Page_Key.l0, if_pos (by omega), if_pos (by omega), if_pos (by omega), k72_at hlt]
  show (if (t : Int) < ((codesR h0 (colR keys p)).length : Int) then (credenzaref07_One.f (leastR (colR keys p)) (scaleR h0 (colR keys p)) (codesR h0 (colR keys p)) (rd (codesR h0 (colR keys p)) (t : Int))).bind _ else none) = _
  rw [if_pos hc, ref_One_some ok.z ok.s (ok.c ht), Option.bind_some, if_pos hlen, pg_w1 (by omega)]
theorem refKey_ev (hk : Tab keys n m) {h0 : Int} (hb : Bit h0) (v : List S72) {t : Nat} (ht : t < n) : Ev (fun k => credenzaref08_Page_Key.f k a0 a1 a2 a3 a4 a5 a6 (k72R h0 keys m) v (t : Int)) (keyR h0 keys m t) :=
 Ev.congr (fun k => by rw [credenzaref08_Page_Key.f]; rfl) (refKey_loop hk hb v ht m 0 (by omega))
theorem back_loop {b : Int} {l : List Int} (ok : LOk b m l) : ∀ (d p : Nat), p + d = m →
  Ev (fun k => credenzaref07_Back.l0 k (((codesR b l).take p).map (oneR (leastR l) (scaleR b l))) (p : Int) (leastR l) (scaleR b l) (codesR b l)) (valR b l) := by
 have hm16 := ok.n16
 have hl := ok.clen
 intro d
 induction d with
 | zero =>
  intro p h
  obtain rfl : p = m := by omega
  rw [List.take_of_length_le (by omega)]
  refine Ev.step (fun k => ?_) (Ev.now _)
  rw [credenzaref07_Back.l0, if_neg (by omega)]
  rfl
 | succ d ih =>
  intro p h
  have hlt : p < (codesR b l).length := by omega
  have hlen : (((codesR b l).take p).map (oneR (leastR l) (scaleR b l))).length < 35184372088832 := by simp; omega
  have e : ((codesR b l).take (p + 1)).map (oneR (leastR l) (scaleR b l)) = ((codesR b l).take p).map (oneR (leastR l) (scaleR b l)) ++ [oneR (leastR l) (scaleR b l) (rd (codesR b l) (p : Int))] := by
   rw [List.take_succ_eq_append_getElem hlt, List.map_append]
   simp [rd, List.getD_eq_getElem?_getD, List.getElem?_eq_getElem hlt]
  have ih := ih (p + 1) (by omega)
  rw [e] at ih
  refine Ev.step (fun k => ?_) ih
  rw [credenzaref07_Back.l0, if_pos (by omega), if_pos (by omega), ref_One_some ok.z ok.s (ok.c (by omega)), Option.bind_some, if_pos hlen, pg_w1 (by omega)]
theorem refVal_ev (hv : Tab vals n m) {h1 : Int} (hb : Bit h1) (ks : List S72) {t : Nat} (ht : t < n) : Ev (fun k => credenzaref08_Page_Value.f k a0 a1 a2 a3 a4 a5 a6 ks (vals.map (g72 h1)) (t : Int)) (valR h1 (rowAt vals (t : Int))) := by
 have hlt : t < vals.length := by rw [hv.rows]; exact ht
 have e : rd_T72 (vals.map (g72 h1)) (t : Int) = g72 h1 (rowAt vals (t : Int)) := by
  unfold rd_T72
  rw [Int.toNat_natCast, List.getD_eq_getElem?_getD, List.getElem?_map, List.getElem?_eq_getElem hlt, rowAt_at hlt]
  rfl
 have hb1 : Ev (fun k => credenzaref07_Back.f k (leastR (rowAt vals (t : Int))) (scaleR h1 (rowAt vals (t : Int))) (codesR h1 (rowAt vals (t : Int)))) (valR h1 (rowAt vals (t : Int))) :=
  Ev.congr (fun k => by rw [credenzaref07_Back.f]; rfl) (back_loop (hv.rok hb ht) m 0 (by omega))
 refine Ev.congr (f := fun k => (credenzaref07_Back.f k (leastR (rowAt vals (t : Int))) (scaleR h1 (rowAt vals (t : Int))) (codesR h1 (rowAt vals (t : Int)))).bind fun t499 => some t499) (fun k => ?_) (Ev.bind hb1 (Ev.now _))
 rw [credenzaref08_Page_Value.f, if_pos (by omega), if_pos (by rw [List.length_map]; omega), e]
 rfl
end
end Go.Proofs.Yteflolamihhmdaa.Pure.Pg

namespace Go.Proofs.Yteflolamihhmdaa.Q
open Go.RowKit Go.Proofs.YteflolamihhmdaaW.PrintWords Go.Proofs.YteflolamihhmdaaW.PrintLast Go.Proofs.YteflolamihhmdaaW.PrintMore
attribute [local go_sem] max2_int min2_int max_two min_two max_three min_three max_four min_four
def credenzalaw14_awake.f (k : Nat)  : Option (Bool) := (attn_Score.f k (([65536, 65536, 0, 0] : List Int)) (([65536, 131072, 5, 5] : List Int))).bind fun bt159 => ((attn_Gather.f k (([7] : List Int)) (([(([9] : List Int))] : List (List Int))) (([(([(-3)] : List Int))] : List (List Int)))).bind fun bt176 => ((attn_Gather.f k (([7] : List Int)) ([] : List (List Int)) ([] : List (List Int))).bind fun bt183 => ((attn_Score.f k (([7] : List Int)) ([] : List Int)).bind fun bt190 => (if bt159.2 = 0 then (if bt159.1 = 98304 then (if bt176.2 = 0 then (if (bt176.1.length : Int) = 1 then (if 0 < (bt176.1.length : Int) then (if (rd bt176.1 0) = (-3) then (if bt183.2 = 14 then (some (bt190.2 == 25)) else (some false)) else (some false)) else (none)) else (some false)) else (some false)) else (some false)) else (some false)))))
theorem credenzalaw14_awake.mono : ∀ k, LeO (credenzalaw14_awake.f k ) (credenzalaw14_awake.f (k + 1) ) := by
 intro  k
 unfold credenzalaw14_awake.f
 repeat' with_reducible first | apply attn_Gather.mono | apply attn_Score.mono | apply LeO.refl | apply LeO.none | refine LeO.ite ?_ ?_ | refine LeO.bind ?_ (fun _ => ?_)
theorem credenzalaw14_awake.at_ : credenzalaw14_awake.f 100 = some true := by kernel_rfl
theorem credenzalaw14_awake.det {k : Nat} {r : Bool} (h : credenzalaw14_awake.f k = some r) : r = true := by
 obtain ⟨K, hK⟩ := Ev.of credenzalaw14_awake.mono credenzalaw14_awake.at_
 have h1 := at_rounds credenzalaw14_awake.mono (Nat.le_max_right K k) h
 rw [hK _ (Nat.le_max_left K k)] at h1
 exact (Option.some.inj h1).symm
theorem credenzalaw14_awake.calls (k : Nat)  (r : Bool) (w : World) (h : credenzalaw14_awake.f k  = some r) :
  Calls Try.prog 8 #[] w fun e w' => e = .returned (.bool r) ∧ Below w.heap.size w w' := by
 have HB := A_ (Below.refl w.heap.size w)
 have H := h
 unfold credenzalaw14_awake.f at H
 have hr_ := A_ (credenzalaw14_awake.det h)
 clear h
 obtain ⟨y153, hy153⟩ : ∃ y_ : List Int, y_ = (([65536, 65536, 0, 0] : List Int)) := ⟨_, rfl⟩
 replace H : ((attn_Score.f k y153 (([65536, 131072, 5, 5] : List Int))).bind fun bt159 => ((attn_Gather.f k (([7] : List Int)) (([(([9] : List Int))] : List (List Int))) (([(([(-3)] : List Int))] : List (List Int)))).bind fun bt176 => ((attn_Gather.f k (([7] : List Int)) ([] : List (List Int)) ([] : List (List Int))).bind fun bt183 => ((attn_Score.f k (([7] : List Int)) ([] : List Int)).bind fun bt190 => (if bt159.2 = 0 then (if bt159.1 = 98304 then (if bt176.2 = 0 then (if (bt176.1.length : Int) = 1 then (if 0 < (bt176.1.length : Int) then (if (rd bt176.1 0) = (-3) then (if bt183.2 = 14 then (some (bt190.2 == 25)) else (some false)) else (some false)) else (none)) else (some false)) else (some false)) else (some false)) else (some false)))))) = some r := hy_ hy153 H
 have Ny153 := A_ hy153
 clear hy153
 obtain ⟨y156, hy156⟩ : ∃ y_ : List Int, y_ = (([65536, 131072, 5, 5] : List Int)) := ⟨_, rfl⟩
 replace H : ((attn_Score.f k y153 y156).bind fun bt159 => ((attn_Gather.f k (([7] : List Int)) (([(([9] : List Int))] : List (List Int))) (([(([(-3)] : List Int))] : List (List Int)))).bind fun bt176 => ((attn_Gather.f k (([7] : List Int)) ([] : List (List Int)) ([] : List (List Int))).bind fun bt183 => ((attn_Score.f k (([7] : List Int)) ([] : List Int)).bind fun bt190 => (if bt159.2 = 0 then (if bt159.1 = 98304 then (if bt176.2 = 0 then (if (bt176.1.length : Int) = 1 then (if 0 < (bt176.1.length : Int) then (if (rd bt176.1 0) = (-3) then (if bt183.2 = 14 then (some (bt190.2 == 25)) else (some false)) else (some false)) else (none)) else (some false)) else (some false)) else (some false)) else (some false)))))) = some r := hy_ hy156 H
 have Ny156 := A_ hy156
 clear hy156
 replace H := ob_ H
 obtain ⟨⟨t159, t160⟩, A1, H⟩ := H
 try dsimp only at H
 obtain ⟨y161, hy161⟩ : ∃ y_ : List Int, y_ = (([7] : List Int)) := ⟨_, rfl⟩
 replace H : ((attn_Gather.f k y161 (([(([9] : List Int))] : List (List Int))) (([(([(-3)] : List Int))] : List (List Int)))).bind fun bt176 => ((attn_Gather.f k (([7] : List Int)) ([] : List (List Int)) ([] : List (List Int))).bind fun bt183 => ((attn_Score.f k (([7] : List Int)) ([] : List Int)).bind fun bt190 => (if t160 = 0 then (if t159 = 98304 then (if bt176.2 = 0 then (if (bt176.1.length : Int) = 1 then (if 0 < (bt176.1.length : Int) then (if (rd bt176.1 0) = (-3) then (if bt183.2 = 14 then (some (bt190.2 == 25)) else (some false)) else (some false)) else (none)) else (some false)) else (some false)) else (some false)) else (some false))))) = some r := hy_ hy161 H
 have Ny161 := A_ hy161
 clear hy161
 obtain ⟨y164, hy164⟩ : ∃ y_ : List Int, y_ = (([9] : List Int)) := ⟨_, rfl⟩
 replace H : ((attn_Gather.f k y161 (([y164] : List (List Int))) (([(([(-3)] : List Int))] : List (List Int)))).bind fun bt176 => ((attn_Gather.f k (([7] : List Int)) ([] : List (List Int)) ([] : List (List Int))).bind fun bt183 => ((attn_Score.f k (([7] : List Int)) ([] : List Int)).bind fun bt190 => (if t160 = 0 then (if t159 = 98304 then (if bt176.2 = 0 then (if (bt176.1.length : Int) = 1 then (if 0 < (bt176.1.length : Int) then (if (rd bt176.1 0) = (-3) then (if bt183.2 = 14 then (some (bt190.2 == 25)) else (some false)) else (some false)) else (none)) else (some false)) else (some false)) else (some false)) else (some false))))) = some r := hy_ hy164 H
 have Ny164 := A_ hy164
 clear hy164
 obtain ⟨y167, hy167⟩ : ∃ y_ : List (List Int), y_ = (([y164] : List (List Int))) := ⟨_, rfl⟩
 replace H : ((attn_Gather.f k y161 y167 (([(([(-3)] : List Int))] : List (List Int)))).bind fun bt176 => ((attn_Gather.f k (([7] : List Int)) ([] : List (List Int)) ([] : List (List Int))).bind fun bt183 => ((attn_Score.f k (([7] : List Int)) ([] : List Int)).bind fun bt190 => (if t160 = 0 then (if t159 = 98304 then (if bt176.2 = 0 then (if (bt176.1.length : Int) = 1 then (if 0 < (bt176.1.length : Int) then (if (rd bt176.1 0) = (-3) then (if bt183.2 = 14 then (some (bt190.2 == 25)) else (some false)) else (some false)) else (none)) else (some false)) else (some false)) else (some false)) else (some false))))) = some r := hy_ hy167 H
 have Ny167 := A_ hy167
 clear hy167
 obtain ⟨y170, hy170⟩ : ∃ y_ : List Int, y_ = (([(-3)] : List Int)) := ⟨_, rfl⟩
 replace H : ((attn_Gather.f k y161 y167 (([y170] : List (List Int)))).bind fun bt176 => ((attn_Gather.f k (([7] : List Int)) ([] : List (List Int)) ([] : List (List Int))).bind fun bt183 => ((attn_Score.f k (([7] : List Int)) ([] : List Int)).bind fun bt190 => (if t160 = 0 then (if t159 = 98304 then (if bt176.2 = 0 then (if (bt176.1.length : Int) = 1 then (if 0 < (bt176.1.length : Int) then (if (rd bt176.1 0) = (-3) then (if bt183.2 = 14 then (some (bt190.2 == 25)) else (some false)) else (some false)) else (none)) else (some false)) else (some false)) else (some false)) else (some false))))) = some r := hy_ hy170 H
 have Ny170 := A_ hy170
 clear hy170
 obtain ⟨y173, hy173⟩ : ∃ y_ : List (List Int), y_ = (([y170] : List (List Int))) := ⟨_, rfl⟩
 replace H : ((attn_Gather.f k y161 y167 y173).bind fun bt176 => ((attn_Gather.f k (([7] : List Int)) ([] : List (List Int)) ([] : List (List Int))).bind fun bt183 => ((attn_Score.f k (([7] : List Int)) ([] : List Int)).bind fun bt190 => (if t160 = 0 then (if t159 = 98304 then (if bt176.2 = 0 then (if (bt176.1.length : Int) = 1 then (if 0 < (bt176.1.length : Int) then (if (rd bt176.1 0) = (-3) then (if bt183.2 = 14 then (some (bt190.2 == 25)) else (some false)) else (some false)) else (none)) else (some false)) else (some false)) else (some false)) else (some false))))) = some r := hy_ hy173 H
 have Ny173 := A_ hy173
 clear hy173
 replace H := ob_ H
 obtain ⟨⟨t176, t177⟩, A2, H⟩ := H
 try dsimp only at H
 obtain ⟨y180, hy180⟩ : ∃ y_ : List Int, y_ = (([7] : List Int)) := ⟨_, rfl⟩
 replace H : ((attn_Gather.f k y180 ([] : List (List Int)) ([] : List (List Int))).bind fun bt183 => ((attn_Score.f k (([7] : List Int)) ([] : List Int)).bind fun bt190 => (if t160 = 0 then (if t159 = 98304 then (if t177 = 0 then (if (t176.length : Int) = 1 then (if 0 < (t176.length : Int) then (if (rd t176 0) = (-3) then (if bt183.2 = 14 then (some (bt190.2 == 25)) else (some false)) else (some false)) else (none)) else (some false)) else (some false)) else (some false)) else (some false)))) = some r := hy_ hy180 H
 have Ny180 := A_ hy180
 clear hy180
 replace H := ob_ H
 obtain ⟨⟨t183, t184⟩, A3, H⟩ := H
 try dsimp only at H
 obtain ⟨y187, hy187⟩ : ∃ y_ : List Int, y_ = (([7] : List Int)) := ⟨_, rfl⟩
 replace H : ((attn_Score.f k y187 ([] : List Int)).bind fun bt190 => (if t160 = 0 then (if t159 = 98304 then (if t177 = 0 then (if (t176.length : Int) = 1 then (if 0 < (t176.length : Int) then (if (rd t176 0) = (-3) then (if t184 = 14 then (some (bt190.2 == 25)) else (some false)) else (some false)) else (none)) else (some false)) else (some false)) else (some false)) else (some false))) = some r := hy_ hy187 H
 have Ny187 := A_ hy187
 clear hy187
 replace H := ob_ H
 obtain ⟨⟨t190, t191⟩, A4, H⟩ := H
 try dsimp only at H
 by_cases c5 : t160 = 0
 ·rw [if_pos c5] at H
  have c5b0 : (t160 == 0) = true := beq_iff_eq.mpr c5
  have c5b1 : (t160 != 0) = false := bne_eq_false_iff_eq.mpr c5
  clear c5
  by_cases c6 : t159 = 98304
  ·rw [if_pos c6] at H
   have c6b0 : (t159 == 98304) = true := beq_iff_eq.mpr c6
   have c6b1 : (t159 != 98304) = false := bne_eq_false_iff_eq.mpr c6
   clear c6
   by_cases c7 : t177 = 0
   ·rw [if_pos c7] at H
    have c7b0 : (t177 == 0) = true := beq_iff_eq.mpr c7
    have c7b1 : (t177 != 0) = false := bne_eq_false_iff_eq.mpr c7
    clear c7
    by_cases c8 : (t176.length : Int) = 1
    ·rw [if_pos c8] at H
     have c8b0 : ((t176.length : Int) == 1) = true := beq_iff_eq.mpr c8
     have c8b1 : ((t176.length : Int) != 1) = false := bne_eq_false_iff_eq.mpr c8
     clear c8
     by_cases c9 : 0 < (t176.length : Int)
     ·rw [if_pos c9] at H
      have c9b0 : decide (0 < (t176.length : Int)) = true := decide_eq_true c9
      have c9b1 : decide (0 < t176.length) = true := decide_eq_true (by omega)
      clear c9
      by_cases c10 : (rd t176 0) = (-3)
      ·rw [if_pos c10] at H
       have c10b0 : ((rd t176 0) == (-3)) = true := beq_iff_eq.mpr c10
       have c10b1 : ((rd t176 0) != (-3)) = false := bne_eq_false_iff_eq.mpr c10
       clear c10
       by_cases c11 : t184 = 14
       ·rw [if_pos c11] at H
        have c11b0 : (t184 == 14) = true := beq_iff_eq.mpr c11
        have c11b1 : (t184 != 14) = false := bne_eq_false_iff_eq.mpr c11
        clear c11
        obtain rfl := Option.some.inj H
        go_enter Try.func8, Try.ntmps8
        go_wp2_with (first | ((with_reducible refine gate_dst (N := 10) rfl ?_); (try (refine gate_guard (by rfl) ?_; dsimp only)); refine Kd.R_lit (Kd.int .i32) _ 21 ?hg (N := 10) ?hd (xs := ([65536, 65536, 0, 0] : List Int)) (inner := [.int .i32 65536, .int .i32 65536, .int .i32 0, .int .i32 0]) (ok := fun _ => True) (okp := fun _ => True) ?hr ?hp (fun _ hk => hk) trivial (Below.refl _ _) (Nat.le_refl _) (by simp) ?_; (case hd => rfl); (case hg => rfl); (case hr => first | (go_simp; done) | (go_simp; rfl)); (case hp => exact (Reps.one (show Kd.M (Kd.int .i32) _ _ _ 65536 [.int .i32 65536] from rfl) (Reps.one (show Kd.M (Kd.int .i32) _ _ _ 65536 [.int .i32 65536] from rfl) (Reps.one (show Kd.M (Kd.int .i32) _ _ _ 0 [.int .i32 0] from rfl) (Reps.one (show Kd.M (Kd.int .i32) _ _ _ 0 [.int .i32 0] from rfl) (Reps.none _ _)))))); intro v154 w12 ho13 hb hg_ hnew_; clear hg_ hnew_; (first | rw [← Ny153.out] at ho13 | (simp only [Int.reduceToNat] at ho13; rw [← Ny153.out] at ho13)); have HO155 := A_ (Kd.R_lower ho13 (below_size bl_)); replace HB := A_ (below_step bl_ hb); clear hb ho13) | ((with_reducible refine gate_dst (N := 11) rfl ?_); (try (refine gate_guard (by rfl) ?_; dsimp only)); refine Kd.R_lit (Kd.int .i32) _ 21 ?hg (N := 11) ?hd (xs := ([65536, 131072, 5, 5] : List Int)) (inner := [.int .i32 65536, .int .i32 131072, .int .i32 5, .int .i32 5]) (ok := fun _ => True) (okp := fun _ => True) ?hr ?hp (fun _ hk => hk) trivial (Below.refl _ _) (Nat.le_refl _) (by simp) ?_; (case hd => rfl); (case hg => rfl); (case hr => first | (go_simp; done) | (go_simp; rfl)); (case hp => exact (Reps.one (show Kd.M (Kd.int .i32) _ _ _ 65536 [.int .i32 65536] from rfl) (Reps.one (show Kd.M (Kd.int .i32) _ _ _ 131072 [.int .i32 131072] from rfl) (Reps.one (show Kd.M (Kd.int .i32) _ _ _ 5 [.int .i32 5] from rfl) (Reps.one (show Kd.M (Kd.int .i32) _ _ _ 5 [.int .i32 5] from rfl) (Reps.none _ _)))))); intro v157 w14 ho15 hb hg_ hnew_; clear hg_ hnew_; (first | rw [← Ny156.out] at ho15 | (simp only [Int.reduceToNat] at ho15; rw [← Ny156.out] at ho15)); have HO158 := A_ (Kd.R_lower (Kd.R_new' ho15 (Kd.R_lt (mv_ HO155.out))) (below_size bl_)); replace HO155 := A_ (Kd.R_elder' (mv_ HO155.out) (Kd.R_base ho15) hb); replace HB := A_ (below_step bl_ hb); clear hb ho15; obtain ⟨Ao16, co16, eo16⟩ := Kd.R_slice HO155.out; subst eo16; obtain ⟨Ao17, co17, eo17⟩ := Kd.R_slice HO158.out; subst eo17) | (refine goesL_ (some 12) rfl rfl Try.func9 (by kernel_rfl) rfl #[.slice Ao16 y153.length co16, .slice Ao17 y156.length co17] rfl ar_ ?_; (with_reducible refine (attn_Score.calls k _ _ y153 _ _ y156 t159 t160 _ ?side1 ?side2 ?side3 ?side4 A1.out).mono ?_); (case side1 => exact cb_ (Kd.R_reads' HO155.out).2.2); (case side2 => exact (Kd.R_reads' HO155.out).2.1); (case side3 => exact cb_ (Kd.R_reads' HO158.out).2.2); (case side4 => exact (Kd.R_reads' HO158.out).2.1); rintro e w18 ⟨rfl, hb⟩; refine ⟨_, rfl, ?_⟩; replace HO155 := A_ (Kd.R_below (mv_ HO155.out) hb); replace HO158 := A_ (Kd.R_below (mv_ HO158.out) hb); replace HB := A_ (below_step bl_ hb)) | ((with_reducible refine gate_dst (N := 16) rfl ?_); (try (refine gate_guard (by rfl) ?_; dsimp only)); refine Kd.R_lit (Kd.int .i32) _ 21 ?hg (N := 16) ?hd (xs := ([7] : List Int)) (inner := [.int .i32 7]) (ok := fun _ => True) (okp := fun _ => True) ?hr ?hp (fun _ hk => hk) trivial (Below.refl _ _) (Nat.le_refl _) (by simp) ?_; (case hd => rfl); (case hg => rfl); (case hr => first | (go_simp; done) | (go_simp; rfl)); (case hp => exact (Reps.one (show Kd.M (Kd.int .i32) _ _ _ 7 [.int .i32 7] from rfl) (Reps.none _ _))); intro v162 w19 ho20 hb hg_ hnew_; clear hg_ hnew_; (first | rw [← Ny161.out] at ho20 | (simp only [Int.reduceToNat] at ho20; rw [← Ny161.out] at ho20)); have HO163 := A_ (Kd.R_lower (Kd.R_new' (Kd.R_new' ho20 (Kd.R_lt (mv_ HO155.out))) (Kd.R_lt (mv_ HO158.out))) (below_size bl_)); replace HO155 := A_ (Kd.R_elder' (mv_ HO155.out) (Kd.R_base ho20) hb); replace HO158 := A_ (Kd.R_elder' (mv_ HO158.out) (Kd.R_base ho20) hb); replace HB := A_ (below_step bl_ hb); clear hb ho20) | ((with_reducible refine gate_dst (N := 17) rfl ?_); (try (refine gate_guard (by rfl) ?_; dsimp only)); refine Kd.R_lit (Kd.int .i32) _ 21 ?hg (N := 17) ?hd (xs := ([9] : List Int)) (inner := [.int .i32 9]) (ok := fun _ => True) (okp := fun _ => True) ?hr ?hp (fun _ hk => hk) trivial (Below.refl _ _) (Nat.le_refl _) (by simp) ?_; (case hd => rfl); (case hg => rfl); (case hr => first | (go_simp; done) | (go_simp; rfl)); (case hp => exact (Reps.one (show Kd.M (Kd.int .i32) _ _ _ 9 [.int .i32 9] from rfl) (Reps.none _ _))); intro v165 w21 ho22 hb hg_ hnew_; clear hg_ hnew_; (first | rw [← Ny164.out] at ho22 | (simp only [Int.reduceToNat] at ho22; rw [← Ny164.out] at ho22)); have HO166 := A_ (Kd.R_lower (Kd.R_new' (Kd.R_new' (Kd.R_new' ho22 (Kd.R_lt (mv_ HO155.out))) (Kd.R_lt (mv_ HO158.out))) (Kd.R_lt (mv_ HO163.out))) (below_size bl_)); replace HO155 := A_ (Kd.R_elder' (mv_ HO155.out) (Kd.R_base ho22) hb); replace HO158 := A_ (Kd.R_elder' (mv_ HO158.out) (Kd.R_base ho22) hb); replace HO163 := A_ (Kd.R_elder' (mv_ HO163.out) (Kd.R_base ho22) hb); replace HB := A_ (below_step bl_ hb); clear hb ho22; obtain ⟨Ao23, co23, eo23⟩ := Kd.R_slice HO166.out; subst eo23) | ((with_reducible refine gate_dst (N := 18) rfl ?_); (try (refine gate_guard (by rfl) ?_; dsimp only)); refine Kd.N_lit (Kd.slice 21 (Kd.int .i32)) _ 22 ?hg (N' := 18) ?hd (xs := ([y164] : List (List Int))) (inner := [.slice Ao23 y164.length co23]) (ok := (fun k_ => some k_ ≠ (.slice Ao16 y153.length co16 : Value).ownBlock ∧ some k_ ≠ (.slice Ao17 y156.length co17 : Value).ownBlock ∧ some k_ ≠ (v162 : Value).ownBlock)) (okp := (fun k_ => some k_ ≠ (.slice Ao16 y153.length co16 : Value).ownBlock ∧ some k_ ≠ (.slice Ao17 y156.length co17 : Value).ownBlock ∧ some k_ ≠ (v162 : Value).ownBlock)) ?hr ?hp (fun _ hk => hk) ((show ∀ k_, w21.heap.size ≤ k_ → (fun k_ => some k_ ≠ (.slice Ao16 y153.length co16 : Value).ownBlock ∧ some k_ ≠ (.slice Ao17 y156.length co17 : Value).ownBlock ∧ some k_ ≠ (v162 : Value).ownBlock) k_ from fun k_ hk => ⟨Kd.fresh' (Kd.R_lt (mv_ HO155.out)) k_ hk, Kd.fresh' (Kd.R_lt (mv_ HO158.out)) k_ hk, Kd.fresh' (Kd.R_lt (mv_ HO163.out)) k_ hk⟩) _ (Nat.le_refl _)) (Below.refl _ _) (Nat.le_refl _) (by simp) ?_; (case hd => rfl); (case hg => rfl); (case hr => first | (go_simp; done) | (go_simp; rfl)); (case hp => exact (Reps.one (show Kd.FK (Kd.slice 21 (Kd.int .i32)) _ _ y164 [.slice Ao23 y164.length co23] from (Kd.FK_slice_mk (Kd.R_reads' (Kd.R_mono (ok' := (fun k_ => some k_ ≠ (.slice Ao16 y153.length co16 : Value).ownBlock ∧ some k_ ≠ (.slice Ao17 y156.length co17 : Value).ownBlock ∧ some k_ ≠ (v162 : Value).ownBlock)) (HO166.out) (fun k_ hk => ⟨hk.1.1.2, ⟨hk.1.2, hk.2⟩⟩))).2.1 (Kd.R_F (Kd.R_mono (ok' := (fun k_ => some k_ ≠ (.slice Ao16 y153.length co16 : Value).ownBlock ∧ some k_ ≠ (.slice Ao17 y156.length co17 : Value).ownBlock ∧ some k_ ≠ (v162 : Value).ownBlock)) (HO166.out) (fun k_ hk => ⟨hk.1.1.2, ⟨hk.1.2, hk.2⟩⟩))))) (Reps.none _ _))); intro v168 w24 ho25 hb hg_ hnew_; clear hg_ hnew_; (first | rw [← Ny167.out] at ho25 | (simp only [Int.reduceToNat] at ho25; rw [← Ny167.out] at ho25)); replace HO155 := A_ (Kd.R_below (mv_ HO155.out) hb); replace HO158 := A_ (Kd.R_below (mv_ HO158.out) hb); replace HO163 := A_ (Kd.R_below (mv_ HO163.out) hb); have HO169 := A_ (Kd.N_lower ho25 (below_size bl_)); replace HB := A_ (below_step bl_ hb); clear HO166 hb ho25) | ((with_reducible refine gate_dst (N := 19) rfl ?_); (try (refine gate_guard (by rfl) ?_; dsimp only)); refine Kd.R_lit (Kd.int .i32) _ 21 ?hg (N := 19) ?hd (xs := ([(-3)] : List Int)) (inner := [.int .i32 (-3)]) (ok := fun _ => True) (okp := fun _ => True) ?hr ?hp (fun _ hk => hk) trivial (Below.refl _ _) (Nat.le_refl _) (by simp) ?_; (case hd => rfl); (case hg => rfl); (case hr => first | (go_simp; done) | (go_simp; rfl)); (case hp => exact (Reps.one (show Kd.M (Kd.int .i32) _ _ _ (-3) [.int .i32 (-3)] from rfl) (Reps.none _ _))); intro v171 w26 ho27 hb hg_ hnew_; clear hg_ hnew_; (first | rw [← Ny170.out] at ho27 | (simp only [Int.reduceToNat] at ho27; rw [← Ny170.out] at ho27)); replace HO169 := A_ (Kd.N_elder' (mv_ HO169.out) (Kd.R_base ho27) hb); have HO172 := A_ (Kd.R_lower (Kd.R_new' (Kd.R_new' (Kd.R_new' ho27 (Kd.R_lt (mv_ HO155.out))) (Kd.R_lt (mv_ HO158.out))) (Kd.R_lt (mv_ HO163.out))) (below_size bl_)); replace HO155 := A_ (Kd.R_elder' (mv_ HO155.out) (Kd.R_base ho27) hb); replace HO158 := A_ (Kd.R_elder' (mv_ HO158.out) (Kd.R_base ho27) hb); replace HO163 := A_ (Kd.R_elder' (mv_ HO163.out) (Kd.R_base ho27) hb); replace HB := A_ (below_step bl_ hb); clear hb ho27; obtain ⟨Ao28, co28, eo28⟩ := Kd.R_slice HO172.out; subst eo28) | ((with_reducible refine gate_dst (N := 20) rfl ?_); (try (refine gate_guard (by rfl) ?_; dsimp only)); refine Kd.N_lit (Kd.slice 21 (Kd.int .i32)) _ 22 ?hg (N' := 20) ?hd (xs := ([y170] : List (List Int))) (inner := [.slice Ao28 y170.length co28]) (ok := (fun k_ => some k_ ≠ (.slice Ao16 y153.length co16 : Value).ownBlock ∧ some k_ ≠ (.slice Ao17 y156.length co17 : Value).ownBlock ∧ some k_ ≠ (v162 : Value).ownBlock ∧ some k_ ≠ (v168 : Value).ownBlock)) (okp := (fun k_ => some k_ ≠ (.slice Ao16 y153.length co16 : Value).ownBlock ∧ some k_ ≠ (.slice Ao17 y156.length co17 : Value).ownBlock ∧ some k_ ≠ (v162 : Value).ownBlock ∧ some k_ ≠ (v168 : Value).ownBlock)) ?hr ?hp (fun _ hk => hk) ((show ∀ k_, w26.heap.size ≤ k_ → (fun k_ => some k_ ≠ (.slice Ao16 y153.length co16 : Value).ownBlock ∧ some k_ ≠ (.slice Ao17 y156.length co17 : Value).ownBlock ∧ some k_ ≠ (v162 : Value).ownBlock ∧ some k_ ≠ (v168 : Value).ownBlock) k_ from fun k_ hk => ⟨Kd.fresh' (Kd.R_lt (mv_ HO155.out)) k_ hk, Kd.fresh' (Kd.R_lt (mv_ HO158.out)) k_ hk, Kd.fresh' (Kd.R_lt (mv_ HO163.out)) k_ hk, Kd.fresh' (Kd.N_lt (mv_ HO169.out)) k_ hk⟩) _ (Nat.le_refl _)) (Below.refl _ _) (Nat.le_refl _) (by simp) ?_; (case hd => rfl); (case hg => rfl); (case hr => first | (go_simp; done) | (go_simp; rfl)); (case hp => exact (Reps.one (show Kd.FK (Kd.slice 21 (Kd.int .i32)) _ _ y170 [.slice Ao28 y170.length co28] from (Kd.FK_slice_mk (Kd.R_reads' (Kd.R_mono (ok' := (fun k_ => some k_ ≠ (.slice Ao16 y153.length co16 : Value).ownBlock ∧ some k_ ≠ (.slice Ao17 y156.length co17 : Value).ownBlock ∧ some k_ ≠ (v162 : Value).ownBlock ∧ some k_ ≠ (v168 : Value).ownBlock)) (Kd.R_apart' (HO172.out) (Kd.N_typed HO169.out) (by decide)) (fun k_ hk => ⟨hk.1.1.1.2, ⟨hk.1.1.2, ⟨hk.1.2, hk.2⟩⟩⟩))).2.1 (Kd.R_F (Kd.R_mono (ok' := (fun k_ => some k_ ≠ (.slice Ao16 y153.length co16 : Value).ownBlock ∧ some k_ ≠ (.slice Ao17 y156.length co17 : Value).ownBlock ∧ some k_ ≠ (v162 : Value).ownBlock ∧ some k_ ≠ (v168 : Value).ownBlock)) (Kd.R_apart' (HO172.out) (Kd.N_typed HO169.out) (by decide)) (fun k_ hk => ⟨hk.1.1.1.2, ⟨hk.1.1.2, ⟨hk.1.2, hk.2⟩⟩⟩))))) (Reps.none _ _))); intro v174 w29 ho30 hb hg_ hnew_; clear hg_ hnew_; (first | rw [← Ny173.out] at ho30 | (simp only [Int.reduceToNat] at ho30; rw [← Ny173.out] at ho30)); replace HO155 := A_ (Kd.R_below (mv_ HO155.out) hb); replace HO158 := A_ (Kd.R_below (mv_ HO158.out) hb); replace HO163 := A_ (Kd.R_below (mv_ HO163.out) hb); replace HO169 := A_ (Kd.N_elder' (mv_ HO169.out) (Kd.N_base ho30) hb); have HO175 := A_ (Kd.N_lower ho30 (below_size bl_)); replace HB := A_ (below_step bl_ hb); clear HO172 hb ho30; obtain ⟨Ao31, co31, eo31⟩ := Kd.R_slice HO163.out; subst eo31; obtain ⟨Ao32, co32, eo32⟩ := Kd.N_slice HO169.out; subst eo32; obtain ⟨Ao33, co33, eo33⟩ := Kd.N_slice HO175.out; subst eo33) | (refine goesL_ (some 21) rfl rfl Try.func12 (by kernel_rfl) rfl #[.slice Ao31 y161.length co31, .slice Ao32 y167.length co32, .slice Ao33 y173.length co33] rfl ar_ ?_; (with_reducible refine (attn_Gather.calls k _ _ y161 _ _ y167 _ _ y173 t176 t177 _ ?side1 ?side2 ?side3 ?side4 ?side5 ?side6 A2.out).mono ?_); (case side1 => exact cb_ (Kd.R_reads' HO163.out).2.2); (case side2 => exact (Kd.R_reads' HO163.out).2.1); (case side3 => exact cb_ (Kd.N_reads' HO169.out).2.2); (case side4 => exact (Kd.N_reads' HO169.out).2.1); (case side5 => exact cb_ (Kd.N_reads' HO175.out).2.2); (case side6 => exact (Kd.N_reads' HO175.out).2.1); rintro e w34 ⟨v178, rfl, ho0, hb⟩; refine ⟨_, rfl, ?_⟩; replace HO169 := A_ (Kd.N_elder' (mv_ HO169.out) (Kd.R_base ho0) hb); replace HO175 := A_ (Kd.N_elder' (mv_ HO175.out) (Kd.R_base ho0) hb); have HO179 := A_ (Kd.R_lower (Kd.R_new' (Kd.R_new' (Kd.R_new' ho0 (Kd.R_lt (mv_ HO155.out))) (Kd.R_lt (mv_ HO158.out))) (Kd.R_lt (mv_ HO163.out))) (below_size bl_)); replace HO155 := A_ (Kd.R_elder' (mv_ HO155.out) (Kd.R_base ho0) hb); replace HO158 := A_ (Kd.R_elder' (mv_ HO158.out) (Kd.R_base ho0) hb); replace HO163 := A_ (Kd.R_elder' (mv_ HO163.out) (Kd.R_base ho0) hb); replace HB := A_ (below_step bl_ hb)) | ((with_reducible refine gate_dst (N := 25) rfl ?_); (try (refine gate_guard (by rfl) ?_; dsimp only)); refine Kd.R_lit (Kd.int .i32) _ 21 ?hg (N := 25) ?hd (xs := ([7] : List Int)) (inner := [.int .i32 7]) (ok := fun _ => True) (okp := fun _ => True) ?hr ?hp (fun _ hk => hk) trivial (Below.refl _ _) (Nat.le_refl _) (by simp) ?_; (case hd => rfl); (case hg => rfl); (case hr => first | (go_simp; done) | (go_simp; rfl)); (case hp => exact (Reps.one (show Kd.M (Kd.int .i32) _ _ _ 7 [.int .i32 7] from rfl) (Reps.none _ _))); intro v181 w35 ho36 hb hg_ hnew_; clear hg_ hnew_; (first | rw [← Ny180.out] at ho36 | (simp only [Int.reduceToNat] at ho36; rw [← Ny180.out] at ho36)); replace HO169 := A_ (Kd.N_elder' (mv_ HO169.out) (Kd.R_base ho36) hb); replace HO175 := A_ (Kd.N_elder' (mv_ HO175.out) (Kd.R_base ho36) hb); have HO182 := A_ (Kd.R_lower (Kd.R_new' (Kd.R_new' (Kd.R_new' (Kd.R_new' ho36 (Kd.R_lt (mv_ HO155.out))) (Kd.R_lt (mv_ HO158.out))) (Kd.R_lt (mv_ HO163.out))) (Kd.R_lt (mv_ HO179.out))) (below_size bl_)); replace HO155 := A_ (Kd.R_elder' (mv_ HO155.out) (Kd.R_base ho36) hb); replace HO158 := A_ (Kd.R_elder' (mv_ HO158.out) (Kd.R_base ho36) hb); replace HO163 := A_ (Kd.R_elder' (mv_ HO163.out) (Kd.R_base ho36) hb); replace HO179 := A_ (Kd.R_elder' (mv_ HO179.out) (Kd.R_base ho36) hb); replace HB := A_ (below_step bl_ hb); clear hb ho36; obtain ⟨Ao37, co37, eo37⟩ := Kd.R_slice HO182.out; subst eo37) | (refine goesL_ (some 26) rfl rfl Try.func12 (by kernel_rfl) rfl #[.slice Ao37 y180.length co37, .slice none 0 0, .slice none 0 0] rfl ar_ ?_; (refine (attn_Gather.calls k _ _ y180 _ _ ([] : List (List Int)) _ _ ([] : List (List Int)) t183 t184 _ ?side1 ?side2 ?side3 ?side4 ?side5 ?side6 A3.out).mono ?_); (case side1 => exact cb_ (Kd.R_reads' HO182.out).2.2); (case side2 => exact (Kd.R_reads' HO182.out).2.1); (case side3 => exact Kd.C_nil _ _); (case side4 => exact Nat.le_refl _); (case side5 => exact Kd.C_nil _ _); (case side6 => exact Nat.le_refl _); rintro e w38 ⟨v185, rfl, ho0, hb⟩; refine ⟨_, rfl, ?_⟩; replace HO169 := A_ (Kd.N_elder' (mv_ HO169.out) (Kd.R_base ho0) hb); replace HO175 := A_ (Kd.N_elder' (mv_ HO175.out) (Kd.R_base ho0) hb); have HO186 := A_ (Kd.R_lower (Kd.R_new' (Kd.R_new' (Kd.R_new' (Kd.R_new' (Kd.R_new' ho0 (Kd.R_lt (mv_ HO155.out))) (Kd.R_lt (mv_ HO158.out))) (Kd.R_lt (mv_ HO163.out))) (Kd.R_lt (mv_ HO179.out))) (Kd.R_lt (mv_ HO182.out))) (below_size bl_)); replace HO155 := A_ (Kd.R_elder' (mv_ HO155.out) (Kd.R_base ho0) hb); replace HO158 := A_ (Kd.R_elder' (mv_ HO158.out) (Kd.R_base ho0) hb); replace HO163 := A_ (Kd.R_elder' (mv_ HO163.out) (Kd.R_base ho0) hb); replace HO179 := A_ (Kd.R_elder' (mv_ HO179.out) (Kd.R_base ho0) hb); replace HO182 := A_ (Kd.R_elder' (mv_ HO182.out) (Kd.R_base ho0) hb); replace HB := A_ (below_step bl_ hb)) | ((with_reducible refine gate_dst (N := 30) rfl ?_); (try (refine gate_guard (by rfl) ?_; dsimp only)); refine Kd.R_lit (Kd.int .i32) _ 21 ?hg (N := 30) ?hd (xs := ([7] : List Int)) (inner := [.int .i32 7]) (ok := fun _ => True) (okp := fun _ => True) ?hr ?hp (fun _ hk => hk) trivial (Below.refl _ _) (Nat.le_refl _) (by simp) ?_; (case hd => rfl); (case hg => rfl); (case hr => first | (go_simp; done) | (go_simp; rfl)); (case hp => exact (Reps.one (show Kd.M (Kd.int .i32) _ _ _ 7 [.int .i32 7] from rfl) (Reps.none _ _))); intro v188 w39 ho40 hb hg_ hnew_; clear hg_ hnew_; (first | rw [← Ny187.out] at ho40 | (simp only [Int.reduceToNat] at ho40; rw [← Ny187.out] at ho40)); replace HO169 := A_ (Kd.N_elder' (mv_ HO169.out) (Kd.R_base ho40) hb); replace HO175 := A_ (Kd.N_elder' (mv_ HO175.out) (Kd.R_base ho40) hb); have HO189 := A_ (Kd.R_lower (Kd.R_new' (Kd.R_new' (Kd.R_new' (Kd.R_new' (Kd.R_new' (Kd.R_new' ho40 (Kd.R_lt (mv_ HO155.out))) (Kd.R_lt (mv_ HO158.out))) (Kd.R_lt (mv_ HO163.out))) (Kd.R_lt (mv_ HO179.out))) (Kd.R_lt (mv_ HO182.out))) (Kd.R_lt (mv_ HO186.out))) (below_size bl_)); replace HO155 := A_ (Kd.R_elder' (mv_ HO155.out) (Kd.R_base ho40) hb); replace HO158 := A_ (Kd.R_elder' (mv_ HO158.out) (Kd.R_base ho40) hb); replace HO163 := A_ (Kd.R_elder' (mv_ HO163.out) (Kd.R_base ho40) hb); replace HO179 := A_ (Kd.R_elder' (mv_ HO179.out) (Kd.R_base ho40) hb); replace HO182 := A_ (Kd.R_elder' (mv_ HO182.out) (Kd.R_base ho40) hb); replace HO186 := A_ (Kd.R_elder' (mv_ HO186.out) (Kd.R_base ho40) hb); replace HB := A_ (below_step bl_ hb); clear hb ho40; obtain ⟨Ao41, co41, eo41⟩ := Kd.R_slice HO189.out; subst eo41) | (refine goesL_ (some 31) rfl rfl Try.func9 (by kernel_rfl) rfl #[.slice Ao41 y187.length co41, .slice none 0 0] rfl ar_ ?_; (refine (attn_Score.calls k _ _ y187 _ _ ([] : List Int) t190 t191 _ ?side1 ?side2 ?side3 ?side4 A4.out).mono ?_); (case side1 => exact cb_ (Kd.R_reads' HO189.out).2.2); (case side2 => exact (Kd.R_reads' HO189.out).2.1); (case side3 => exact Kd.C_nil _ _); (case side4 => exact Nat.le_refl _); rintro e w42 ⟨rfl, hb⟩; refine ⟨_, rfl, ?_⟩; replace HO155 := A_ (Kd.R_below (mv_ HO155.out) hb); replace HO158 := A_ (Kd.R_below (mv_ HO158.out) hb); replace HO163 := A_ (Kd.R_below (mv_ HO163.out) hb); replace HO169 := A_ (Kd.N_below (mv_ HO169.out) hb); replace HO175 := A_ (Kd.N_below (mv_ HO175.out) hb); replace HO179 := A_ (Kd.R_below (mv_ HO179.out) hb); replace HO182 := A_ (Kd.R_below (mv_ HO182.out) hb); replace HO186 := A_ (Kd.R_below (mv_ HO186.out) hb); replace HO189 := A_ (Kd.R_below (mv_ HO189.out) hb); replace HB := A_ (below_step bl_ hb); obtain ⟨Ao43, co43, eo43⟩ := Kd.R_slice HO179.out; subst eo43; have p192 : 0 ≤ (0 : Int) := (by omega); have q192 : 0 < (t176.length : Int) := od_; obtain ⟨ad192, e192, hx192_0⟩ := Kd.at_int (Kd.R_reads' HO179.out).2.2 0 p192 q192; cases e192; have qi192 : (0 < t176.length) = True := eq_true (by omega); (try rw [show ((0 : Int)).toNat = 0 from rfl] at hx192_0); (try rw [Addr.add_zero'] at hx192_0); replace p192 := eq_true p192; replace q192 := eq_true q192))
        go_ret
        exact ⟨ew_, bl_⟩
       ·rw [if_neg c11] at H
        exact absurd H (by rw [hr_.out]; simp)
      ·rw [if_neg c10] at H
       exact absurd H (by rw [hr_.out]; simp)
     ·rw [if_neg c9] at H
      exact absurd H (by rw [hr_.out]; simp)
    ·rw [if_neg c8] at H
     exact absurd H (by rw [hr_.out]; simp)
   ·rw [if_neg c7] at H
    exact absurd H (by rw [hr_.out]; simp)
  ·rw [if_neg c6] at H
   exact absurd H (by rw [hr_.out]; simp)
 ·rw [if_neg c5] at H
  exact absurd H (by rw [hr_.out]; simp)
mutual
def credenzalaw14_light.l0 : Nat → List (List (List Int)) → Int → Int → Option (Bool)
 | 0, _, _, _ => none
 | k + 1, x7, x8, x9 => if x9 < x8 then (if 0 ≤ x9 then (if x9 < (x7.length : Int) then (if ((rd_L12 x7 x9).length : Int) > 40 then (some false) else (credenzalaw14_light.l1 k x7 x8 x9 (rd_L12 x7 x9) ((rd_L12 x7 x9).length : Int) 0)) else (none)) else (none)) else (some true)
def credenzalaw14_light.l1 : Nat → List (List (List Int)) → Int → Int → List (List Int) → Int → Int → Option (Bool)
 | 0, _, _, _, _, _, _ => none
 | k + 1, x7, x8, x9, x16, x17, x18 => if x18 < x17 then (if 0 ≤ x18 then (if x18 < (x16.length : Int) then (if ((rd_L11 x16 x18).length : Int) > 40 then (some false) else (credenzalaw14_light.l1 k x7 x8 x9 x16 x17 (wrap64 (x18 + 1)))) else (none)) else (none)) else (credenzalaw14_light.l0 k x7 x8 (wrap64 (x9 + 1)))
end
def credenzalaw14_light.f (k : Nat) (l0 : List (List (List Int))) : Option (Bool) := credenzalaw14_light.l0 k l0 (l0.length : Int) 0
theorem credenzalaw14_light.mono_l : ∀ k, (∀ y0 y1 y2, LeO (credenzalaw14_light.l0 k y0 y1 y2) (credenzalaw14_light.l0 (k + 1) y0 y1 y2)) ∧ (∀ y0 y1 y2 y3 y4 y5, LeO (credenzalaw14_light.l1 k y0 y1 y2 y3 y4 y5) (credenzalaw14_light.l1 (k + 1) y0 y1 y2 y3 y4 y5))
 | 0 => ⟨fun _ _ _ r h => by simp [credenzalaw14_light.l0] at h, fun _ _ _ _ _ _ r h => by simp [credenzalaw14_light.l1] at h⟩
 | k + 1 => by
  obtain ⟨ih0, ih1⟩ := credenzalaw14_light.mono_l k
  refine ⟨?_, ?_⟩
  ·intro y0 y1 y2
   unfold credenzalaw14_light.l0
   repeat' with_reducible first | apply ih0 | apply ih1 | apply LeO.refl | apply LeO.none | refine LeO.ite ?_ ?_ | refine LeO.bind ?_ (fun _ => ?_)
  ·intro y0 y1 y2 y3 y4 y5
   unfold credenzalaw14_light.l1
   repeat' with_reducible first | apply ih0 | apply ih1 | apply LeO.refl | apply LeO.none | refine LeO.ite ?_ ?_ | refine LeO.bind ?_ (fun _ => ?_)
theorem credenzalaw14_light.mono : ∀ a0 k, LeO (credenzalaw14_light.f k a0) (credenzalaw14_light.f (k + 1) a0) := by
 intro a0 k
 obtain ⟨ih0, ih1⟩ := credenzalaw14_light.mono_l k
 unfold credenzalaw14_light.f
 repeat' with_reducible first | apply ih0 | apply ih1 | apply LeO.refl | apply LeO.none | refine LeO.ite ?_ ?_ | refine LeO.bind ?_ (fun _ => ?_)
theorem credenzalaw14_light.calls (k : Nat) (A0 : Option Addr) (c0 : Nat) (l0 : List (List (List Int))) (r : Bool) (w : World) (hr0 : Kd.C (Kd.slice 22 (Kd.slice 21 (Kd.int .i32))) w A0 l0.length l0) (hc0 : l0.length ≤ c0) (h : credenzalaw14_light.f k l0 = some r) :
  Calls Try.prog 11 #[.slice A0 l0.length c0] w fun e w' => e = .returned (.bool r) ∧ Drawn0 w w' := by
 have HR0 := A_ hr0
 have HC0 := A_ hc0
 clear hr0 hc0
 have H := h
 unfold credenzalaw14_light.f at H
 clear h
 have H' := A_ H
 clear H
 go_enter Try.func11, Try.ntmps11
 go_wp2
 go_loopg [9] k (fun kq v9 w' => ∃ (x9_1 : Int), v9 = .int .i64 x9_1 ∧ Aside0 (credenzalaw14_light.l0 kq l0 (l0.length : Int) x9_1 = some r) ∧ Aside0 (kq ≤ k) ∧ Drawn0 w w')
 case atStart => exact ⟨(0), rs_, H', ⟨Nat.le_refl _⟩, d0_⟩
 case round =>
  clear H'
  obtain ⟨x9_1, rfl, HA, HK1, ⟨m1, rfl⟩⟩ := hrel
  cases gk with
  | zero => exact absurd HA.out (by simp [credenzalaw14_light.l0])
  | succ k1 =>
   have H := HA.out
   clear HA
   simp only [credenzalaw14_light.l0] at H
   by_cases c2 : x9_1 < (l0.length : Int)
   ·rw [if_pos c2] at H
    have c2b0 : decide (x9_1 < (l0.length : Int)) = true := decide_eq_true c2
    clear c2
    by_cases c3 : 0 ≤ x9_1
    ·rw [if_pos c3] at H
     have c3b0 : decide (0 ≤ x9_1) = true := decide_eq_true c3
     clear c3
     by_cases c4 : x9_1 < (l0.length : Int)
     ·rw [if_pos c4] at H
      have c4b0 : decide (x9_1 < (l0.length : Int)) = true := decide_eq_true c4
      clear c4
      by_cases c5 : ((rd_L12 l0 x9_1).length : Int) > 40
      ·rw [if_pos c5] at H
       have c5b0 : decide (40 < ((rd_L12 l0 x9_1).length : Int)) = true := decide_eq_true c5
       have c5b1 : decide (40 < (rd_L12 l0 x9_1).length) = true := decide_eq_true (by omega)
       clear c5
       obtain rfl := Option.some.inj H
       have p224 : 0 ≤ (x9_1 : Int) := od_
       have q224 : x9_1 < (l0.length : Int) := od_
       obtain ⟨ad224, A224_0, c224_0, e224, hx224_0, hl224_0, hi224_0⟩ := at_L12 HR0.out x9_1 p224 q224
       cases e224
       have HR224_0 := A_ hi224_0
       have HC224_0 := A_ hl224_0
       clear hi224_0 hl224_0
       replace p224 := eq_true p224
       replace q224 := eq_true q224
       go_wp2
       go_ret
       exact ⟨rs_, d0_⟩
      ·rw [if_neg c5] at H
       have c5b0 : decide (40 < ((rd_L12 l0 x9_1).length : Int)) = false := decide_eq_false c5
       have c5b1 : decide (40 < (rd_L12 l0 x9_1).length) = false := decide_eq_false (by omega)
       clear c5
       have H' := A_ H
       clear H
       have p224 : 0 ≤ (x9_1 : Int) := od_
       have q224 : x9_1 < (l0.length : Int) := od_
       obtain ⟨ad224, A224_0, c224_0, e224, hx224_0, hl224_0, hi224_0⟩ := at_L12 HR0.out x9_1 p224 q224
       cases e224
       have HR224_0 := A_ hi224_0
       have HC224_0 := A_ hl224_0
       clear hi224_0 hl224_0
       replace p224 := eq_true p224
       replace q224 := eq_true q224
       go_wp2
       go_loopg [18] k1 (fun kq v18 w' => ∃ (x18_2 : Int), v18 = .int .i64 x18_2 ∧ Aside0 (credenzalaw14_light.l1 kq l0 (l0.length : Int) x9_1 (rd_L12 l0 x9_1) ((rd_L12 l0 x9_1).length : Int) x18_2 = some r) ∧ Aside0 (kq ≤ k1) ∧ Drawn0 w w')
       case atStart => exact ⟨(0), rs_, H', ⟨Nat.le_refl _⟩, d0_⟩
       case round =>
        clear H'
        obtain ⟨x18_2, rfl, HA, HK2, ⟨m2, rfl⟩⟩ := hrel
        cases gk with
        | zero => exact absurd HA.out (by simp [credenzalaw14_light.l1])
        | succ k2 =>
         have H := HA.out
         clear HA
         simp only [credenzalaw14_light.l1] at H
         by_cases c6 : x18_2 < ((rd_L12 l0 x9_1).length : Int)
         ·rw [if_pos c6] at H
          have c6b0 : decide (x18_2 < ((rd_L12 l0 x9_1).length : Int)) = true := decide_eq_true c6
          clear c6
          by_cases c7 : 0 ≤ x18_2
          ·rw [if_pos c7] at H
           have c7b0 : decide (0 ≤ x18_2) = true := decide_eq_true c7
           clear c7
           by_cases c8 : x18_2 < ((rd_L12 l0 x9_1).length : Int)
           ·rw [if_pos c8] at H
            have c8b0 : decide (x18_2 < ((rd_L12 l0 x9_1).length : Int)) = true := decide_eq_true c8
            clear c8
            by_cases c9 : ((rd_L11 (rd_L12 l0 x9_1) x18_2).length : Int) > 40
            ·rw [if_pos c9] at H
             have c9b0 : decide (40 < ((rd_L11 (rd_L12 l0 x9_1) x18_2).length : Int)) = true := decide_eq_true c9
             have c9b1 : decide (40 < (rd_L11 (rd_L12 l0 x9_1) x18_2).length) = true := decide_eq_true (by omega)
             clear c9
             obtain rfl := Option.some.inj H
             have p225 : 0 ≤ (x18_2 : Int) := od_
             have q225 : x18_2 < ((rd_L12 l0 x9_1).length : Int) := od_
             obtain ⟨ad225, A225_0, c225_0, e225, hx225_0, hl225_0, hi225_0⟩ := at_L11 HR224_0.out x18_2 p225 q225
             cases e225
             have HR225_0 := A_ hi225_0
             have HC225_0 := A_ hl225_0
             clear hi225_0 hl225_0
             replace p225 := eq_true p225
             replace q225 := eq_true q225
             go_wp2
             go_ret
             exact ⟨rs_, d0_⟩
            ·rw [if_neg c9] at H
             have c9b0 : decide (40 < ((rd_L11 (rd_L12 l0 x9_1) x18_2).length : Int)) = false := decide_eq_false c9
             have c9b1 : decide (40 < (rd_L11 (rd_L12 l0 x9_1) x18_2).length) = false := decide_eq_false (by omega)
             clear c9
             have H' := A_ H
             clear H
             have p225 : 0 ≤ (x18_2 : Int) := od_
             have q225 : x18_2 < ((rd_L12 l0 x9_1).length : Int) := od_
             obtain ⟨ad225, A225_0, c225_0, e225, hx225_0, hl225_0, hi225_0⟩ := at_L11 HR224_0.out x18_2 p225 q225
             cases e225
             have HR225_0 := A_ hi225_0
             have HC225_0 := A_ hl225_0
             clear hi225_0 hl225_0
             replace p225 := eq_true p225
             replace q225 := eq_true q225
             go_wp2
             go_roundg k2
             case measure => have := HK1.out; have := HK2.out; omega
             case rel => exact ⟨(wrap64 (x18_2 + 1)), rs_, H', ⟨by have := HK1.out; have := HK2.out; omega⟩, d0_⟩
           ·rw [if_neg c8] at H
            exact absurd H (by simp)
          ·rw [if_neg c7] at H
           exact absurd H (by simp)
         ·rw [if_neg c6] at H
          have c6b0 : decide (x18_2 < ((rd_L12 l0 x9_1).length : Int)) = false := decide_eq_false c6
          clear c6
          have H' := A_ H
          clear H
          go_wp2
          go_roundg k2
          case measure => have := HK1.out; have := HK2.out; omega
          case rel => exact ⟨(wrap64 (x9_1 + 1)), rs_, H', ⟨by have := HK1.out; have := HK2.out; omega⟩, d0_⟩
     ·rw [if_neg c4] at H
      exact absurd H (by simp)
    ·rw [if_neg c3] at H
     exact absurd H (by simp)
   ·rw [if_neg c2] at H
    have c2b0 : decide (x9_1 < (l0.length : Int)) = false := decide_eq_false c2
    clear c2
    obtain rfl := Option.some.inj H
    go_wp2
    go_ret
    exact ⟨rs_, d0_⟩
end Go.Proofs.Yteflolamihhmdaa.Q

namespace Go.Proofs.Yteflolamihhmdaa.Pure
open Go.RowKit Go.Proofs.Yteflolamihhmdaa.Q Go.Proofs.YteflolamihhmdaaW.PrintWords Go.Proofs.YteflolamihhmdaaW.PrintLast
theorem awake14_at : credenzalaw14_awake.f 100 = some true := by kernel_rfl
theorem awake14 {k : Nat} (hk : 100 ≤ k) : credenzalaw14_awake.f k = some true := at_rounds credenzalaw14_awake.mono hk awake14_at
theorem light_l1 (x7 : List (List (List Int))) (x8 x9 : Int) (row : List (List Int)) (hr : row.length ≤ 40) : ∀ (d k p : Nat), p + d = row.length → credenzalaw14_light.l1 (k + d + 1) x7 x8 x9 row (row.length : Int) (p : Int) = some false ∨ credenzalaw14_light.l1 (k + d + 1) x7 x8 x9 row (row.length : Int) (p : Int) = credenzalaw14_light.l0 k x7 x8 (wrap64 (x9 + 1)) := by
 intro d
 induction d with
 | zero =>
  intro k p hp
  exact .inr (by rw [credenzalaw14_light.l1, if_neg (by omega)])
 | succ d ih =>
  intro k p hp
  have hlt : p < row.length := by omega
  rw [show k + (d + 1) + 1 = (k + d + 1) + 1 by omega, credenzalaw14_light.l1, if_pos (by omega), if_pos (by omega), if_pos (by omega), rdL]
  by_cases c : ((rowAt row (p : Int)).length : Int) > 40
  ·exact .inl (by rw [if_pos c])
  ·rw [if_neg c, wnext hlt (by omega)]
   exact ih k (p + 1) (by omega)
theorem light_two (a b : List (List Int)) {k : Nat} (hk : 100 ≤ k) : ∃ r, credenzalaw14_light.f k [a, b] = some r ∧ (r = true → a.length ≤ 40 ∧ b.length ≤ 40) := by
 have f1 : ∀ k, 42 ≤ k → ∃ r, credenzalaw14_light.l0 (k + 1) [a, b] 2 1 = some r ∧ (r = true → b.length ≤ 40) := by
  intro k hk
  have e1 : rd_L12 [a, b] 1 = b := rfl
  rw [credenzalaw14_light.l0, if_pos (by omega), if_pos (by omega), if_pos (by simp), e1]
  by_cases c : (b.length : Int) > 40
  ·exact ⟨false, by rw [if_pos c], by simp⟩
  ·rw [if_neg c]
   obtain ⟨m, rfl⟩ : ∃ m, k = (m + 1) + b.length + 1 := ⟨k - b.length - 2, by omega⟩
   rcases light_l1 [a, b] 2 1 b (by omega) b.length (m + 1) 0 (by omega) with h | h
   ·exact ⟨false, h, by simp⟩
   ·refine ⟨true, h.trans ?_, fun _ => by omega⟩
    rw [show wrap64 ((1 : Int) + 1) = 2 from w64 (by omega) (by omega), credenzalaw14_light.l0, if_neg (by omega)]
 have e0 : rd_L12 [a, b] 0 = a := rfl
 obtain ⟨k, rfl⟩ : ∃ m, k = m + 1 := ⟨k - 1, by omega⟩
 show ∃ r, credenzalaw14_light.l0 (k + 1) [a, b] 2 0 = some r ∧ _
 rw [credenzalaw14_light.l0, if_pos (by omega), if_pos (by omega), if_pos (by simp), e0]
 by_cases c : (a.length : Int) > 40
 ·exact ⟨false, by rw [if_pos c], by simp⟩
 ·rw [if_neg c]
  obtain ⟨m, rfl⟩ : ∃ m, k = (m + 1) + a.length + 1 := ⟨k - a.length - 2, by omega⟩
  rcases light_l1 [a, b] 2 0 a (by omega) a.length (m + 1) 0 (by omega) with h | h
  ·exact ⟨false, h, by simp⟩
  ·obtain ⟨r, hr, hr2⟩ := f1 m (by omega)
   refine ⟨r, (h.trans ?_), fun e => ⟨by omega, hr2 e⟩⟩
   rw [show wrap64 ((0 : Int) + 1) = 1 from w64 (by omega) (by omega)]
   exact hr
theorem same_loop (a b : List Int) (hl : a.length = b.length) (hn : a.length ≤ 1000000) : ∀ (d k p : Nat), p + d = a.length → d < k → ∃ r, credenzaref03_Same.l0 k a b (p : Int) = some r ∧ (r = true ↔ a.drop p = b.drop p) := by
 intro d
 induction d with
 | zero =>
  intro k p hp hk
  obtain ⟨k, rfl⟩ : ∃ m, k = m + 1 := ⟨k - 1, by omega⟩
  refine ⟨true, by rw [credenzaref03_Same.l0, if_neg (by omega)], ?_⟩
  rw [List.drop_eq_nil_of_le (by omega), List.drop_eq_nil_of_le (by omega)]
  simp
 | succ d ih =>
  intro k p hp hk
  obtain ⟨k, rfl⟩ : ∃ m, k = m + 1 := ⟨k - 1, by omega⟩
  have hlt : p < a.length := by omega
  have hlb : p < b.length := by omega
  rw [credenzaref03_Same.l0, if_pos (by omega), if_pos (by omega), if_pos (by omega), drop_rd hlt, drop_rd hlb]
  by_cases c : rd a (p : Int) = rd b (p : Int)
  ·rw [if_pos c, wnext hlt (by omega)]
   obtain ⟨r, h1, h2⟩ := ih k (p + 1) (by omega) (by omega)
   exact ⟨r, h1, h2.trans (by simp [c])⟩
  ·exact ⟨false, by rw [if_neg c], by simp [c]⟩
theorem same_some (a b : List Int) (hn : a.length ≤ 1000000) {k : Nat} (hk : a.length < k) : ∃ r, credenzaref03_Same.f k a b = some r ∧ (r = true ↔ a = b) := by
 unfold credenzaref03_Same.f
 by_cases c : a.length = b.length
 ·rw [if_pos (by omega)]
  have := same_loop a b c hn a.length k 0 (by omega) hk
  simpa using this
 ·exact ⟨false, by rw [if_neg (by omega)], by simp; intro h; exact c (by rw [h])⟩
theorem same_refl (a : List Int) (hn : a.length ≤ 1000000) {k : Nat} (hk : a.length < k) : credenzaref03_Same.f k a a = some true := by
 obtain ⟨r, h1, h2⟩ := same_some a a hn hk
 rw [h1, h2.2 rfl]
theorem gatherR_length {q : List Int} {keys vals : List (List Int)} (hr : Rows q.length vals) : (gatherR q keys vals).length = q.length := mixR_length hr
end Go.Proofs.Yteflolamihhmdaa.Pure

namespace Go.Proofs.Yteflolamihhmdaa.Pure.Pg
open Go.RowKit Go.Proofs.Yteflolamihhmdaa.Q Go.Proofs.YteflolamihhmdaaW.PrintWords Go.Proofs.YteflolamihhmdaaW.PrintLast Go.Proofs.YteflolamihhmdaaW.PrintMore
theorem ref_Gather_loopL (q : List Int) (keys vals : List (List Int)) (h1 : 1 ≤ q.length) (h2 : q.length ≤ 16) (hq : A32 q) (hl : keys.length = vals.length) (hn : keys.length ≤ 1024) (h0 : 0 < keys.length) (hk : Rows q.length keys) (hv : Rows q.length vals) (hak : AA32 keys) (hav : AA32 vals) : ∀ (d k p : Nat), p + d = keys.length → 20000 + d ≤ k → credenzaref14_Gather.l0 k q keys vals ((keys.take p).map (scoreR q)) ((vals.take p).map nars) (p : Int) = some (gatherR q keys vals) := by
 intro d
 induction d with
 | zero =>
  intro k p hp hkk
  obtain ⟨k, rfl⟩ : ∃ m, k = m + 1 := ⟨k - 1, by omega⟩
  have hls : (keys.map (scoreR q)).length = keys.length := List.length_map _
  have hwl := weightsR_length (keys.map (scoreR q))
  have e1 := ref_Weights_some (l := keys.map (scoreR q)) (by omega) (by omega) (scores_a32 q keys) (k := k) (by omega)
  have hm : (q.length + 1) * (vals.length + 2) ≤ 17 * 1026 := Nat.mul_le_mul (by omega) (by omega)
  have e2 := ref_Mix_some (ws := weightsR (keys.map (scoreR q))) (vals := vals) (wide := q.length) weightsR_wb (by have := weightsR_pos (l := keys.map (scoreR q)) (by omega); omega) (by omega) (by omega) (by omega) hv h2 (k := k) (by omega)
  rw [credenzaref14_Gather.l0, if_neg (by omega), List.take_of_length_le (by omega), List.take_of_length_le (by omega), e1, Option.bind_some, e2, Option.bind_some, gatherR]
 | succ d ih =>
  intro k p hp hkk
  obtain ⟨k, rfl⟩ : ∃ m, k = m + 1 := ⟨k - 1, by omega⟩
  have hlt : p < keys.length := by omega
  have hlv : p < vals.length := by omega
  have hrk := hk _ (rowAt_mem hlt)
  have hrv := hv _ (rowAt_mem hlv)
  have e1 := ref_Score_some (q := q) (key := rowAt keys (p : Int)) (k := k) hrk.symm h1 h2 hq (hak _ (rowAt_mem hlt)) (by omega)
  have e2 := ref_Narrow_some' (rowAt vals (p : Int)) (by omega) (hav _ (rowAt_mem hlv)) (k := k) (by omega)
  have e3 : (keys.take p).map (scoreR q) ++ [scoreR q (rowAt keys (p : Int))] = (keys.take (p + 1)).map (scoreR q) := by rw [take_row hlt]; simp
  have e4 : (vals.take p).map nars ++ [nars (rowAt vals (p : Int))] = (vals.take (p + 1)).map nars := by rw [take_row hlv]; simp
  rw [credenzaref14_Gather.l0, if_pos (by omega), if_pos (by omega), rdL, rdL, e1, Option.bind_some, if_pos (by rw [List.length_map, List.length_take]; omega), if_pos (by omega), e2, Option.bind_some, if_pos (by rw [List.length_map, List.length_take]; omega), wnext hlt (by omega), e3, e4]
  exact ih k (p + 1) (by omega) (by omega)
theorem ref_Gather_ev {q : List Int} {keys vals : List (List Int)} (h0 : 0 < keys.length) (hn : keys.length ≤ 1024) (hr : Right q keys vals) (hq : A32 q) (hak : AA32 keys) (hav : AA32 vals) : Ev (fun k => credenzaref14_Gather.f k q keys vals) (gatherR q keys vals) :=
 ⟨22000, fun k hk => ref_Gather_loopL q keys vals hr.2.1 hr.2.2.1 hq hr.1 hn h0 hr.2.2.2.1 hr.2.2.2.2 hak hav keys.length k 0 (by omega) (by omega)⟩
structure Shp (x : S125) (n m : Nat) : Prop where
 ok : pgOk x = true
 tokens : x.f0.f2 = (n : Int)
 dim : x.f0.f3 = (m : Int)
 n1 : 1 ≤ n
 n16 : n ≤ 16
 m1 : 1 ≤ m
 m16 : m ≤ 16
 klen : (pgSrc x).keys.length = n
 vlen : (pgSrc x).vals.length = n
 krow : Rows m (pgSrc x).keys
 vrow : Rows m (pgSrc x).vals
 ka : AA32 (pgSrc x).keys
 va : AA32 (pgSrc x).vals
def Shps (ps : List (List S125)) : Prop := ∀ p ∈ ps, ∃ x n m, p = [x] ∧ Shp x n m
def keysP (ps : List (List S125)) : List (List Int) := attn_keys (ps.map pgSrc1)
def valsP (ps : List (List S125)) : List (List Int) := attn_vals (ps.map pgSrc1)
theorem ps_at {ps : List (List S125)} {i : Nat} (h : i < ps.length) : rdP ps (i : Int) ∈ ps ∧ ps.drop i = rdP ps (i : Int) :: ps.drop (i + 1) ∧ ps.take (i + 1) = ps.take i ++ [rdP ps (i : Int)] := by
 have e : rdP ps (i : Int) = ps[i] := by simp [rdP, List.getD_eq_getElem?_getD, List.getElem?_eq_getElem h]
 rw [e]
 exact ⟨List.getElem_mem h, List.drop_eq_getElem_cons h, List.take_succ_eq_append_getElem h⟩
theorem keysP_snoc (ps : List (List S125)) (x : S125) : keysP (ps ++ [[x]]) = keysP ps ++ (pgSrc x).keys ∧ valsP (ps ++ [[x]]) = valsP ps ++ (pgSrc x).vals := by
 simp [keysP, valsP, attn_keys, attn_vals, pgSrc1]
theorem keysP_cons (ps : List (List S125)) (x : S125) : keysP ([x] :: ps) = (pgSrc x).keys ++ keysP ps ∧ valsP ([x] :: ps) = (pgSrc x).vals ++ valsP ps := by
 simp [keysP, valsP, attn_keys, attn_vals, pgSrc1]
theorem aa_nil : AA32 [] := fun r (h : r ∈ []) => by simp at h
theorem rows_nil (w : Nat) : Rows w [] := fun r (h : r ∈ []) => by simp at h
theorem keysP_len : ∀ (ps : List (List S125)), Shps ps → (keysP ps).length = (valsP ps).length ∧ (keysP ps).length ≤ 16 * ps.length ∧ AA32 (keysP ps) ∧ AA32 (valsP ps)
 | [], _ => ⟨rfl, Nat.zero_le _, aa_nil, aa_nil⟩
 | p :: ps, h => by
  obtain ⟨x, n, m, rfl, hx⟩ := h p List.mem_cons_self
  obtain ⟨i1, i2, i3, i4⟩ := keysP_len ps (fun p hp => h p (List.mem_cons_of_mem _ hp))
  obtain ⟨e1, e2⟩ := keysP_cons ps x
  rw [e1, e2]
  have hk := hx.klen
  have hv := hx.vlen
  have hn := hx.n16
  refine ⟨by simp; omega, by simp; omega, fun r hr => ?_, fun r hr => ?_⟩
  ·rcases List.mem_append.1 hr with hr | hr
   ·exact hx.ka r hr
   ·exact i3 r hr
  ·rcases List.mem_append.1 hr with hr | hr
   ·exact hx.va r hr
   ·exact i4 r hr
def Wide (w : Int) (ps : List (List S125)) : Prop := ∀ p ∈ ps, ∃ x n m, p = [x] ∧ Shp x n m ∧ (m : Int) = w
theorem wide_rows {ps : List (List S125)} (hs : Shps ps) (w : Nat) : Wide (w : Int) ps ↔ Rows w (keysP ps) ∧ Rows w (valsP ps) := by
 induction ps with
 | nil => exact ⟨fun _ => ⟨rows_nil w, rows_nil w⟩, fun _ p (h : p ∈ []) => by simp at h⟩
 | cons p ps ih =>
  obtain ⟨x, n, m, rfl, hx⟩ := hs p List.mem_cons_self
  have ih := ih (fun p hp => hs p (List.mem_cons_of_mem _ hp))
  obtain ⟨e1, e2⟩ := keysP_cons ps x
  rw [e1, e2]
  constructor
  ·intro h
   obtain ⟨x', n', m', hx', hs', hw⟩ := h [x] List.mem_cons_self
   obtain rfl : x = x' := by simpa using hx'
   have hm : m' = w := by omega
   subst hm
   obtain ⟨j1, j2⟩ := ih.1 (fun p hp => h p (List.mem_cons_of_mem _ hp))
   exact ⟨fun r hr => (List.mem_append.1 hr).elim (hs'.krow r) (j1 r), fun r hr => (List.mem_append.1 hr).elim (hs'.vrow r) (j2 r)⟩
  ·rintro ⟨j1, j2⟩ p hp
   rcases List.mem_cons.1 hp with rfl | hp
   ·refine ⟨x, n, m, rfl, hx, ?_⟩
    have h0 : 0 < (pgSrc x).keys.length := by have := hx.klen; have := hx.n1; omega
    have hr := j1 _ (List.mem_append_left _ (List.getElem_mem h0))
    have hr2 := hx.krow _ (List.getElem_mem h0)
    omega
   ·exact ih.2 ⟨fun r hr => j1 r (List.mem_append_right _ hr), fun r hr => j2 r (List.mem_append_right _ hr)⟩ p hp
theorem head_some {x : S125} : page_HeadP.f [x] = some (x.f0.f0, x.f0.f1, x.f0.f2, x.f0.f3, x.f0.f4, x.f0.f5, x.f0.f6) := rfl
def RTail (q : List Int) (keys vals : List (List Int)) (w : Int) : Prop := keys.length = vals.length ∧ 1 ≤ w ∧ w ≤ 16 ∧ (q.length : Int) = w ∧ (∀ r ∈ keys, (r.length : Int) = w) ∧ (∀ r ∈ vals, (r.length : Int) = w)
theorem shaped_ev {l : List (List Int)} (hl : l.length ≤ 1000000) (n : Nat) : ∃ b, Ev (fun k => attn_shaped.f k l (n : Int)) b ∧ (b = true ↔ Rows n l) := by
 obtain ⟨b, h1, h2⟩ := shaped_some l n hl (k := l.length + 1) (by omega)
 exact ⟨b, Ev.of (attn_shaped.mono _ _) h1, h2⟩
theorem rtail_ev {q : List Int} {keys vals : List (List Int)} (hk : keys.length ≤ 1000000) (hv : vals.length ≤ 1000000) {w : Int} (hw : 0 ≤ w) : ∃ e : Int, Ev (fun k => (if (keys.length : Int) = (vals.length : Int) then ((attn_sized.f w).bind fun t127 => (if t127 = true then (if (q.length : Int) = w then ((attn_shaped.f k keys w).bind fun t128 => (if t128 = true then ((attn_shaped.f k vals w).bind fun t129 => (if t129 = true then (some 0) else (some 25))) else (some 25))) else (some 25)) else (some 25))) else (some 25))) e ∧ ((RTail q keys vals w ∧ e = 0) ∨ (¬ RTail q keys vals w ∧ e = 25)) := by
 obtain ⟨n, rfl⟩ := Int.eq_ofNat_of_zero_le hw
 have hrow : ∀ l : List (List Int), Rows n l ↔ ∀ r ∈ l, (r.length : Int) = (n : Int) := fun l => ⟨fun h r hr => by rw [h r hr], fun h r hr => by have := h r hr; omega⟩
 unfold RTail
 rw [← hrow, ← hrow]
 by_cases c1 : keys.length = vals.length
 ·by_cases c2 : 1 ≤ (n : Int) ∧ (n : Int) ≤ 16
  ·have hsz : attn_sized.f (n : Int) = some true := by unfold attn_sized.f; rw [if_pos (by omega)]; simp; omega
   by_cases c3 : (q.length : Int) = (n : Int)
   ·obtain ⟨b1, e1, i1⟩ := shaped_ev hk n
    obtain ⟨b2, e2, i2⟩ := shaped_ev hv n
    cases b1 with
    | false =>
     refine ⟨25, Ev.congr (f := fun k => (attn_shaped.f k keys (n : Int)).bind fun t128 => (if t128 = true then ((attn_shaped.f k vals (n : Int)).bind fun t129 => (if t129 = true then (some 0) else (some 25))) else (some 25))) (fun k => by rw [if_pos (by omega), hsz, Option.bind_some, if_pos rfl, if_pos c3]) (Ev.bind e1 ⟨0, fun k _ => by simp⟩), .inr ⟨fun h => ?_, rfl⟩⟩
     have := i1.2 h.2.2.2.2.1
     cases this
    | true =>
     cases b2 with
     | false =>
      refine ⟨25, Ev.congr (f := fun k => (attn_shaped.f k keys (n : Int)).bind fun t128 => (if t128 = true then ((attn_shaped.f k vals (n : Int)).bind fun t129 => (if t129 = true then (some 0) else (some 25))) else (some 25))) (fun k => by rw [if_pos (by omega), hsz, Option.bind_some, if_pos rfl, if_pos c3]) (Ev.bind e1 (Ev.congr (f := fun k => (attn_shaped.f k vals (n : Int)).bind fun t129 => (if t129 = true then (some 0) else (some 25))) (fun k => by rw [if_pos rfl]) (Ev.bind e2 ⟨0, fun k _ => by simp⟩))), .inr ⟨fun h => ?_, rfl⟩⟩
      have := i2.2 h.2.2.2.2.2
      cases this
     | true =>
      exact ⟨0, Ev.congr (f := fun k => (attn_shaped.f k keys (n : Int)).bind fun t128 => (if t128 = true then ((attn_shaped.f k vals (n : Int)).bind fun t129 => (if t129 = true then (some 0) else (some 25))) else (some 25))) (fun k => by rw [if_pos (by omega), hsz, Option.bind_some, if_pos rfl, if_pos c3]) (Ev.bind e1 (Ev.congr (f := fun k => (attn_shaped.f k vals (n : Int)).bind fun t129 => (if t129 = true then (some 0) else (some 25))) (fun k => by rw [if_pos rfl]) (Ev.bind e2 ⟨0, fun k _ => by simp⟩))), .inl ⟨⟨c1, c2.1, c2.2, c3, i1.1 rfl, i2.1 rfl⟩, rfl⟩⟩
   ·exact ⟨25, ⟨0, fun k _ => by show ite _ _ _ = _; rw [if_pos (by omega), hsz, Option.bind_some, if_pos rfl, if_neg c3]⟩, .inr ⟨fun h => c3 h.2.2.2.1, rfl⟩⟩
  ·have hsz : attn_sized.f (n : Int) = some false := by
    unfold attn_sized.f
    by_cases c : (n : Int) ≥ 1
    ·rw [if_pos c]; simp; omega
    ·rw [if_neg c]
   exact ⟨25, ⟨0, fun k _ => by show ite _ _ _ = _; rw [if_pos (by omega), hsz, Option.bind_some, if_neg (by simp)]⟩, .inr ⟨fun h => c2 ⟨h.2.1, h.2.2.1⟩, rfl⟩⟩
 ·exact ⟨25, ⟨0, fun k _ => by show ite _ _ _ = _; rw [if_neg (by omega)]⟩, .inr ⟨fun h => c1 h.1, rfl⟩⟩
theorem right_l1 {q : List Int} {keys vals : List (List Int)} {ps : List (List S125)} (hs : Shps ps) (hp : ps.length ≤ 1000) {w : Int} {e : Int}
  (ht : Ev (fun k => (if (keys.length : Int) = (vals.length : Int) then ((attn_sized.f w).bind fun t127 => (if t127 = true then (if (q.length : Int) = w then ((attn_shaped.f k keys w).bind fun t128 => (if t128 = true then ((attn_shaped.f k vals w).bind fun t129 => (if t129 = true then (some 0) else (some 25))) else (some 25))) else (some 25)) else (some 25))) else (some 25))) e) :
  ∀ (d i : Nat), i + d = ps.length → ∃ e', Ev (fun k => attn_rightP.l1 k q keys vals w ps (ps.length : Int) (i : Int)) e' ∧ ((Wide w (ps.drop i) ∧ e' = e) ∨ (¬ Wide w (ps.drop i) ∧ e' = 25)) := by
 intro d
 induction d with
 | zero =>
  intro i h
  refine ⟨e, Ev.step (fun k => ?_) ht, .inl ⟨?_, rfl⟩⟩
  ·rw [attn_rightP.l1, if_neg (by omega)]
  ·rw [List.drop_eq_nil_of_le (by omega)]
   exact fun p (h : p ∈ []) => by simp at h
 | succ d ih =>
  intro i h
  have hlt : i < ps.length := by omega
  obtain ⟨hm, hd, -⟩ := ps_at hlt
  obtain ⟨x, n, m, hx, hsh⟩ := hs _ hm
  by_cases c : (m : Int) = w
  ·obtain ⟨e', he, hi⟩ := ih (i + 1) (by omega)
   have hw : Wide w (ps.drop i) ↔ Wide w (ps.drop (i + 1)) := by
    rw [hd]
    exact ⟨fun hh p hp => hh p (List.mem_cons_of_mem _ hp), fun hh p hp => by
     rcases List.mem_cons.1 hp with rfl | hp
     ·exact ⟨x, n, m, hx, hsh, c⟩
     ·exact hh p hp⟩
   rw [hw]
   refine ⟨e', Ev.step (fun k => ?_) he, hi⟩
   rw [attn_rightP.l1, if_pos (by omega), if_pos (by omega), if_pos (by omega), hx, head_some, Option.bind_some, if_pos (by rw [hsh.dim]; exact c), pg_w1 (by omega)]
  ·refine ⟨25, Ev.step (fun k => ?_) (Ev.now _), .inr ⟨fun hh => ?_, rfl⟩⟩
   ·rw [attn_rightP.l1, if_pos (by omega), if_pos (by omega), if_pos (by omega), hx, head_some, Option.bind_some, if_neg (by rw [hsh.dim]; exact c)]
   ·rw [hd] at hh
    obtain ⟨x', n', m', hx', hs', hw⟩ := hh _ List.mem_cons_self
    rw [hx] at hx'
    obtain rfl : x = x' := by simpa using hx'
    have := hsh.dim
    have := hs'.dim
    omega
theorem right_l0 {q : List Int} {keys vals : List (List Int)} {ps : List (List S125)} (hs : Shps ps) (hp : ps.length ≤ 20) (hk : keys.length ≤ 40) {e : Int}
  (he : Ev (fun k => (if ((keys.length + (keysP ps).length : Nat) : Int) = 0 then (some 14) else (if ((keys.length + (keysP ps).length : Nat) : Int) > 1024 then (some 12) else (if (ps.length : Int) > 0 then (if 0 < (ps.length : Int) then ((page_HeadP.f (rdP ps 0)).bind fun bt111 => (attn_rightP.j1 k q ps keys vals bt111.2.2.2.1)) else (none)) else (if 0 < (keys.length : Int) then (attn_rightP.j1 k q ps keys vals ((rd_L11 keys 0).length : Int)) else (none)))))) e) :
  ∀ (d i : Nat), i + d = ps.length → Ev (fun k => attn_rightP.l0 k q ps keys vals ((keys.length + (keysP (ps.take i)).length : Nat) : Int) ps (ps.length : Int) (i : Int)) e := by
 intro d
 induction d with
 | zero =>
  intro i h
  rw [List.take_of_length_le (by omega)]
  refine Ev.step (fun k => ?_) he
  rw [attn_rightP.l0, if_neg (by omega)]
 | succ d ih =>
  intro i h
  have hlt : i < ps.length := by omega
  obtain ⟨hm, -, htk⟩ := ps_at hlt
  obtain ⟨x, n, m, hx, hsh⟩ := hs _ hm
  have ih := ih (i + 1) (by omega)
  have hl := (keysP_len (ps.take i) (fun p hp => hs p (List.mem_of_mem_take hp))).2.1
  have hlt2 : (ps.take i).length ≤ 20 := by rw [List.length_take]; omega
  have hn := hsh.n16
  have e9 : wrap64 (((keys.length + (keysP (ps.take i)).length : Nat) : Int) + x.f0.f2) = ((keys.length + (keysP (ps.take (i + 1))).length : Nat) : Int) := by
   rw [htk, hx, (keysP_snoc _ x).1, List.length_append, hsh.klen, hsh.tokens]
   unfold wrap64
   omega
  refine Ev.step (fun k => ?_) ih
  rw [attn_rightP.l0, if_pos (by omega), if_pos (by omega), if_pos (by omega), hx, head_some, Option.bind_some, pg_w1 (by omega), ← e9]
theorem right_ev {q : List Int} {keys vals : List (List Int)} {ps : List (List S125)} (hs : Shps ps) (hp : ps.length ≤ 20) (hk : keys.length ≤ 40) (hv : vals.length ≤ 40) :
  ∃ e, Ev (fun k => attn_rightP.f k q ps keys vals) e ∧ RightIs q (keysP ps ++ keys) (valsP ps ++ vals) e := by
 obtain ⟨l1, l2, -, -⟩ := keysP_len ps hs
 have hend : ∀ w : Nat, (ps = [] → 0 < keys.length ∧ (w : Int) = ((rowAt keys 0).length : Int)) → (ps ≠ [] → ∃ x n m, rdP ps 0 = [x] ∧ Shp x n m ∧ m = w) → ∃ e, Ev (fun k => attn_rightP.j1 k q ps keys vals (w : Int)) e ∧ ((Right q (keysP ps ++ keys) (valsP ps ++ vals) ∧ e = 0) ∨ (¬ Right q (keysP ps ++ keys) (valsP ps ++ vals) ∧ e = 25)) := by
  intro w h0 h1
  obtain ⟨e, he, hi⟩ := rtail_ev (q := q) (keys := keys) (vals := vals) (by omega) (by omega) (w := (w : Int)) (by omega)
  obtain ⟨e', he', hi'⟩ := right_l1 (q := q) (keys := keys) (vals := vals) (w := (w : Int)) hs (by omega) he ps.length 0 (by omega)
  rw [List.drop_zero] at hi'
  refine ⟨e', Ev.step (fun k => by rw [attn_rightP.j1]; rfl) he', ?_⟩
  have key : Right q (keysP ps ++ keys) (valsP ps ++ vals) ↔ Wide (w : Int) ps ∧ RTail q keys vals (w : Int) := by
   unfold Right RTail
   rw [wide_rows hs]
   constructor
   ·rintro ⟨r1, r2, r3, r4, r5⟩
    have hqw : q.length = w := by
     by_cases hps : ps = []
     ·obtain ⟨hk0, hw⟩ := h0 hps
      have := r4 _ (List.mem_append_right _ (rowAt_mem (l := keys) (t := 0) hk0))
      have e0 : rowAt keys ((0 : Nat) : Int) = rowAt keys 0 := rfl
      rw [e0] at this
      omega
     ·obtain ⟨x, n, m, hx, hsh, rfl⟩ := h1 hps
      have hlt : 0 < ps.length := by
       cases ps with
       | nil => exact absurd rfl hps
       | cons _ _ => simp
      have hcons := (ps_at (ps := ps) (i := 0) hlt).2.1
      rw [List.drop_zero] at hcons
      have e0 : rdP ps ((0 : Nat) : Int) = rdP ps 0 := rfl
      rw [e0, hx] at hcons
      have h00 : 0 < (pgSrc x).keys.length := by have := hsh.klen; have := hsh.n1; omega
      have hmem : (pgSrc x).keys[0] ∈ keysP ps := by
       rw [hcons, (keysP_cons _ x).1]
       exact List.mem_append_left _ (List.getElem_mem h00)
      have a1 := r4 _ (List.mem_append_left _ hmem)
      have a2 := hsh.krow _ (List.getElem_mem h00)
      omega
    refine ⟨⟨fun r hr => by rw [← hqw]; exact r4 r (List.mem_append_left _ hr), fun r hr => by rw [← hqw]; exact r5 r (List.mem_append_left _ hr)⟩, ?_, by omega, by omega, by omega, fun r hr => ?_, fun r hr => ?_⟩
    ·simp only [List.length_append] at r1
     omega
    ·rw [r4 r (List.mem_append_right _ hr), hqw]
    ·rw [r5 r (List.mem_append_right _ hr), hqw]
   ·rintro ⟨⟨w1, w2⟩, t1, t2, t3, t4, t5, t6⟩
    have hqw : q.length = w := by omega
    refine ⟨by simp only [List.length_append]; omega, by omega, by omega, fun r hr => ?_, fun r hr => ?_⟩
    ·rcases List.mem_append.1 hr with hr | hr
     ·rw [w1 r hr, hqw]
     ·have := t5 r hr; omega
    ·rcases List.mem_append.1 hr with hr | hr
     ·rw [w2 r hr, hqw]
     ·have := t6 r hr; omega
  rw [key]
  rcases hi' with ⟨a, rfl⟩ | ⟨a, rfl⟩
  ·rcases hi with ⟨b, rfl⟩ | ⟨b, rfl⟩
   ·exact .inl ⟨⟨a, b⟩, rfl⟩
   ·exact .inr ⟨fun h => b h.2, rfl⟩
  ·exact .inr ⟨fun h => a h.1, rfl⟩
 have htot : (keysP ps ++ keys).length = keys.length + (keysP ps).length := by rw [List.length_append]; omega
 have hfin : ∃ e, Ev (fun k => (if ((keys.length + (keysP ps).length : Nat) : Int) = 0 then (some 14) else (if ((keys.length + (keysP ps).length : Nat) : Int) > 1024 then (some 12) else (if (ps.length : Int) > 0 then (if 0 < (ps.length : Int) then ((page_HeadP.f (rdP ps 0)).bind fun bt111 => (attn_rightP.j1 k q ps keys vals bt111.2.2.2.1)) else (none)) else (if 0 < (keys.length : Int) then (attn_rightP.j1 k q ps keys vals ((rd_L11 keys 0).length : Int)) else (none)))))) e ∧ RightIs q (keysP ps ++ keys) (valsP ps ++ vals) e := by
  unfold RightIs
  by_cases c0 : keys.length + (keysP ps).length = 0
  ·exact ⟨14, ⟨0, fun k _ => by show ite _ _ _ = _; rw [if_pos (by omega)]⟩, .inl ⟨by omega, rfl⟩⟩
  ·by_cases c1 : 1024 < keys.length + (keysP ps).length
   ·exact ⟨12, ⟨0, fun k _ => by show ite _ _ _ = _; rw [if_neg (by omega), if_pos (by omega)]⟩, .inr (.inl ⟨by omega, by omega, rfl⟩)⟩
   ·by_cases cp : ps = []
    ·subst cp
     have hk0 : 0 < keys.length := by
      have : (keysP ([] : List (List S125))).length = 0 := rfl
      omega
     obtain ⟨e, he, hi⟩ := hend (rowAt keys 0).length (fun _ => ⟨hk0, rfl⟩) (fun h => absurd rfl h)
     refine ⟨e, Ev.congr (f := fun k => attn_rightP.j1 k q [] keys vals ((rowAt keys 0).length : Int)) (fun k => ?_) he, ?_⟩
     ·rw [if_neg (by omega), if_neg (by omega), if_neg (by simp), if_pos (by omega)]
      rfl
     ·rcases hi with ⟨a, rfl⟩ | ⟨a, rfl⟩
      ·exact .inr (.inr (.inl ⟨by omega, by omega, a, rfl⟩))
      ·exact .inr (.inr (.inr ⟨by omega, by omega, a, rfl⟩))
    ·have hlt : 0 < ps.length := by
      cases ps with
      | nil => exact absurd rfl cp
      | cons _ _ => simp
     obtain ⟨x, n, m, hx, hsh⟩ := hs _ (ps_at (ps := ps) (i := 0) hlt).1
     have hx0 : rdP ps 0 = [x] := hx
     obtain ⟨e, he, hi⟩ := hend m (fun h => absurd h cp) (fun _ => ⟨x, n, m, hx0, hsh, rfl⟩)
     refine ⟨e, Ev.congr (f := fun k => attn_rightP.j1 k q ps keys vals (m : Int)) (fun k => ?_) he, ?_⟩
     ·rw [if_neg (by omega), if_neg (by omega), if_pos (by omega), if_pos (by omega), hx0, head_some, Option.bind_some]
      simp only [hsh.dim]
     ·rcases hi with ⟨a, rfl⟩ | ⟨a, rfl⟩
      ·exact .inr (.inr (.inl ⟨by omega, by omega, a, rfl⟩))
      ·exact .inr (.inr (.inr ⟨by omega, by omega, a, rfl⟩))
 obtain ⟨e, he, hi⟩ := hfin
 refine ⟨e, Ev.congr (fun k => ?_) (right_l0 hs hp hk he ps.length 0 (by omega)), hi⟩
 rw [attn_rightP.f]
 rfl
theorem all_ok {ps : List (List S125)} (hs : Shps ps) : ps.all pgOk1 = true := by
 rw [List.all_eq_true]
 intro p hp
 obtain ⟨x, n, m, rfl, hsh⟩ := hs p hp
 exact hsh.ok
theorem keys_end (ps : List (List S125)) (keys vals : List (List Int)) : attn_keys (ps.map pgSrc1 ++ [⟨keys, vals⟩]) = keysP ps ++ keys ∧ attn_vals (ps.map pgSrc1 ++ [⟨keys, vals⟩]) = valsP ps ++ vals := by
 simp [keysP, valsP, attn_keys, attn_vals]
theorem fused_ev {q : List Int} {keys vals : List (List Int)} {ps : List (List S125)} (hs : Shps ps) (hp : ps.length ≤ 20) (hk : keys.length ≤ 40) (hv : vals.length ≤ 40) (hq : A32 q) (hak : AA32 keys) (hav : AA32 vals) {e : Int} (hi : RightIs q (keysP ps ++ keys) (valsP ps ++ vals) e) :
  Ev (fun k => attn_FusedP.f k q ps keys vals) (if e = 0 then (gatherR q (keysP ps ++ keys) (valsP ps ++ vals), 0) else ([], e)) := by
 obtain ⟨e', he, hi'⟩ := right_ev (q := q) hs hp hk hv
 obtain rfl : e' = e := hi'.one hi
 obtain ⟨l1, l2, l3, l4⟩ := keysP_len ps hs
 by_cases c : e' = 0
 ·subst c
  rw [if_pos rfl]
  have hr : 0 < (keysP ps ++ keys).length ∧ (keysP ps ++ keys).length ≤ 1024 ∧ Right q (keysP ps ++ keys) (valsP ps ++ vals) := by
   unfold RightIs at hi
   rcases hi with ⟨_, h⟩ | ⟨_, _, h⟩ | ⟨h1, h2, h3, _⟩ | ⟨_, _, _, h⟩
   ·cases h
   ·cases h
   ·exact ⟨h1, h2, h3⟩
   ·cases h
  obtain ⟨r0, r1, hl, r2, r3, hrk, hrv⟩ := hr
  have hkv : keys.length = vals.length := by simp only [List.length_append] at hl; omega
  have haK : AA32 (keysP ps ++ keys) := fun r hr => (List.mem_append.1 hr).elim (l3 r) (hak r)
  have haV : AA32 (valsP ps ++ vals) := fun r hr => (List.mem_append.1 hr).elim (l4 r) (hav r)
  generalize hK : keysP ps ++ keys = K at *
  generalize hV : valsP ps ++ vals = V at *
  have e2 : ∀ k, 1100 < k → (attn_cut.f k q).bind (fun q2 => (attn_scores.l k q2 K []).bind fun sc => (soft_Weights.f k sc).bind fun we => if we.2 = 0 then (attn_gather.l k we.1 V q.length).bind fun r => some (r, (0 : Int)) else some ([], we.2)) = some (gatherR q K V, 0) := by
   intro k hk'
   have hls : (K.map (scoreR q)).length = K.length := List.length_map _
   have hwl := weightsR_length (K.map (scoreR q))
   have e1 := attn_cut_some q (by omega) hq (k := k) (by omega)
   have e2 := scores_some r2 r3 (k := k) (by omega) K [] hrk haK
   rw [List.nil_append] at e2
   have e3 := soft_Weights_some (l := K.map (scoreR q)) (by omega) (by omega) (scores_a32 q K) (k := k) (by omega)
   have e4 := attn_gather_some (ws := weightsR (K.map (scoreR q))) (vals := V) (wide := q.length) (by omega) (by omega) weightsR_wb (by have := weightsR_pos (l := K.map (scoreR q)) (by omega); omega) (fun v hv => ⟨hrv v hv, haV v hv⟩) (k := k) (by omega)
   rw [e1, Option.bind_some, e2, Option.bind_some, e3, Option.bind_some, if_pos rfl, e4, Option.bind_some, gatherR]
  refine Ev.bind he ⟨1101, fun k hk' => ?_⟩
  show ite _ _ _ = _
  rw [if_pos rfl, (keys_end ps keys vals).1, (keys_end ps keys vals).2, hK, hV, if_pos ⟨all_ok hs, by omega, by omega, hkv, r2, by omega⟩]
  exact e2 k hk'
 ·rw [if_neg c]
  exact Ev.bind he ⟨0, fun k _ => by show ite _ _ _ = _; rw [if_neg c]⟩
end Go.Proofs.Yteflolamihhmdaa.Pure.Pg
