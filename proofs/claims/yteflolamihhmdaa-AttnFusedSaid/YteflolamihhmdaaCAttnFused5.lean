/- AttnFused: of any pages and plain tokens a query gathers just what it gathers of what they mean, as lists. (part 5: functions of the program as plain functions, and what is shown of them.) Conditions: as each theorem states; the last one has none. -/
import Derived.Test.YteflolamihhmdaaCAttnFused1
import Derived.Test.YteflolamihhmdaaCAttnFused2
import Derived.Test.YteflolamihhmdaaCAttnFused3
import Derived.Test.YteflolamihhmdaaCAttnFused4
set_option maxHeartbeats 8000000
set_option maxRecDepth 100000
set_option linter.unusedVariables false
set_option linter.unusedSimpArgs false
namespace Go.Proofs.Yteflolamihhmdaa.Q
open Go.RowKit Go.Proofs.YteflolamihhmdaaW.PrintWords Go.Proofs.YteflolamihhmdaaW.PrintLast Go.Proofs.YteflolamihhmdaaW.PrintMore
attribute [local go_sem] max2_int min2_int max_two min_two max_three min_three max_four min_four
mutual
def credenzalaw14_pages.j0 : Nat → Bool → List Int → List (S53) → List (List (List Int)) → List (List (List Int)) → List (List Int) → List (List Int) → Option (List (List S125) × Bool)
 | 0, _, _, _, _, _, _, _ => none
 | k + 1, x30, x424000, x424001, x424002, x424003, x424004, x424005 => if x30 = true then (some (([] : List (List S125)), false)) else (credenzalaw14_pages.l0 k ([] : List (List S125)) x424001 (x424001.length : Int) 0 x424000 x424001 x424002 x424003 x424004 x424005)
def credenzalaw14_pages.l0 : Nat → List (List S125) → List (S53) → Int → Int → List Int → List (S53) → List (List (List Int)) → List (List (List Int)) → List (List Int) → List (List Int) → Option (List (List S125) × Bool)
 | 0, _, _, _, _, _, _, _, _, _, _ => none
 | k + 1, x4, x32, x33, x34, x424000, x424001, x424002, x424003, x424004, x424005 => if x34 < x33 then (if 0 ≤ x34 then (if x34 < (x32.length : Int) then (if x34 < (x424002.length : Int) then (if x34 < (x424003.length : Int) then ((page_Quantize.f k ((rd_T53 x32 x34).f0) ((rd_T53 x32 x34).f1) ((rd_T53 x32 x34).f2) ((rd_T53 x32 x34).f3) ((rd_T53 x32 x34).f4) ((rd_T53 x32 x34).f5) ((rd_T53 x32 x34).f6) (rd_L12 x424002 x34) (rd_L12 x424003 x34)).bind fun bt428 => (if bt428.2 = 0 then (if x4.length < 17592186044416 then (credenzalaw14_pages.l0 k (x4 ++ [bt428.1]) x32 x33 (wrap64 (x34 + 1)) x424000 x424001 x424002 x424003 x424004 x424005) else (none)) else (some (([] : List (List S125)), false)))) else (none)) else (none)) else (none)) else (none)) else (some (x4, true))
end
def credenzalaw14_pages.f (k : Nat) (l0_0 : List Int) (l0_1 : List (S53)) (l0_2 : List (List (List Int))) (l0_3 : List (List (List Int))) (l0_4 : List (List Int)) (l0_5 : List (List Int)) : Option (List (List S125) × Bool) := if (l0_2.length : Int) = (l0_1.length : Int) then (if (l0_3.length : Int) = (l0_1.length : Int) then (credenzalaw14_pages.j0 k (decide ((l0_1.length : Int) > 20)) l0_0 l0_1 l0_2 l0_3 l0_4 l0_5) else (credenzalaw14_pages.j0 k true l0_0 l0_1 l0_2 l0_3 l0_4 l0_5)) else (credenzalaw14_pages.j0 k true l0_0 l0_1 l0_2 l0_3 l0_4 l0_5)
def credenzalaw14_pages.T7 : Bool × List (List Nat × List Nat) := (true, [([], []), ([], []), ([1], [1]), ([], []), ([2, 3], [2, 3]), ([4], [4]), ([], []), ([6], [6]), ([], []), ([7, 8], [7, 8]), ([9], [9]), ([0, 5, 10], [0, 5, 10]), ([11], [11]), ([12], [12]), ([12], [12]), ([13, 11, 0, 1, 2, 3, 4, 5, 6, 7, 8, 9, 10, 11, 12, 13], [13]), ([14, 15, 0, 1, 2, 3, 4, 5, 6, 7, 8, 9, 10, 11, 12, 13, 14, 15], [14])])
def credenzalaw14_pages.B7 : List Nat := [0, 0, 2, 0, 14, 30, 0, 64, 0, 448, 960, 2047, 4095, 8191, 8191, 16383, 65535]
theorem credenzalaw14_pages.tab7 : rtab .any (opsOf Try.f17 7) = credenzalaw14_pages.T7 := by kernel_rfl
theorem credenzalaw14_pages.bits7 : waitsOk credenzalaw14_pages.T7.2 credenzalaw14_pages.B7 = true := by kernel_rfl
theorem credenzalaw14_pages.infoP : (Try.prog.info? 45).map (fun i => (i.zero, i.size, i.bytes)) = some (some (.pointer none), 1, 8) := by kernel_rfl
theorem credenzalaw14_pages.calls (k : Nat) (A0_0 : Option Addr) (c0_0 : Nat) (l0_0 : List Int) (A0_1 : Option Addr) (c0_1 : Nat) (l0_1 : List (S53)) (A0_2 : Option Addr) (c0_2 : Nat) (l0_2 : List (List (List Int))) (A0_3 : Option Addr) (c0_3 : Nat) (l0_3 : List (List (List Int))) (A0_4 : Option Addr) (c0_4 : Nat) (l0_4 : List (List Int)) (A0_5 : Option Addr) (c0_5 : Nat) (l0_5 : List (List Int)) (r1 : List (List S125)) (r2 : Bool) (w : World) (hr0_0 : Kd.C (Kd.int .i32) w A0_0 l0_0.length l0_0) (hc0_0 : l0_0.length ≤ c0_0) (hr0_1 : Kd.C k53 w A0_1 l0_1.length l0_1) (hc0_1 : l0_1.length ≤ c0_1) (hr0_2 : Kd.C (Kd.slice 22 (Kd.slice 21 (Kd.int .i32))) w A0_2 l0_2.length l0_2) (hc0_2 : l0_2.length ≤ c0_2) (hr0_3 : Kd.C (Kd.slice 22 (Kd.slice 21 (Kd.int .i32))) w A0_3 l0_3.length l0_3) (hc0_3 : l0_3.length ≤ c0_3) (hr0_4 : Kd.C (Kd.slice 21 (Kd.int .i32)) w A0_4 l0_4.length l0_4) (hc0_4 : l0_4.length ≤ c0_4) (hr0_5 : Kd.C (Kd.slice 21 (Kd.int .i32)) w A0_5 l0_5.length l0_5) (hc0_5 : l0_5.length ≤ c0_5) (h : credenzalaw14_pages.f k l0_0 l0_1 l0_2 l0_3 l0_4 l0_5 = some (r1, r2)) :
  Calls Try.prog 17 #[.agg #[.slice A0_0 l0_0.length c0_0, .slice A0_1 l0_1.length c0_1, .slice A0_2 l0_2.length c0_2, .slice A0_3 l0_3.length c0_3, .slice A0_4 l0_4.length c0_4, .slice A0_5 l0_5.length c0_5]] w fun e w' => ∃ v0_ : Value, e = .returned (.tuple #[v0_, .bool r2]) ∧ Kd.R (Kd.ptr 125 k125) 45 w' w.heap.size (fun _ => True) v0_ r1 ∧ Below w.heap.size w w' := by
 have hu41 := Try.underlying41
 have hu53 := Try.underlying53
 have HR0_0 := A_ hr0_0
 have HC0_0 := A_ hc0_0
 clear hr0_0 hc0_0
 have HR0_1 := A_ hr0_1
 have HC0_1 := A_ hc0_1
 clear hr0_1 hc0_1
 have HR0_2 := A_ hr0_2
 have HC0_2 := A_ hc0_2
 clear hr0_2 hc0_2
 have HR0_3 := A_ hr0_3
 have HC0_3 := A_ hc0_3
 clear hr0_3 hc0_3
 have HR0_4 := A_ hr0_4
 have HC0_4 := A_ hc0_4
 clear hr0_4 hc0_4
 have HR0_5 := A_ hr0_5
 have HC0_5 := A_ hc0_5
 clear hr0_5 hc0_5
 have HB := A_ (Below.refl w.heap.size w)
 have H : (if (l0_2.length : Int) = (l0_1.length : Int) then (if (l0_3.length : Int) = (l0_1.length : Int) then (credenzalaw14_pages.j0 k (decide ((l0_1.length : Int) > 20)) l0_0 l0_1 l0_2 l0_3 l0_4 l0_5) else (credenzalaw14_pages.j0 k true l0_0 l0_1 l0_2 l0_3 l0_4 l0_5)) else (credenzalaw14_pages.j0 k true l0_0 l0_1 l0_2 l0_3 l0_4 l0_5)) = some (r1, r2) := h
 clear h
 have HC2 := A_ H
 clear H
 go_enter Try.func17, Try.ntmps17
 go_upto_region 1 with (first | ((with_reducible refine gate_dst (N := 1) rfl ?_); (try (refine gate_guard (by rfl) ?_; dsimp only)); refine box_event ?hg (N := 1) ?hd (cs := #[.slice A0_0 l0_0.length c0_0, .slice A0_1 l0_1.length c0_1, .slice A0_2 l0_2.length c0_2, .slice A0_3 l0_3.length c0_3, .slice A0_4 l0_4.length c0_4, .slice A0_5 l0_5.length c0_5]) (t := 41) ?hr ?_; (case hd => rfl); (case hg => rfl); (case hr => first | (go_simp; done) | (go_simp; rfl)); intro gb423 hg w3 hbox hb; have BK423 := A_ hbox; have GW423 := A_ (gw_ w hg); have GE423 := A_ (gw_ w hg); replace HB := A_ (below_step bl_ hb); clear hb hbox hg))
 (try simp only [Act.put, ps_])
 go_cut [30] (fun v30 wc => ∃ (kq : Nat) (x30_1 : Bool), v30 = .bool x30_1 ∧ Aside0 (credenzalaw14_pages.j0 kq x30_1 l0_0 l0_1 l0_2 l0_3 l0_4 l0_5 = some (r1, r2)) ∧ Aside0 (kq ≤ k) ∧ Aside0 (wc.heap[gb423]? = some (.cells #[(.slice A0_0 l0_0.length c0_0), (.slice A0_1 l0_1.length c0_1), (.slice A0_2 l0_2.length c0_2), (.slice A0_3 l0_3.length c0_3), (.slice A0_4 l0_4.length c0_4), (.slice A0_5 l0_5.length c0_5)] 41 (0, 0))) ∧ Aside0 (Below w.heap.size w wc))
 case first =>
  have H := HC2.out
  clear HC2
  by_cases c4 : (l0_2.length : Int) = (l0_1.length : Int)
  ·rw [if_pos c4] at H
   have c4b0 : ((l0_2.length : Int) == (l0_1.length : Int)) = true := beq_iff_eq.mpr c4
   have c4b1 : ((l0_2.length : Int) != (l0_1.length : Int)) = false := bne_eq_false_iff_eq.mpr c4
   have c4b2 : (l0_2.length == l0_1.length) = true := by first | simpa using c4 | (simp at c4 ⊢; omega)
   clear c4
   (first | rw [c4b0] | (simp only [i64_w, i32_w]; rw [c4b0]) | skip)
   by_cases c5 : (l0_3.length : Int) = (l0_1.length : Int)
   ·rw [if_pos c5] at H
    have c5b0 : ((l0_3.length : Int) == (l0_1.length : Int)) = true := beq_iff_eq.mpr c5
    have c5b1 : ((l0_3.length : Int) != (l0_1.length : Int)) = false := bne_eq_false_iff_eq.mpr c5
    have c5b2 : (l0_3.length == l0_1.length) = true := by first | simpa using c5 | (simp at c5 ⊢; omega)
    clear c5
    have H' := A_ H
    clear H
    have ⟨_, _, _, _, _, _, _, _, _, _, _, _⟩ := k6_ BK423.out
    go_wp2
    go_meet
    case rel => exact ⟨_, (decide ((l0_1.length : Int) > 20)), rs_, H', ⟨by first | omega | exact Nat.le_refl _⟩, ⟨mv_ BK423.out⟩, ⟨bl_⟩⟩
   ·rw [if_neg c5] at H
    have c5b0 : ((l0_3.length : Int) == (l0_1.length : Int)) = false := beq_eq_false_iff_ne.mpr c5
    have c5b1 : ((l0_3.length : Int) != (l0_1.length : Int)) = true := bne_iff_ne.mpr c5
    have c5b2 : (l0_3.length == l0_1.length) = false := by first | simpa using c5 | (simp at c5 ⊢; omega)
    have H' := A_ H
    clear H
    have ⟨_, _, _, _, _, _, _, _, _, _, _, _⟩ := k6_ BK423.out
    go_wp2
    go_meet
    case rel => exact ⟨_, (true), rs_, H', ⟨by first | omega | exact Nat.le_refl _⟩, ⟨mv_ BK423.out⟩, ⟨bl_⟩⟩
  ·rw [if_neg c4] at H
   have c4b0 : ((l0_2.length : Int) == (l0_1.length : Int)) = false := beq_eq_false_iff_ne.mpr c4
   have c4b1 : ((l0_2.length : Int) != (l0_1.length : Int)) = true := bne_iff_ne.mpr c4
   have c4b2 : (l0_2.length == l0_1.length) = false := by first | simpa using c4 | (simp at c4 ⊢; omega)
   (first | rw [c4b0] | (simp only [i64_w, i32_w]; rw [c4b0]) | skip)
   have H' := A_ H
   clear H
   have ⟨_, _, _, _, _, _, _, _, _, _, _, _⟩ := k6_ BK423.out
   go_wp2
   go_meet
   case rel => exact ⟨_, (true), rs_, H', ⟨by first | omega | exact Nat.le_refl _⟩, ⟨mv_ BK423.out⟩, ⟨bl_⟩⟩
 case rest =>
  clear HC2
  obtain ⟨kq, x30_1, rfl, HA, HJ1, BK423, HB⟩ := hcut
  cases kq with
  | zero => exact absurd HA.out (by simp [credenzalaw14_pages.j0])
  | succ kj1 =>
   have H := HA.out
   clear HA
   simp only [credenzalaw14_pages.j0] at H
   by_cases c9 : x30_1 = true
   ·subst c9
    replace H : (some (([] : List (List S125)), false)) = some (r1, r2) := by rw [if_pos rfl] at H; exact H
    simp only [Option.some.injEq, Prod.mk.injEq] at H
    obtain ⟨rfl, rfl⟩ := H
    go_wp2
    go_ret2
    exact ⟨_, ew_, nil_, bl_⟩
   ·replace c9 := Bool.eq_false_iff.mpr c9
    subst c9
    replace H : (credenzalaw14_pages.l0 kj1 ([] : List (List S125)) l0_1 (l0_1.length : Int) 0 l0_0 l0_1 l0_2 l0_3 l0_4 l0_5) = some (r1, r2) := by rw [if_neg (show ¬ (false = true) by decide)] at H; exact H
    have H' := A_ H
    clear H
    have ⟨_, _, _, _, _, _, _, _, _, _, _, _⟩ := k6_ BK423.out
    go_wp2
    go_loopg [4, 34] kj1 (fun kq v4 v34 w' => ∃ (x4_2 : List (List S125)) (x34_2 : Int), v34 = .int .i64 x34_2 ∧ Aside0 (credenzalaw14_pages.l0 kq x4_2 l0_1 (l0_1.length : Int) x34_2 l0_0 l0_1 l0_2 l0_3 l0_4 l0_5 = some (r1, r2)) ∧ Aside0 (kq ≤ kj1) ∧ Aside0 (Kd.R (Kd.ptr 125 k125) 45 w' w.heap.size (fun _ => True) v4 x4_2) ∧ Aside0 (w'.heap[gb423]? = some (.cells #[(.slice A0_0 l0_0.length c0_0), (.slice A0_1 l0_1.length c0_1), (.slice A0_2 l0_2.length c0_2), (.slice A0_3 l0_3.length c0_3), (.slice A0_4 l0_4.length c0_4), (.slice A0_5 l0_5.length c0_5)] 41 (0, 0))) ∧ Aside0 (Below w.heap.size w w'))
    case atStart => exact ⟨(([] : List (List S125))), (0), rs_, H', ⟨Nat.le_refl _⟩, ⟨nil_⟩, ⟨mv_ BK423.out⟩, ⟨bl_⟩⟩
    case round =>
     clear H'
     obtain ⟨x4_2, x34_2, rfl, HA, HK2, HO_4, BK423, HB⟩ := hrel
     cases gk with
     | zero => exact absurd HA.out (by simp [credenzalaw14_pages.l0])
     | succ k2 =>
      have H := HA.out
      clear HA
      simp only [credenzalaw14_pages.l0] at H
      by_cases c11 : x34_2 < (l0_1.length : Int)
      ·rw [if_pos c11] at H
       have c11b0 : decide (x34_2 < (l0_1.length : Int)) = true := decide_eq_true c11
       clear c11
       by_cases c12 : 0 ≤ x34_2
       ·rw [if_pos c12] at H
        have c12b0 : decide (0 ≤ x34_2) = true := decide_eq_true c12
        clear c12
        by_cases c13 : x34_2 < (l0_1.length : Int)
        ·rw [if_pos c13] at H
         have c13b0 : decide (x34_2 < (l0_1.length : Int)) = true := decide_eq_true c13
         clear c13
         by_cases c14 : x34_2 < (l0_2.length : Int)
         ·rw [if_pos c14] at H
          have c14b0 : decide (x34_2 < (l0_2.length : Int)) = true := decide_eq_true c14
          clear c14
          by_cases c15 : x34_2 < (l0_3.length : Int)
          ·rw [if_pos c15] at H
           have c15b0 : decide (x34_2 < (l0_3.length : Int)) = true := decide_eq_true c15
           clear c15
           replace H := ob_ H
           obtain ⟨⟨t428, t429⟩, A16, H⟩ := H
           try dsimp only at H
           by_cases c17 : t429 = 0
           ·rw [if_pos c17] at H
            have c17b0 : (t429 == 0) = true := beq_iff_eq.mpr c17
            have c17b1 : (t429 != 0) = false := bne_eq_false_iff_eq.mpr c17
            clear c17
            by_cases c18 : x4_2.length < 17592186044416
            ·rw [if_pos c18] at H
             have LMc18 := A_ c18
             clear c18
             obtain ⟨y430, hy430⟩ : ∃ y_ : List (List S125), y_ = (x4_2 ++ [t428]) := ⟨_, rfl⟩
             replace H : (credenzalaw14_pages.l0 k2 y430 l0_1 (l0_1.length : Int) (wrap64 (x34_2 + 1)) l0_0 l0_1 l0_2 l0_3 l0_4 l0_5) = some (r1, r2) := hy_ hy430 H
             have Ny430 := A_ hy430
             clear hy430
             have H' := A_ H
             clear H
             have p424 : 0 ≤ (x34_2 : Int) := od_
             have q424 : x34_2 < (l0_1.length : Int) := od_
             obtain ⟨ad424, e424, hx424_0, hx424_1, hx424_2, hx424_3, hx424_4, hx424_5, hx424_6⟩ := at_T53 HR0_1.out x34_2 p424 q424
             cases e424
             replace hx424_0 := hc_ HB.out hx424_0
             replace hx424_1 := hc_ HB.out hx424_1
             replace hx424_2 := hc_ HB.out hx424_2
             replace hx424_3 := hc_ HB.out hx424_3
             replace hx424_4 := hc_ HB.out hx424_4
             replace hx424_5 := hc_ HB.out hx424_5
             replace hx424_6 := hc_ HB.out hx424_6
             replace p424 := eq_true p424
             replace q424 := eq_true q424
             try go_wp2_with (first | ((with_reducible refine gate_dst (N := 6) rfl ?_); (try (refine gate_guard (by rfl) ?_; dsimp only)); refine box_event ?hg (N := 6) ?hd (cs := #[.int .i64 0, .int .i64 0, .int .i64 0, .int .i64 0, .int .i64 0, .int .i64 0, .int .i64 0]) (t := 53) ?hr ?_; (case hd => rfl); (case hg => rfl); (case hr => first | (go_simp; done) | (go_simp; rfl)); intro gb425 hg w19 hbox hb; replace HO_4 := A_ (Kd.R_below (mv_ HO_4.out) hb); have BK425 := A_ hbox; have GW425 := A_ (gw_ w hg); have GE425 := A_ (gw_ w hg); have NB423_425 := A_ ((by rw [hg]; exact Nat.ne_of_lt (lt_ BK423.out) : gb423 ≠ gb425)); have NB425_423 := A_ ((by rw [hg]; exact Nat.ne_of_gt (lt_ BK423.out) : gb425 ≠ gb423)); replace BK423 := A_ (bb_ BK423.out hb); replace HB := A_ (below_step bl_ hb); clear hb hbox hg; have hnb20 := NB425_423.out; have hnc20 := NB423_425.out; have ⟨_, _, _, _, _, _, _, _, _, _, _, _, _, _⟩ := k7_ BK425.out))
             have n0_ : Aside0 (Kd.R (Kd.ptr 125 k125) 45 (((((((w19.setCell ⟨gb425, 0, none⟩ (.int .i64 ((rd_T53 l0_1 x34_2).f0))).setCell ⟨gb425, 1, none⟩ (.int .i64 ((rd_T53 l0_1 x34_2).f1))).setCell ⟨gb425, 2, none⟩ (.int .i64 ((rd_T53 l0_1 x34_2).f2))).setCell ⟨gb425, 3, none⟩ (.int .i64 ((rd_T53 l0_1 x34_2).f3))).setCell ⟨gb425, 4, none⟩ (.int .i64 ((rd_T53 l0_1 x34_2).f4))).setCell ⟨gb425, 5, none⟩ (.int .i64 ((rd_T53 l0_1 x34_2).f5))).setCell ⟨gb425, 6, none⟩ (.int .i64 ((rd_T53 l0_1 x34_2).f6))) w.heap.size (fun _ => True) u4 x4_2) := ⟨by (with_reducible repeat (first | apply Kd.R_alloc | apply Kd.R_drewN | apply Kd.R_drew)); exact Kd.R_mono (Kd.R_far (Kd.R_far (Kd.R_far (Kd.R_far (Kd.R_far (Kd.R_far (Kd.R_far (Kd.R_types HO_4.out BK425.out (by decide)) (fun _ hk => hk.2) (.int .i64 ((rd_T53 l0_1 x34_2).f0))) (fun _ hk => hk.2) (.int .i64 ((rd_T53 l0_1 x34_2).f1))) (fun _ hk => hk.2) (.int .i64 ((rd_T53 l0_1 x34_2).f2))) (fun _ hk => hk.2) (.int .i64 ((rd_T53 l0_1 x34_2).f3))) (fun _ hk => hk.2) (.int .i64 ((rd_T53 l0_1 x34_2).f4))) (fun _ hk => hk.2) (.int .i64 ((rd_T53 l0_1 x34_2).f5))) (fun _ hk => hk.2) (.int .i64 ((rd_T53 l0_1 x34_2).f6))) (fun _ hk => trivial)⟩
             have n1_ : Aside0 ((((((((w19.setCell ⟨gb425, 0, none⟩ (.int .i64 ((rd_T53 l0_1 x34_2).f0))).setCell ⟨gb425, 1, none⟩ (.int .i64 ((rd_T53 l0_1 x34_2).f1))).setCell ⟨gb425, 2, none⟩ (.int .i64 ((rd_T53 l0_1 x34_2).f2))).setCell ⟨gb425, 3, none⟩ (.int .i64 ((rd_T53 l0_1 x34_2).f3))).setCell ⟨gb425, 4, none⟩ (.int .i64 ((rd_T53 l0_1 x34_2).f4))).setCell ⟨gb425, 5, none⟩ (.int .i64 ((rd_T53 l0_1 x34_2).f5))).setCell ⟨gb425, 6, none⟩ (.int .i64 ((rd_T53 l0_1 x34_2).f6))).heap[gb423]? = some (.cells #[.slice A0_0 l0_0.length c0_0, .slice (some ad424) l0_1.length c0_1, .slice A0_2 l0_2.length c0_2, .slice A0_3 l0_3.length c0_3, .slice A0_4 l0_4.length c0_4, .slice A0_5 l0_5.length c0_5] 41 (0, 0))) := ⟨ft_ BK423.out NB423_425.out⟩
             have n2_ : Aside0 ((((((((w19.setCell ⟨gb425, 0, none⟩ (.int .i64 ((rd_T53 l0_1 x34_2).f0))).setCell ⟨gb425, 1, none⟩ (.int .i64 ((rd_T53 l0_1 x34_2).f1))).setCell ⟨gb425, 2, none⟩ (.int .i64 ((rd_T53 l0_1 x34_2).f2))).setCell ⟨gb425, 3, none⟩ (.int .i64 ((rd_T53 l0_1 x34_2).f3))).setCell ⟨gb425, 4, none⟩ (.int .i64 ((rd_T53 l0_1 x34_2).f4))).setCell ⟨gb425, 5, none⟩ (.int .i64 ((rd_T53 l0_1 x34_2).f5))).setCell ⟨gb425, 6, none⟩ (.int .i64 ((rd_T53 l0_1 x34_2).f6))).heap[gb425]? = some (.cells #[.int .i64 ((rd_T53 l0_1 x34_2).f0), .int .i64 ((rd_T53 l0_1 x34_2).f1), .int .i64 ((rd_T53 l0_1 x34_2).f2), .int .i64 ((rd_T53 l0_1 x34_2).f3), .int .i64 ((rd_T53 l0_1 x34_2).f4), .int .i64 ((rd_T53 l0_1 x34_2).f5), .int .i64 ((rd_T53 l0_1 x34_2).f6)] 53 (0, 0))) := ⟨by (with_reducible repeat (first | apply bn_ | apply bd_ | apply ba_)); refine blk_put (cs := #[.int .i64 ((rd_T53 l0_1 x34_2).f0), .int .i64 ((rd_T53 l0_1 x34_2).f1), .int .i64 ((rd_T53 l0_1 x34_2).f2), .int .i64 ((rd_T53 l0_1 x34_2).f3), .int .i64 ((rd_T53 l0_1 x34_2).f4), .int .i64 ((rd_T53 l0_1 x34_2).f5), .int .i64 0]) ?_ 6 _ rfl; (with_reducible repeat (first | apply bn_ | apply bd_ | apply ba_)); refine blk_put (cs := #[.int .i64 ((rd_T53 l0_1 x34_2).f0), .int .i64 ((rd_T53 l0_1 x34_2).f1), .int .i64 ((rd_T53 l0_1 x34_2).f2), .int .i64 ((rd_T53 l0_1 x34_2).f3), .int .i64 ((rd_T53 l0_1 x34_2).f4), .int .i64 0, .int .i64 0]) ?_ 5 _ rfl; (with_reducible repeat (first | apply bn_ | apply bd_ | apply ba_)); refine blk_put (cs := #[.int .i64 ((rd_T53 l0_1 x34_2).f0), .int .i64 ((rd_T53 l0_1 x34_2).f1), .int .i64 ((rd_T53 l0_1 x34_2).f2), .int .i64 ((rd_T53 l0_1 x34_2).f3), .int .i64 0, .int .i64 0, .int .i64 0]) ?_ 4 _ rfl; (with_reducible repeat (first | apply bn_ | apply bd_ | apply ba_)); refine blk_put (cs := #[.int .i64 ((rd_T53 l0_1 x34_2).f0), .int .i64 ((rd_T53 l0_1 x34_2).f1), .int .i64 ((rd_T53 l0_1 x34_2).f2), .int .i64 0, .int .i64 0, .int .i64 0, .int .i64 0]) ?_ 3 _ rfl; (with_reducible repeat (first | apply bn_ | apply bd_ | apply ba_)); refine blk_put (cs := #[.int .i64 ((rd_T53 l0_1 x34_2).f0), .int .i64 ((rd_T53 l0_1 x34_2).f1), .int .i64 0, .int .i64 0, .int .i64 0, .int .i64 0, .int .i64 0]) ?_ 2 _ rfl; (with_reducible repeat (first | apply bn_ | apply bd_ | apply ba_)); refine blk_put (cs := #[.int .i64 ((rd_T53 l0_1 x34_2).f0), .int .i64 0, .int .i64 0, .int .i64 0, .int .i64 0, .int .i64 0, .int .i64 0]) ?_ 1 _ rfl; (with_reducible repeat (first | apply bn_ | apply bd_ | apply ba_)); refine blk_put (cs := #[.int .i64 0, .int .i64 0, .int .i64 0, .int .i64 0, .int .i64 0, .int .i64 0, .int .i64 0]) ?_ 0 _ rfl; (with_reducible repeat (first | apply bn_ | apply bd_ | apply ba_)); exact BK425.out⟩
             have n3_ : Aside0 (Below w.heap.size w (((((((w19.setCell ⟨gb425, 0, none⟩ (.int .i64 ((rd_T53 l0_1 x34_2).f0))).setCell ⟨gb425, 1, none⟩ (.int .i64 ((rd_T53 l0_1 x34_2).f1))).setCell ⟨gb425, 2, none⟩ (.int .i64 ((rd_T53 l0_1 x34_2).f2))).setCell ⟨gb425, 3, none⟩ (.int .i64 ((rd_T53 l0_1 x34_2).f3))).setCell ⟨gb425, 4, none⟩ (.int .i64 ((rd_T53 l0_1 x34_2).f4))).setCell ⟨gb425, 5, none⟩ (.int .i64 ((rd_T53 l0_1 x34_2).f5))).setCell ⟨gb425, 6, none⟩ (.int .i64 ((rd_T53 l0_1 x34_2).f6)))) := ⟨bl_⟩
             generalize (((((((w19.setCell ⟨gb425, 0, none⟩ (.int .i64 ((rd_T53 l0_1 x34_2).f0))).setCell ⟨gb425, 1, none⟩ (.int .i64 ((rd_T53 l0_1 x34_2).f1))).setCell ⟨gb425, 2, none⟩ (.int .i64 ((rd_T53 l0_1 x34_2).f2))).setCell ⟨gb425, 3, none⟩ (.int .i64 ((rd_T53 l0_1 x34_2).f3))).setCell ⟨gb425, 4, none⟩ (.int .i64 ((rd_T53 l0_1 x34_2).f4))).setCell ⟨gb425, 5, none⟩ (.int .i64 ((rd_T53 l0_1 x34_2).f5))).setCell ⟨gb425, 6, none⟩ (.int .i64 ((rd_T53 l0_1 x34_2).f6))) = w22 at n0_ n1_ n2_ n3_ ⊢
             have HO_4 := n0_
             have BK423 := n1_
             have BK425 := n2_
             have HB := n3_
             clear n0_ n1_ n2_ n3_
             replace HO_4 := A_ (Kd.R_drew HO_4.out)
             replace BK423 := A_ (blk_drew BK423.out)
             replace BK425 := A_ (blk_drew BK425.out)
             replace HB := A_ (below_drew1 HB.out)
             have p426 : 0 ≤ (x34_2 : Int) := od_
             have q426 : x34_2 < (l0_2.length : Int) := od_
             obtain ⟨ad426, A426_0, c426_0, e426, hx426_0, hl426_0, hi426_0⟩ := at_L12 HR0_2.out x34_2 p426 q426
             have hw426_0 := hx426_0
             cases e426
             replace hx426_0 := hc_ HB.out hx426_0
             have HR426_0 := A_ hi426_0
             have HC426_0 := A_ hl426_0
             clear hi426_0 hl426_0
             replace p426 := eq_true p426
             replace q426 := eq_true q426
             have p427 : 0 ≤ (x34_2 : Int) := od_
             have q427 : x34_2 < (l0_3.length : Int) := od_
             obtain ⟨ad427, A427_0, c427_0, e427, hx427_0, hl427_0, hi427_0⟩ := at_L12 HR0_3.out x34_2 p427 q427
             have hw427_0 := hx427_0
             cases e427
             replace hx427_0 := hc_ HB.out hx427_0
             have HR427_0 := A_ hi427_0
             have HC427_0 := A_ hl427_0
             clear hi427_0 hl427_0
             replace p427 := eq_true p427
             replace q427 := eq_true q427
             refine start_ (n := 17) (S := fun w' => w'.cell? ⟨gb425, 0, none⟩ = some (.int .i64 ((rd_T53 l0_1 x34_2).f0)) ∧ w'.cell? ⟨gb425, 1, none⟩ = some (.int .i64 ((rd_T53 l0_1 x34_2).f1)) ∧ w'.cell? ⟨gb425, 2, none⟩ = some (.int .i64 ((rd_T53 l0_1 x34_2).f2)) ∧ w'.cell? ⟨gb425, 3, none⟩ = some (.int .i64 ((rd_T53 l0_1 x34_2).f3)) ∧ w'.cell? ⟨gb425, 4, none⟩ = some (.int .i64 ((rd_T53 l0_1 x34_2).f4)) ∧ w'.cell? ⟨gb425, 5, none⟩ = some (.int .i64 ((rd_T53 l0_1 x34_2).f5)) ∧ w'.cell? ⟨gb425, 6, none⟩ = some (.int .i64 ((rd_T53 l0_1 x34_2).f6)) ∧ w'.cell? ⟨gb423, 0, none⟩ = some (.slice A0_0 l0_0.length c0_0) ∧ w'.cell? ⟨gb423, 1, none⟩ = some (.slice (some ad424) l0_1.length c0_1) ∧ w'.cell? ⟨gb423, 2, none⟩ = some (.slice (some ad426) l0_2.length c0_2) ∧ w'.cell? ⟨gb423, 3, none⟩ = some (.slice (some ad427) l0_3.length c0_3) ∧ w'.cell? ⟨gb423, 4, none⟩ = some (.slice A0_4 l0_4.length c0_4) ∧ w'.cell? ⟨gb423, 5, none⟩ = some (.slice A0_5 l0_5.length c0_5) ∧ w'.cell? (ad426.add (x34_2).toNat) = some (.slice A426_0 (rd_L12 l0_2 x34_2).length c426_0) ∧ w'.cell? (ad427.add (x34_2).toNat) = some (.slice A427_0 (rd_L12 l0_3 x34_2).length c427_0)) (ds := []) #[false, false, false, false, false, false, false, false, false, false, false, false, false, false, false, false, false] (by kernel_rfl) rfl rfl ⟨c0_ BK425.out, c1_ BK425.out, c2_ BK425.out, c3_ BK425.out, c4_ BK425.out, c5_ BK425.out, c6_ BK425.out, c0_ BK423.out, c1_ BK423.out, c2_ BK423.out, c3_ BK423.out, c4_ BK423.out, c5_ BK423.out, (hc_ HB.out hw426_0), (hc_ HB.out hw427_0)⟩ (fun hHeld => ?_); refine with_tabW credenzalaw14_pages.tab7 credenzalaw14_pages.bits7 (fun HT_ HW_ => ?_)
             generalize w22.drew = w23 at HO_4 BK423 BK425 HB HR426_0 HR427_0 hx426_0 hx427_0 hHeld ⊢
             refine pure_ (i := 1) (N := some 41) (v := ?_) (a' := ?_) #[false, true, false, false, false, false, false, false, false, false, false, false, false, false, false, false, false] rfl rfl (any_of HT_.out (by kernel_rfl)) (fun _ _ _ h => h) (Or.inl ⟨by rfl, ?_⟩) ?_ ?_
             rotate_left
             ·intro w'
              go_simp
              with_reducible rfl
             rotate_left
             ·simp only [Act.put, ps_, i64_w, i32_w]
              rfl
             refine pure_ (i := 3) (N := some 43) (v := ?_) (a' := ?_) #[false, true, false, true, false, false, false, false, false, false, false, false, false, false, false, false, false] rfl rfl (any_of HT_.out (by kernel_rfl)) (fun _ _ _ h => h) (Or.inl ⟨by rfl, ?_⟩) ?_ ?_
             rotate_left
             ·intro w'
              go_simp
              with_reducible rfl
             rotate_left
             ·simp only [Act.put, ps_, i64_w, i32_w]
              rfl
             refine pure_ (i := 6) (N := some 46) (v := ?_) (a' := ?_) #[false, true, false, true, false, false, true, false, false, false, false, false, false, false, false, false, false] rfl rfl (any_of HT_.out (by kernel_rfl)) (fun _ _ _ h => h) (Or.inl ⟨by rfl, ?_⟩) ?_ ?_
             rotate_left
             ·intro w'
              go_simp
              with_reducible rfl
             rotate_left
             ·simp only [Act.put, ps_, i64_w, i32_w]
              rfl
             refine pure_ (i := 8) (N := some 48) (v := ?_) (a' := ?_) #[false, true, false, true, false, false, true, false, true, false, false, false, false, false, false, false, false] rfl rfl (any_of HT_.out (by kernel_rfl)) (fun _ _ _ h => h) (Or.inl ⟨by rfl, ?_⟩) ?_ ?_
             rotate_left
             ·intro w'
              go_simp
              with_reducible rfl
             rotate_left
             ·simp only [Act.put, ps_, i64_w, i32_w]
              rfl
             refine take_ (i := 0) (N := some 40) (v := ?_) (a' := ?_) #[true, true, false, true, false, false, true, false, true, false, false, false, false, false, false, false, false] rfl rfl (take_ofW HT_.out HW_.out (by kernel_rfl)) (fun _ _ _ h => h) (Or.inl ⟨by rfl, ?_⟩) hHeld ?_ ?_
             rotate_left
             ·rintro w' ⟨s0, s1, s2, s3, s4, s5, s6, s7, s8, s9, s10, s11, s12, s13, s14⟩
              go_simp
              with_reducible rfl
             rotate_left
             ·simp only [Act.put, ps_, i64_w, i32_w]
              rfl
             refine take_ (i := 2) (N := some 42) (v := ?_) (a' := ?_) #[true, true, true, true, false, false, true, false, true, false, false, false, false, false, false, false, false] rfl rfl (take_ofW HT_.out HW_.out (by kernel_rfl)) (fun _ _ _ h => h) (Or.inl ⟨by rfl, ?_⟩) hHeld ?_ ?_
             rotate_left
             ·rintro w' ⟨s0, s1, s2, s3, s4, s5, s6, s7, s8, s9, s10, s11, s12, s13, s14⟩
              go_simp
              with_reducible rfl
             rotate_left
             ·simp only [Act.put, ps_, i64_w, i32_w]
              rfl
             refine pure_ (i := 4) (N := some 44) (v := ?_) (a' := ?_) #[true, true, true, true, true, false, true, false, true, false, false, false, false, false, false, false, false] rfl rfl (any_of HT_.out (by kernel_rfl)) (fun _ _ _ h => h) (Or.inl ⟨by rfl, ?_⟩) ?_ ?_
             rotate_left
             ·intro w'
              go_simp
              with_reducible rfl
             rotate_left
             ·simp only [Act.put, ps_, i64_w, i32_w]
              rfl
             refine take_ (i := 5) (N := some 45) (v := ?_) (a' := ?_) #[true, true, true, true, true, true, true, false, true, false, false, false, false, false, false, false, false] rfl rfl (take_ofW HT_.out HW_.out (by kernel_rfl)) (fun _ _ _ h => h) (Or.inl ⟨by rfl, ?_⟩) hHeld ?_ ?_
             rotate_left
             ·rintro w' ⟨s0, s1, s2, s3, s4, s5, s6, s7, s8, s9, s10, s11, s12, s13, s14⟩
              go_simp
              with_reducible rfl
             rotate_left
             ·simp only [Act.put, ps_, i64_w, i32_w]
              rfl
             refine take_ (i := 7) (N := some 47) (v := ?_) (a' := ?_) #[true, true, true, true, true, true, true, true, true, false, false, false, false, false, false, false, false] rfl rfl (take_ofW HT_.out HW_.out (by kernel_rfl)) (fun _ _ _ h => h) (Or.inl ⟨by rfl, ?_⟩) hHeld ?_ ?_
             rotate_left
             ·rintro w' ⟨s0, s1, s2, s3, s4, s5, s6, s7, s8, s9, s10, s11, s12, s13, s14⟩
              go_simp
              with_reducible rfl
             rotate_left
             ·simp only [Act.put, ps_, i64_w, i32_w]
              rfl
             refine pure_ (i := 9) (N := some 49) (v := ?_) (a' := ?_) #[true, true, true, true, true, true, true, true, true, true, false, false, false, false, false, false, false] rfl rfl (any_of HT_.out (by kernel_rfl)) (fun _ _ _ h => h) (Or.inl ⟨by rfl, ?_⟩) ?_ ?_
             rotate_left
             ·intro w'
              go_simp
              with_reducible rfl
             rotate_left
             ·simp only [Act.put, ps_, i64_w, i32_w]
              rfl
             refine take_ (i := 10) (N := some 50) (v := ?_) (a' := ?_) #[true, true, true, true, true, true, true, true, true, true, true, false, false, false, false, false, false] rfl rfl (take_ofW HT_.out HW_.out (by kernel_rfl)) (fun _ _ _ h => h) (Or.inl ⟨by rfl, ?_⟩) hHeld ?_ ?_
             rotate_left
             ·rintro w' ⟨s0, s1, s2, s3, s4, s5, s6, s7, s8, s9, s10, s11, s12, s13, s14⟩
              go_simp
              with_reducible rfl
             rotate_left
             ·simp only [Act.put, ps_, i64_w, i32_w]
              rfl
             refine one_ (i := 11) (N := some 51) #[true, true, true, true, true, true, true, true, true, true, true, true, false, false, false, false, false] rfl rfl (one_of HT_.out (by kernel_rfl)) (by decide) (fun K hK => ?_)
             refine goes_ Try.func35 (by kernel_rfl) rfl #[.agg #[.int .i64 ((rd_T53 l0_1 x34_2).f0), .int .i64 ((rd_T53 l0_1 x34_2).f1), .int .i64 ((rd_T53 l0_1 x34_2).f2), .int .i64 ((rd_T53 l0_1 x34_2).f3), .int .i64 ((rd_T53 l0_1 x34_2).f4), .int .i64 ((rd_T53 l0_1 x34_2).f5), .int .i64 ((rd_T53 l0_1 x34_2).f6)], .slice A426_0 (rd_L12 l0_2 x34_2).length c426_0, .slice A427_0 (rd_L12 l0_3 x34_2).length c427_0] (by rfl) rfl rfl ar_ ?_
             with_reducible refine (page_Quantize.calls k2 ((rd_T53 l0_1 x34_2).f0) ((rd_T53 l0_1 x34_2).f1) ((rd_T53 l0_1 x34_2).f2) ((rd_T53 l0_1 x34_2).f3) ((rd_T53 l0_1 x34_2).f4) ((rd_T53 l0_1 x34_2).f5) ((rd_T53 l0_1 x34_2).f6) _ _ (rd_L12 l0_2 x34_2) _ _ (rd_L12 l0_3 x34_2) t428 t429 _ ?side1 ?side2 ?side3 ?side4 A16.out).mono ?_
             (case side1 => exact cb_ (Kd.C_below HR426_0.out HB.out))
             (case side2 => exact HC426_0.out)
             (case side3 => exact cb_ (Kd.C_below HR427_0.out HB.out))
             (case side4 => exact HC427_0.out)
             rintro e w24 ⟨Ap_, rfl, hp_, hb⟩
             have HP_ := A_ (Kd.M_lower_ (Kd.M_fresh hp_ (mv_ HO_4.out)) (below_size bl_))
             clear hp_
             refine ⟨_, rfl, ?_⟩
             replace HO_4 := A_ (Kd.R_below (mv_ HO_4.out) hb)
             replace BK423 := A_ (bb_ BK423.out hb)
             replace BK425 := A_ (bb_ BK425.out hb)
             replace HB := A_ (below_step bl_ hb)
             refine hK.out _ _ ⟨c0_ BK425.out, c1_ BK425.out, c2_ BK425.out, c3_ BK425.out, c4_ BK425.out, c5_ BK425.out, c6_ BK425.out, c0_ BK423.out, c1_ BK423.out, c2_ BK423.out, c3_ BK423.out, c4_ BK423.out, c5_ BK423.out, (hc_ HB.out hw426_0), (hc_ HB.out hw427_0)⟩ (fun hHeld => ?_)
             clear hK K
             refine norm_ (a' := ?_) ?_ ?_
             rotate_left
             ·show Act.put _ (some 51) _ = _
              simp only [Act.put, ps_, i64_w, i32_w]
              rfl
             refine pure_ (i := 12) (N := some 39) (v := ?_) (a' := ?_) #[true, true, true, true, true, true, true, true, true, true, true, true, true, false, false, false, false] rfl rfl (any_of HT_.out (by kernel_rfl)) (fun _ _ _ h => h) (Or.inl ⟨by rfl, ?_⟩) ?_ ?_
             rotate_left
             ·intro w'
              go_simp
              with_reducible rfl
             rotate_left
             ·simp only [Act.put, ps_, i64_w, i32_w]
              rfl
             refine pure_ (i := 13) (N := some 52) (v := ?_) (a' := ?_) #[true, true, true, true, true, true, true, true, true, true, true, true, true, true, false, false, false] rfl rfl (any_of HT_.out (by kernel_rfl)) (fun _ _ _ h => h) (Or.inl ⟨by rfl, ?_⟩) ?_ ?_
             rotate_left
             ·intro w'
              go_simp
              with_reducible rfl
             rotate_left
             ·simp only [Act.put, ps_, i64_w, i32_w]
              rfl
             refine pure_ (i := 14) (N := some 53) (v := ?_) (a' := ?_) #[true, true, true, true, true, true, true, true, true, true, true, true, true, true, true, false, false] rfl rfl (any_of HT_.out (by kernel_rfl)) (fun _ _ _ h => h) (Or.inl ⟨by rfl, ?_⟩) ?_ ?_
             rotate_left
             ·intro w'
              go_simp
              with_reducible rfl
             rotate_left
             ·simp only [Act.put, ps_, i64_w, i32_w]
              rfl
             refine pure_ (i := 15) (N := some 7) (v := ?_) (a' := ?_) #[true, true, true, true, true, true, true, true, true, true, true, true, true, true, true, true, false] rfl rfl (any_of HT_.out (by kernel_rfl)) (fun _ _ _ h => h) (Or.inl ⟨by rfl, ?_⟩) ?_ ?_
             rotate_left
             ·intro w'
              go_simp
              with_reducible rfl
             rotate_left
             ·simp only [Act.put, ps_, i64_w, i32_w]
              rfl
             refine pure_ (i := 16) (N := some 8) (v := ?_) (a' := ?_) #[true, true, true, true, true, true, true, true, true, true, true, true, true, true, true, true, true] rfl rfl (any_of HT_.out (by kernel_rfl)) (fun _ _ _ h => h) (Or.inl ⟨by rfl, ?_⟩) ?_ ?_
             rotate_left
             ·intro w'
              go_simp
              with_reducible rfl
             rotate_left
             ·simp only [Act.put, ps_, i64_w, i32_w]
              rfl
             refine done_ (done_of HT_.out (by kernel_rfl)) ?_
             try go_wp2_with (first | ((with_reducible refine gate_builtin (b := .append) (xs := #[.tmp 56, .tmp 58]) rfl ?_); (try (refine gate_guard (by rfl) ?_; dsimp only)); at_builtin; refine Kd.R_append (Kd.ptr 125 k125) (w0 := w) w.heap.size rfl (.tmp 56) (.tmp 58) 42 45 (.pointer none) 8 rfl Try.underlying42 credenzalaw14_pages.infoP rfl (by decide) (by omega) u4 x4_2 t428 [.pointer Ap_] (fun _ => True) (fun k_ => some k_ ≠ (u4 : Value).ownBlock) rfl rfl ?aP (fun _ hk => ⟨trivial, hk⟩) ?aF ?aO ?aB ?aS ?aL ?_; (case aP => exact (by (with_reducible repeat (first | apply Kd.M_alloc | apply Kd.M_drewN)); exact HP_.out)); (case aB => exact bl_); (case aF => exact (fun _ _ => trivial)); (case aO => exact (mv_ HO_4.out)); (case aS => exact (below_size bl_)); (case aL => have := LMc18.out; omega); intro v431 w25 ho hb hg hat; rw [← Ny430.out] at ho; replace BK423 := A_ (bg_ BK423.out hg (Kd.R_ne HO_4.out BK423.out (by decide))); replace BK425 := A_ (bg_ BK425.out hg (Kd.R_ne HO_4.out BK425.out (by decide))); have HO432 := A_ ho; replace HB := A_ hb; clear HO_4 ho hb hg hat))
             go_roundg k2
             case measure => have := HJ1.out; have := HK2.out; omega
             case rel => exact ⟨(y430), (wrap64 (x34_2 + 1)), rs_, H', ⟨by have := HJ1.out; have := HK2.out; omega⟩, ⟨mv_ HO432.out⟩, ⟨mv_ BK423.out⟩, ⟨bl_⟩⟩
            ·rw [if_neg c18] at H
             exact absurd H (by simp)
           ·rw [if_neg c17] at H
            have c17b0 : (t429 == 0) = false := beq_eq_false_iff_ne.mpr c17
            have c17b1 : (t429 != 0) = true := bne_iff_ne.mpr c17
            simp only [Option.some.injEq, Prod.mk.injEq] at H
            obtain ⟨rfl, rfl⟩ := H
            have p424 : 0 ≤ (x34_2 : Int) := od_
            have q424 : x34_2 < (l0_1.length : Int) := od_
            obtain ⟨ad424, e424, hx424_0, hx424_1, hx424_2, hx424_3, hx424_4, hx424_5, hx424_6⟩ := at_T53 HR0_1.out x34_2 p424 q424
            cases e424
            replace hx424_0 := hc_ HB.out hx424_0
            replace hx424_1 := hc_ HB.out hx424_1
            replace hx424_2 := hc_ HB.out hx424_2
            replace hx424_3 := hc_ HB.out hx424_3
            replace hx424_4 := hc_ HB.out hx424_4
            replace hx424_5 := hc_ HB.out hx424_5
            replace hx424_6 := hc_ HB.out hx424_6
            replace p424 := eq_true p424
            replace q424 := eq_true q424
            try go_wp2_with (first | ((with_reducible refine gate_dst (N := 6) rfl ?_); (try (refine gate_guard (by rfl) ?_; dsimp only)); refine box_event ?hg (N := 6) ?hd (cs := #[.int .i64 0, .int .i64 0, .int .i64 0, .int .i64 0, .int .i64 0, .int .i64 0, .int .i64 0]) (t := 53) ?hr ?_; (case hd => rfl); (case hg => rfl); (case hr => first | (go_simp; done) | (go_simp; rfl)); intro gb425 hg w26 hbox hb; replace HO_4 := A_ (Kd.R_below (mv_ HO_4.out) hb); have BK425 := A_ hbox; have GW425 := A_ (gw_ w hg); have GE425 := A_ (gw_ w hg); have NB423_425 := A_ ((by rw [hg]; exact Nat.ne_of_lt (lt_ BK423.out) : gb423 ≠ gb425)); have NB425_423 := A_ ((by rw [hg]; exact Nat.ne_of_gt (lt_ BK423.out) : gb425 ≠ gb423)); replace BK423 := A_ (bb_ BK423.out hb); replace HB := A_ (below_step bl_ hb); clear hb hbox hg; have hnb27 := NB425_423.out; have hnc27 := NB423_425.out; have ⟨_, _, _, _, _, _, _, _, _, _, _, _, _, _⟩ := k7_ BK425.out))
            have n0_ : Aside0 (Kd.R (Kd.ptr 125 k125) 45 (((((((w26.setCell ⟨gb425, 0, none⟩ (.int .i64 ((rd_T53 l0_1 x34_2).f0))).setCell ⟨gb425, 1, none⟩ (.int .i64 ((rd_T53 l0_1 x34_2).f1))).setCell ⟨gb425, 2, none⟩ (.int .i64 ((rd_T53 l0_1 x34_2).f2))).setCell ⟨gb425, 3, none⟩ (.int .i64 ((rd_T53 l0_1 x34_2).f3))).setCell ⟨gb425, 4, none⟩ (.int .i64 ((rd_T53 l0_1 x34_2).f4))).setCell ⟨gb425, 5, none⟩ (.int .i64 ((rd_T53 l0_1 x34_2).f5))).setCell ⟨gb425, 6, none⟩ (.int .i64 ((rd_T53 l0_1 x34_2).f6))) w.heap.size (fun _ => True) u4 x4_2) := ⟨by (with_reducible repeat (first | apply Kd.R_alloc | apply Kd.R_drewN | apply Kd.R_drew)); exact Kd.R_mono (Kd.R_far (Kd.R_far (Kd.R_far (Kd.R_far (Kd.R_far (Kd.R_far (Kd.R_far (Kd.R_types HO_4.out BK425.out (by decide)) (fun _ hk => hk.2) (.int .i64 ((rd_T53 l0_1 x34_2).f0))) (fun _ hk => hk.2) (.int .i64 ((rd_T53 l0_1 x34_2).f1))) (fun _ hk => hk.2) (.int .i64 ((rd_T53 l0_1 x34_2).f2))) (fun _ hk => hk.2) (.int .i64 ((rd_T53 l0_1 x34_2).f3))) (fun _ hk => hk.2) (.int .i64 ((rd_T53 l0_1 x34_2).f4))) (fun _ hk => hk.2) (.int .i64 ((rd_T53 l0_1 x34_2).f5))) (fun _ hk => hk.2) (.int .i64 ((rd_T53 l0_1 x34_2).f6))) (fun _ hk => trivial)⟩
            have n1_ : Aside0 ((((((((w26.setCell ⟨gb425, 0, none⟩ (.int .i64 ((rd_T53 l0_1 x34_2).f0))).setCell ⟨gb425, 1, none⟩ (.int .i64 ((rd_T53 l0_1 x34_2).f1))).setCell ⟨gb425, 2, none⟩ (.int .i64 ((rd_T53 l0_1 x34_2).f2))).setCell ⟨gb425, 3, none⟩ (.int .i64 ((rd_T53 l0_1 x34_2).f3))).setCell ⟨gb425, 4, none⟩ (.int .i64 ((rd_T53 l0_1 x34_2).f4))).setCell ⟨gb425, 5, none⟩ (.int .i64 ((rd_T53 l0_1 x34_2).f5))).setCell ⟨gb425, 6, none⟩ (.int .i64 ((rd_T53 l0_1 x34_2).f6))).heap[gb423]? = some (.cells #[.slice A0_0 l0_0.length c0_0, .slice (some ad424) l0_1.length c0_1, .slice A0_2 l0_2.length c0_2, .slice A0_3 l0_3.length c0_3, .slice A0_4 l0_4.length c0_4, .slice A0_5 l0_5.length c0_5] 41 (0, 0))) := ⟨ft_ BK423.out NB423_425.out⟩
            have n2_ : Aside0 ((((((((w26.setCell ⟨gb425, 0, none⟩ (.int .i64 ((rd_T53 l0_1 x34_2).f0))).setCell ⟨gb425, 1, none⟩ (.int .i64 ((rd_T53 l0_1 x34_2).f1))).setCell ⟨gb425, 2, none⟩ (.int .i64 ((rd_T53 l0_1 x34_2).f2))).setCell ⟨gb425, 3, none⟩ (.int .i64 ((rd_T53 l0_1 x34_2).f3))).setCell ⟨gb425, 4, none⟩ (.int .i64 ((rd_T53 l0_1 x34_2).f4))).setCell ⟨gb425, 5, none⟩ (.int .i64 ((rd_T53 l0_1 x34_2).f5))).setCell ⟨gb425, 6, none⟩ (.int .i64 ((rd_T53 l0_1 x34_2).f6))).heap[gb425]? = some (.cells #[.int .i64 ((rd_T53 l0_1 x34_2).f0), .int .i64 ((rd_T53 l0_1 x34_2).f1), .int .i64 ((rd_T53 l0_1 x34_2).f2), .int .i64 ((rd_T53 l0_1 x34_2).f3), .int .i64 ((rd_T53 l0_1 x34_2).f4), .int .i64 ((rd_T53 l0_1 x34_2).f5), .int .i64 ((rd_T53 l0_1 x34_2).f6)] 53 (0, 0))) := ⟨by (with_reducible repeat (first | apply bn_ | apply bd_ | apply ba_)); refine blk_put (cs := #[.int .i64 ((rd_T53 l0_1 x34_2).f0), .int .i64 ((rd_T53 l0_1 x34_2).f1), .int .i64 ((rd_T53 l0_1 x34_2).f2), .int .i64 ((rd_T53 l0_1 x34_2).f3), .int .i64 ((rd_T53 l0_1 x34_2).f4), .int .i64 ((rd_T53 l0_1 x34_2).f5), .int .i64 0]) ?_ 6 _ rfl; (with_reducible repeat (first | apply bn_ | apply bd_ | apply ba_)); refine blk_put (cs := #[.int .i64 ((rd_T53 l0_1 x34_2).f0), .int .i64 ((rd_T53 l0_1 x34_2).f1), .int .i64 ((rd_T53 l0_1 x34_2).f2), .int .i64 ((rd_T53 l0_1 x34_2).f3), .int .i64 ((rd_T53 l0_1 x34_2).f4), .int .i64 0, .int .i64 0]) ?_ 5 _ rfl; (with_reducible repeat (first | apply bn_ | apply bd_ | apply ba_)); refine blk_put (cs := #[.int .i64 ((rd_T53 l0_1 x34_2).f0), .int .i64 ((rd_T53 l0_1 x34_2).f1), .int .i64 ((rd_T53 l0_1 x34_2).f2), .int .i64 ((rd_T53 l0_1 x34_2).f3), .int .i64 0, .int .i64 0, .int .i64 0]) ?_ 4 _ rfl; (with_reducible repeat (first | apply bn_ | apply bd_ | apply ba_)); refine blk_put (cs := #[.int .i64 ((rd_T53 l0_1 x34_2).f0), .int .i64 ((rd_T53 l0_1 x34_2).f1), .int .i64 ((rd_T53 l0_1 x34_2).f2), .int .i64 0, .int .i64 0, .int .i64 0, .int .i64 0]) ?_ 3 _ rfl; (with_reducible repeat (first | apply bn_ | apply bd_ | apply ba_)); refine blk_put (cs := #[.int .i64 ((rd_T53 l0_1 x34_2).f0), .int .i64 ((rd_T53 l0_1 x34_2).f1), .int .i64 0, .int .i64 0, .int .i64 0, .int .i64 0, .int .i64 0]) ?_ 2 _ rfl; (with_reducible repeat (first | apply bn_ | apply bd_ | apply ba_)); refine blk_put (cs := #[.int .i64 ((rd_T53 l0_1 x34_2).f0), .int .i64 0, .int .i64 0, .int .i64 0, .int .i64 0, .int .i64 0, .int .i64 0]) ?_ 1 _ rfl; (with_reducible repeat (first | apply bn_ | apply bd_ | apply ba_)); refine blk_put (cs := #[.int .i64 0, .int .i64 0, .int .i64 0, .int .i64 0, .int .i64 0, .int .i64 0, .int .i64 0]) ?_ 0 _ rfl; (with_reducible repeat (first | apply bn_ | apply bd_ | apply ba_)); exact BK425.out⟩
            have n3_ : Aside0 (Below w.heap.size w (((((((w26.setCell ⟨gb425, 0, none⟩ (.int .i64 ((rd_T53 l0_1 x34_2).f0))).setCell ⟨gb425, 1, none⟩ (.int .i64 ((rd_T53 l0_1 x34_2).f1))).setCell ⟨gb425, 2, none⟩ (.int .i64 ((rd_T53 l0_1 x34_2).f2))).setCell ⟨gb425, 3, none⟩ (.int .i64 ((rd_T53 l0_1 x34_2).f3))).setCell ⟨gb425, 4, none⟩ (.int .i64 ((rd_T53 l0_1 x34_2).f4))).setCell ⟨gb425, 5, none⟩ (.int .i64 ((rd_T53 l0_1 x34_2).f5))).setCell ⟨gb425, 6, none⟩ (.int .i64 ((rd_T53 l0_1 x34_2).f6)))) := ⟨bl_⟩
            generalize (((((((w26.setCell ⟨gb425, 0, none⟩ (.int .i64 ((rd_T53 l0_1 x34_2).f0))).setCell ⟨gb425, 1, none⟩ (.int .i64 ((rd_T53 l0_1 x34_2).f1))).setCell ⟨gb425, 2, none⟩ (.int .i64 ((rd_T53 l0_1 x34_2).f2))).setCell ⟨gb425, 3, none⟩ (.int .i64 ((rd_T53 l0_1 x34_2).f3))).setCell ⟨gb425, 4, none⟩ (.int .i64 ((rd_T53 l0_1 x34_2).f4))).setCell ⟨gb425, 5, none⟩ (.int .i64 ((rd_T53 l0_1 x34_2).f5))).setCell ⟨gb425, 6, none⟩ (.int .i64 ((rd_T53 l0_1 x34_2).f6))) = w29 at n0_ n1_ n2_ n3_ ⊢
            have HO_4 := n0_
            have BK423 := n1_
            have BK425 := n2_
            have HB := n3_
            clear n0_ n1_ n2_ n3_
            replace HO_4 := A_ (Kd.R_drew HO_4.out)
            replace BK423 := A_ (blk_drew BK423.out)
            replace BK425 := A_ (blk_drew BK425.out)
            replace HB := A_ (below_drew1 HB.out)
            have p426 : 0 ≤ (x34_2 : Int) := od_
            have q426 : x34_2 < (l0_2.length : Int) := od_
            obtain ⟨ad426, A426_0, c426_0, e426, hx426_0, hl426_0, hi426_0⟩ := at_L12 HR0_2.out x34_2 p426 q426
            have hw426_0 := hx426_0
            cases e426
            replace hx426_0 := hc_ HB.out hx426_0
            have HR426_0 := A_ hi426_0
            have HC426_0 := A_ hl426_0
            clear hi426_0 hl426_0
            replace p426 := eq_true p426
            replace q426 := eq_true q426
            have p427 : 0 ≤ (x34_2 : Int) := od_
            have q427 : x34_2 < (l0_3.length : Int) := od_
            obtain ⟨ad427, A427_0, c427_0, e427, hx427_0, hl427_0, hi427_0⟩ := at_L12 HR0_3.out x34_2 p427 q427
            have hw427_0 := hx427_0
            cases e427
            replace hx427_0 := hc_ HB.out hx427_0
            have HR427_0 := A_ hi427_0
            have HC427_0 := A_ hl427_0
            clear hi427_0 hl427_0
            replace p427 := eq_true p427
            replace q427 := eq_true q427
            refine start_ (n := 17) (S := fun w' => w'.cell? ⟨gb425, 0, none⟩ = some (.int .i64 ((rd_T53 l0_1 x34_2).f0)) ∧ w'.cell? ⟨gb425, 1, none⟩ = some (.int .i64 ((rd_T53 l0_1 x34_2).f1)) ∧ w'.cell? ⟨gb425, 2, none⟩ = some (.int .i64 ((rd_T53 l0_1 x34_2).f2)) ∧ w'.cell? ⟨gb425, 3, none⟩ = some (.int .i64 ((rd_T53 l0_1 x34_2).f3)) ∧ w'.cell? ⟨gb425, 4, none⟩ = some (.int .i64 ((rd_T53 l0_1 x34_2).f4)) ∧ w'.cell? ⟨gb425, 5, none⟩ = some (.int .i64 ((rd_T53 l0_1 x34_2).f5)) ∧ w'.cell? ⟨gb425, 6, none⟩ = some (.int .i64 ((rd_T53 l0_1 x34_2).f6)) ∧ w'.cell? ⟨gb423, 0, none⟩ = some (.slice A0_0 l0_0.length c0_0) ∧ w'.cell? ⟨gb423, 1, none⟩ = some (.slice (some ad424) l0_1.length c0_1) ∧ w'.cell? ⟨gb423, 2, none⟩ = some (.slice (some ad426) l0_2.length c0_2) ∧ w'.cell? ⟨gb423, 3, none⟩ = some (.slice (some ad427) l0_3.length c0_3) ∧ w'.cell? ⟨gb423, 4, none⟩ = some (.slice A0_4 l0_4.length c0_4) ∧ w'.cell? ⟨gb423, 5, none⟩ = some (.slice A0_5 l0_5.length c0_5) ∧ w'.cell? (ad426.add (x34_2).toNat) = some (.slice A426_0 (rd_L12 l0_2 x34_2).length c426_0) ∧ w'.cell? (ad427.add (x34_2).toNat) = some (.slice A427_0 (rd_L12 l0_3 x34_2).length c427_0)) (ds := []) #[false, false, false, false, false, false, false, false, false, false, false, false, false, false, false, false, false] (by kernel_rfl) rfl rfl ⟨c0_ BK425.out, c1_ BK425.out, c2_ BK425.out, c3_ BK425.out, c4_ BK425.out, c5_ BK425.out, c6_ BK425.out, c0_ BK423.out, c1_ BK423.out, c2_ BK423.out, c3_ BK423.out, c4_ BK423.out, c5_ BK423.out, (hc_ HB.out hw426_0), (hc_ HB.out hw427_0)⟩ (fun hHeld => ?_); refine with_tabW credenzalaw14_pages.tab7 credenzalaw14_pages.bits7 (fun HT_ HW_ => ?_)
            generalize w29.drew = w30 at HO_4 BK423 BK425 HB HR426_0 HR427_0 hx426_0 hx427_0 hHeld ⊢
            refine pure_ (i := 1) (N := some 41) (v := ?_) (a' := ?_) #[false, true, false, false, false, false, false, false, false, false, false, false, false, false, false, false, false] rfl rfl (any_of HT_.out (by kernel_rfl)) (fun _ _ _ h => h) (Or.inl ⟨by rfl, ?_⟩) ?_ ?_
            rotate_left
            ·intro w'
             go_simp
             with_reducible rfl
            rotate_left
            ·simp only [Act.put, ps_, i64_w, i32_w]
             rfl
            refine pure_ (i := 3) (N := some 43) (v := ?_) (a' := ?_) #[false, true, false, true, false, false, false, false, false, false, false, false, false, false, false, false, false] rfl rfl (any_of HT_.out (by kernel_rfl)) (fun _ _ _ h => h) (Or.inl ⟨by rfl, ?_⟩) ?_ ?_
            rotate_left
            ·intro w'
             go_simp
             with_reducible rfl
            rotate_left
            ·simp only [Act.put, ps_, i64_w, i32_w]
             rfl
            refine pure_ (i := 6) (N := some 46) (v := ?_) (a' := ?_) #[false, true, false, true, false, false, true, false, false, false, false, false, false, false, false, false, false] rfl rfl (any_of HT_.out (by kernel_rfl)) (fun _ _ _ h => h) (Or.inl ⟨by rfl, ?_⟩) ?_ ?_
            rotate_left
            ·intro w'
             go_simp
             with_reducible rfl
            rotate_left
            ·simp only [Act.put, ps_, i64_w, i32_w]
             rfl
            refine pure_ (i := 8) (N := some 48) (v := ?_) (a' := ?_) #[false, true, false, true, false, false, true, false, true, false, false, false, false, false, false, false, false] rfl rfl (any_of HT_.out (by kernel_rfl)) (fun _ _ _ h => h) (Or.inl ⟨by rfl, ?_⟩) ?_ ?_
            rotate_left
            ·intro w'
             go_simp
             with_reducible rfl
            rotate_left
            ·simp only [Act.put, ps_, i64_w, i32_w]
             rfl
            refine take_ (i := 0) (N := some 40) (v := ?_) (a' := ?_) #[true, true, false, true, false, false, true, false, true, false, false, false, false, false, false, false, false] rfl rfl (take_ofW HT_.out HW_.out (by kernel_rfl)) (fun _ _ _ h => h) (Or.inl ⟨by rfl, ?_⟩) hHeld ?_ ?_
            rotate_left
            ·rintro w' ⟨s0, s1, s2, s3, s4, s5, s6, s7, s8, s9, s10, s11, s12, s13, s14⟩
             go_simp
             with_reducible rfl
            rotate_left
            ·simp only [Act.put, ps_, i64_w, i32_w]
             rfl
            refine take_ (i := 2) (N := some 42) (v := ?_) (a' := ?_) #[true, true, true, true, false, false, true, false, true, false, false, false, false, false, false, false, false] rfl rfl (take_ofW HT_.out HW_.out (by kernel_rfl)) (fun _ _ _ h => h) (Or.inl ⟨by rfl, ?_⟩) hHeld ?_ ?_
            rotate_left
            ·rintro w' ⟨s0, s1, s2, s3, s4, s5, s6, s7, s8, s9, s10, s11, s12, s13, s14⟩
             go_simp
             with_reducible rfl
            rotate_left
            ·simp only [Act.put, ps_, i64_w, i32_w]
             rfl
            refine pure_ (i := 4) (N := some 44) (v := ?_) (a' := ?_) #[true, true, true, true, true, false, true, false, true, false, false, false, false, false, false, false, false] rfl rfl (any_of HT_.out (by kernel_rfl)) (fun _ _ _ h => h) (Or.inl ⟨by rfl, ?_⟩) ?_ ?_
            rotate_left
            ·intro w'
             go_simp
             with_reducible rfl
            rotate_left
            ·simp only [Act.put, ps_, i64_w, i32_w]
             rfl
            refine take_ (i := 5) (N := some 45) (v := ?_) (a' := ?_) #[true, true, true, true, true, true, true, false, true, false, false, false, false, false, false, false, false] rfl rfl (take_ofW HT_.out HW_.out (by kernel_rfl)) (fun _ _ _ h => h) (Or.inl ⟨by rfl, ?_⟩) hHeld ?_ ?_
            rotate_left
            ·rintro w' ⟨s0, s1, s2, s3, s4, s5, s6, s7, s8, s9, s10, s11, s12, s13, s14⟩
             go_simp
             with_reducible rfl
            rotate_left
            ·simp only [Act.put, ps_, i64_w, i32_w]
             rfl
            refine take_ (i := 7) (N := some 47) (v := ?_) (a' := ?_) #[true, true, true, true, true, true, true, true, true, false, false, false, false, false, false, false, false] rfl rfl (take_ofW HT_.out HW_.out (by kernel_rfl)) (fun _ _ _ h => h) (Or.inl ⟨by rfl, ?_⟩) hHeld ?_ ?_
            rotate_left
            ·rintro w' ⟨s0, s1, s2, s3, s4, s5, s6, s7, s8, s9, s10, s11, s12, s13, s14⟩
             go_simp
             with_reducible rfl
            rotate_left
            ·simp only [Act.put, ps_, i64_w, i32_w]
             rfl
            refine pure_ (i := 9) (N := some 49) (v := ?_) (a' := ?_) #[true, true, true, true, true, true, true, true, true, true, false, false, false, false, false, false, false] rfl rfl (any_of HT_.out (by kernel_rfl)) (fun _ _ _ h => h) (Or.inl ⟨by rfl, ?_⟩) ?_ ?_
            rotate_left
            ·intro w'
             go_simp
             with_reducible rfl
            rotate_left
            ·simp only [Act.put, ps_, i64_w, i32_w]
             rfl
            refine take_ (i := 10) (N := some 50) (v := ?_) (a' := ?_) #[true, true, true, true, true, true, true, true, true, true, true, false, false, false, false, false, false] rfl rfl (take_ofW HT_.out HW_.out (by kernel_rfl)) (fun _ _ _ h => h) (Or.inl ⟨by rfl, ?_⟩) hHeld ?_ ?_
            rotate_left
            ·rintro w' ⟨s0, s1, s2, s3, s4, s5, s6, s7, s8, s9, s10, s11, s12, s13, s14⟩
             go_simp
             with_reducible rfl
            rotate_left
            ·simp only [Act.put, ps_, i64_w, i32_w]
             rfl
            refine one_ (i := 11) (N := some 51) #[true, true, true, true, true, true, true, true, true, true, true, true, false, false, false, false, false] rfl rfl (one_of HT_.out (by kernel_rfl)) (by decide) (fun K hK => ?_)
            refine goes_ Try.func35 (by kernel_rfl) rfl #[.agg #[.int .i64 ((rd_T53 l0_1 x34_2).f0), .int .i64 ((rd_T53 l0_1 x34_2).f1), .int .i64 ((rd_T53 l0_1 x34_2).f2), .int .i64 ((rd_T53 l0_1 x34_2).f3), .int .i64 ((rd_T53 l0_1 x34_2).f4), .int .i64 ((rd_T53 l0_1 x34_2).f5), .int .i64 ((rd_T53 l0_1 x34_2).f6)], .slice A426_0 (rd_L12 l0_2 x34_2).length c426_0, .slice A427_0 (rd_L12 l0_3 x34_2).length c427_0] (by rfl) rfl rfl ar_ ?_
            with_reducible refine (page_Quantize.calls k2 ((rd_T53 l0_1 x34_2).f0) ((rd_T53 l0_1 x34_2).f1) ((rd_T53 l0_1 x34_2).f2) ((rd_T53 l0_1 x34_2).f3) ((rd_T53 l0_1 x34_2).f4) ((rd_T53 l0_1 x34_2).f5) ((rd_T53 l0_1 x34_2).f6) _ _ (rd_L12 l0_2 x34_2) _ _ (rd_L12 l0_3 x34_2) t428 t429 _ ?side1 ?side2 ?side3 ?side4 A16.out).mono ?_
            (case side1 => exact cb_ (Kd.C_below HR426_0.out HB.out))
            (case side2 => exact HC426_0.out)
            (case side3 => exact cb_ (Kd.C_below HR427_0.out HB.out))
            (case side4 => exact HC427_0.out)
            rintro e w31 ⟨Ap_, rfl, hp_, hb⟩
            have HP_ := A_ (Kd.M_lower_ (Kd.M_fresh hp_ (mv_ HO_4.out)) (below_size bl_))
            clear hp_
            refine ⟨_, rfl, ?_⟩
            replace HO_4 := A_ (Kd.R_below (mv_ HO_4.out) hb)
            replace BK423 := A_ (bb_ BK423.out hb)
            replace BK425 := A_ (bb_ BK425.out hb)
            replace HB := A_ (below_step bl_ hb)
            refine hK.out _ _ ⟨c0_ BK425.out, c1_ BK425.out, c2_ BK425.out, c3_ BK425.out, c4_ BK425.out, c5_ BK425.out, c6_ BK425.out, c0_ BK423.out, c1_ BK423.out, c2_ BK423.out, c3_ BK423.out, c4_ BK423.out, c5_ BK423.out, (hc_ HB.out hw426_0), (hc_ HB.out hw427_0)⟩ (fun hHeld => ?_)
            clear hK K
            refine norm_ (a' := ?_) ?_ ?_
            rotate_left
            ·show Act.put _ (some 51) _ = _
             simp only [Act.put, ps_, i64_w, i32_w]
             rfl
            refine pure_ (i := 12) (N := some 39) (v := ?_) (a' := ?_) #[true, true, true, true, true, true, true, true, true, true, true, true, true, false, false, false, false] rfl rfl (any_of HT_.out (by kernel_rfl)) (fun _ _ _ h => h) (Or.inl ⟨by rfl, ?_⟩) ?_ ?_
            rotate_left
            ·intro w'
             go_simp
             with_reducible rfl
            rotate_left
            ·simp only [Act.put, ps_, i64_w, i32_w]
             rfl
            refine pure_ (i := 13) (N := some 52) (v := ?_) (a' := ?_) #[true, true, true, true, true, true, true, true, true, true, true, true, true, true, false, false, false] rfl rfl (any_of HT_.out (by kernel_rfl)) (fun _ _ _ h => h) (Or.inl ⟨by rfl, ?_⟩) ?_ ?_
            rotate_left
            ·intro w'
             go_simp
             with_reducible rfl
            rotate_left
            ·simp only [Act.put, ps_, i64_w, i32_w]
             rfl
            refine pure_ (i := 14) (N := some 53) (v := ?_) (a' := ?_) #[true, true, true, true, true, true, true, true, true, true, true, true, true, true, true, false, false] rfl rfl (any_of HT_.out (by kernel_rfl)) (fun _ _ _ h => h) (Or.inl ⟨by rfl, ?_⟩) ?_ ?_
            rotate_left
            ·intro w'
             go_simp
             with_reducible rfl
            rotate_left
            ·simp only [Act.put, ps_, i64_w, i32_w]
             rfl
            refine pure_ (i := 15) (N := some 7) (v := ?_) (a' := ?_) #[true, true, true, true, true, true, true, true, true, true, true, true, true, true, true, true, false] rfl rfl (any_of HT_.out (by kernel_rfl)) (fun _ _ _ h => h) (Or.inl ⟨by rfl, ?_⟩) ?_ ?_
            rotate_left
            ·intro w'
             go_simp
             with_reducible rfl
            rotate_left
            ·simp only [Act.put, ps_, i64_w, i32_w]
             rfl
            refine pure_ (i := 16) (N := some 8) (v := ?_) (a' := ?_) #[true, true, true, true, true, true, true, true, true, true, true, true, true, true, true, true, true] rfl rfl (any_of HT_.out (by kernel_rfl)) (fun _ _ _ h => h) (Or.inl ⟨by rfl, ?_⟩) ?_ ?_
            rotate_left
            ·intro w'
             go_simp
             with_reducible rfl
            rotate_left
            ·simp only [Act.put, ps_, i64_w, i32_w]
             rfl
            refine done_ (done_of HT_.out (by kernel_rfl)) ?_
            try go_wp2
            go_ret2
            exact ⟨_, ew_, nil_, bl_⟩
          ·rw [if_neg c15] at H
           exact absurd H (by simp)
         ·rw [if_neg c14] at H
          exact absurd H (by simp)
        ·rw [if_neg c13] at H
         exact absurd H (by simp)
       ·rw [if_neg c12] at H
        exact absurd H (by simp)
      ·rw [if_neg c11] at H
       have c11b0 : decide (x34_2 < (l0_1.length : Int)) = false := decide_eq_false c11
       clear c11
       simp only [Option.some.injEq, Prod.mk.injEq] at H
       obtain ⟨rfl, rfl⟩ := H
       go_wp2
       go_ret2
       exact ⟨_, ew_, by (with_reducible repeat (first | apply Kd.R_alloc | apply Kd.R_drewN | apply Kd.R_drew)); exact HO_4.out, bl_⟩
def credenzalaw14_head.f (a0_0 : Int) (a0_1 : Int) (a0_2 : Int) (a0_3 : Int) (a0_4 : Int) (a0_5 : Int) (a0_6 : Int) : Option (Int × Int × Int × Int × Int × Int × Int) := some (a0_0, a0_1, a0_2, a0_3, a0_4, a0_5, a0_6)
theorem credenzalaw14_head.calls (a0_0 : Int) (a0_1 : Int) (a0_2 : Int) (a0_3 : Int) (a0_4 : Int) (a0_5 : Int) (a0_6 : Int) (r1 : Int) (r2 : Int) (r3 : Int) (r4 : Int) (r5 : Int) (r6 : Int) (r7 : Int) (w : World) (h : credenzalaw14_head.f a0_0 a0_1 a0_2 a0_3 a0_4 a0_5 a0_6 = some (r1, r2, r3, r4, r5, r6, r7)) :
  Calls Try.prog 19 #[.agg #[.int .i64 a0_0, .int .i64 a0_1, .int .i64 a0_2, .int .i64 a0_3, .int .i64 a0_4, .int .i64 a0_5, .int .i64 a0_6]] w fun e w' => e = .returned (.agg #[.int .i64 r1, .int .i64 r2, .int .i64 r3, .int .i64 r4, .int .i64 r5, .int .i64 r6, .int .i64 r7]) ∧ Below w.heap.size w w' := by
 have hu53 := Try.underlying53
 have hu46 := Try.underlying46
 have HB := A_ (Below.refl w.heap.size w)
 have H : (some (a0_0, a0_1, a0_2, a0_3, a0_4, a0_5, a0_6)) = some (r1, r2, r3, r4, r5, r6, r7) := h
 clear h
 simp only [Option.some.injEq, Prod.mk.injEq] at H
 obtain ⟨rfl, rfl, rfl, rfl, rfl, rfl, rfl⟩ := H
 go_enter Try.func19, Try.ntmps19
 go_wp2_with (first | (refine box_event rfl (N := 1) rfl (cs := #[.int .i64 a0_0, .int .i64 a0_1, .int .i64 a0_2, .int .i64 a0_3, .int .i64 a0_4, .int .i64 a0_5, .int .i64 a0_6]) (t := 53) ?hr ?_; (case hr => first | (go_simp; done) | (go_simp; rfl)); intro gb479 hg w2 hbox hb; have BK479 := A_ hbox; have GW479 := A_ (gw_ w hg); have GE479 := A_ (gw_ w hg); replace HB := A_ (below_step bl_ hb); clear hb hbox hg) | (refine box_event rfl (N := 2) rfl (cs := #[.int .i64 0, .int .i64 0, .int .i64 0, .int .i64 0, .int .i64 0, .int .i64 0, .int .i64 0]) (t := 46) ?hr ?_; (case hr => first | (go_simp; done) | (go_simp; rfl)); intro gb480 hg w3 hbox hb; have BK480 := A_ hbox; have GW480 := A_ (gw_ w hg); have GE480 := A_ (gw_ w hg); have NB479_480 := A_ ((by rw [hg]; exact Nat.ne_of_lt (lt_ BK479.out) : gb479 ≠ gb480)); have NB480_479 := A_ ((by rw [hg]; exact Nat.ne_of_gt (lt_ BK479.out) : gb480 ≠ gb479)); replace BK479 := A_ (bb_ BK479.out hb); replace HB := A_ (below_step bl_ hb); clear hb hbox hg; have hnb4 := NB479_480.out; have hnc4 := NB480_479.out; have ⟨_, _, _, _, _, _, _, _, _, _, _, _, _, _⟩ := k7_ BK479.out; have ⟨_, _, _, _, _, _, _, _, _, _, _, _, _, _⟩ := k7_ BK480.out))
 refine bodyPost_ret (results_cell_row rfl _ _ gb480 46 #[.int .i64 a0_0, .int .i64 a0_1, .int .i64 a0_2, .int .i64 a0_3, .int .i64 a0_4, .int .i64 a0_5, .int .i64 a0_6] (0, 0) _ rfl (by (with_reducible repeat (first | apply bn_ | apply bd_ | apply ba_)); refine blk_put (cs := #[.int .i64 a0_0, .int .i64 a0_1, .int .i64 a0_2, .int .i64 a0_3, .int .i64 a0_4, .int .i64 a0_5, .int .i64 0]) ?_ 6 _ rfl; (with_reducible repeat (first | apply bn_ | apply bd_ | apply ba_)); refine blk_put (cs := #[.int .i64 a0_0, .int .i64 a0_1, .int .i64 a0_2, .int .i64 a0_3, .int .i64 a0_4, .int .i64 0, .int .i64 0]) ?_ 5 _ rfl; (with_reducible repeat (first | apply bn_ | apply bd_ | apply ba_)); refine blk_put (cs := #[.int .i64 a0_0, .int .i64 a0_1, .int .i64 a0_2, .int .i64 a0_3, .int .i64 0, .int .i64 0, .int .i64 0]) ?_ 4 _ rfl; (with_reducible repeat (first | apply bn_ | apply bd_ | apply ba_)); refine blk_put (cs := #[.int .i64 a0_0, .int .i64 a0_1, .int .i64 a0_2, .int .i64 0, .int .i64 0, .int .i64 0, .int .i64 0]) ?_ 3 _ rfl; (with_reducible repeat (first | apply bn_ | apply bd_ | apply ba_)); refine blk_put (cs := #[.int .i64 a0_0, .int .i64 a0_1, .int .i64 0, .int .i64 0, .int .i64 0, .int .i64 0, .int .i64 0]) ?_ 2 _ rfl; (with_reducible repeat (first | apply bn_ | apply bd_ | apply ba_)); refine blk_put (cs := #[.int .i64 a0_0, .int .i64 0, .int .i64 0, .int .i64 0, .int .i64 0, .int .i64 0, .int .i64 0]) ?_ 1 _ rfl; (with_reducible repeat (first | apply bn_ | apply bd_ | apply ba_)); refine blk_put (cs := #[.int .i64 0, .int .i64 0, .int .i64 0, .int .i64 0, .int .i64 0, .int .i64 0, .int .i64 0]) ?_ 0 _ rfl; (with_reducible repeat (first | apply bn_ | apply bd_ | apply ba_)); exact BK480.out) Try.underlying46 rfl (by kernel_rfl)) rfl ?_
 exact ⟨ew_, bl_⟩
mutual
def credenzalaw14_AttnFused.j0 : Nat → List (List S125) → Bool → List Int → List (S53) → List (List (List Int)) → List (List (List Int)) → List (List Int) → List (List Int) → Option (Bool)
 | 0, _, _, _, _, _, _, _, _ => none
 | k + 1, x3, x37, x503000, x503001, x503002, x503003, x503004, x503005 => if x37 = true then ((credenzalaw14_awake.f k).bind fun t511 => (some t511)) else (credenzalaw14_AttnFused.l0 k x3 ([] : List (List Int)) ([] : List (List Int)) x3 (x3.length : Int) 0 x503000 x503001 x503002 x503003 x503004 x503005)
def credenzalaw14_AttnFused.l0 : Nat → List (List S125) → List (List Int) → List (List Int) → List (List S125) → Int → Int → List Int → List (S53) → List (List (List Int)) → List (List (List Int)) → List (List Int) → List (List Int) → Option (Bool)
 | 0, _, _, _, _, _, _, _, _, _, _, _, _ => none
 | k + 1, x3, x5, x6, x39, x40, x41, x503000, x503001, x503002, x503003, x503004, x503005 => if x41 < x40 then (if 0 ≤ x41 then (if x41 < (x39.length : Int) then (if (rdP x39 x41).isEmpty = true then (some false) else (if x41 < (x503001.length : Int) then ((credenzalaw14_head.f ((rd_T53 x503001 x41).f0) ((rd_T53 x503001 x41).f1) ((rd_T53 x503001 x41).f2) ((rd_T53 x503001 x41).f3) ((rd_T53 x503001 x41).f4) ((rd_T53 x503001 x41).f5) ((rd_T53 x503001 x41).f6)).bind fun bt514 => (if x41 < (x503002.length : Int) then (if x41 < (x503003.length : Int) then ((credenzaref08_Quantize.f k bt514.1 bt514.2.1 bt514.2.2.1 bt514.2.2.2.1 bt514.2.2.2.2.1 bt514.2.2.2.2.2.1 bt514.2.2.2.2.2.2 (rd_L12 x503002 x41) (rd_L12 x503003 x41)).bind fun bt523 => (credenzalaw14_AttnFused.l1 k x3 x5 x6 x39 x40 x41 ((rd_T53 x503001 x41).f2) 0 x503000 x503001 x503002 x503003 x503004 x503005 bt523.1 bt523.2.1 bt523.2.2.1 bt523.2.2.2.1 bt523.2.2.2.2.1 bt523.2.2.2.2.2.1 bt523.2.2.2.2.2.2.1 bt523.2.2.2.2.2.2.2.1 bt523.2.2.2.2.2.2.2.2)) else (none)) else (none))) else (none))) else (none)) else (none)) else (if x5.length + x503004.length < 5864062014805 then ((some (x5 ++ x503004 : List (List Int))).bind fun y550 => (if x6.length + x503005.length < 5864062014805 then ((some (x6 ++ x503005 : List (List Int))).bind fun y553 => ((attn_FusedP.f k x503000 x3 x503004 x503005).bind fun bt556 => ((credenzaref14_Right.f k x503000 y550 y553).bind fun t560 => (if t560 = 0 then ((attn_Gather.f k x503000 y550 y553).bind fun bt562 => (if bt556.2 = 0 then (if bt562.2 = 0 then ((credenzaref03_Same.f k bt556.1 bt562.1).bind fun t566 => (if t566 = true then ((credenzaref14_Gather.f k x503000 y550 y553).bind fun t567 => ((credenzaref03_Same.f k bt556.1 t567).bind fun t570 => (if t570 = true then ((credenzalaw14_awake.f k).bind fun t571 => (some t571)) else (some false)))) else (some false))) else (some false)) else (some false))) else (if bt556.2 = t560 then (if (bt556.1.length : Int) = 0 then ((credenzalaw14_awake.f k).bind fun t561 => (some t561)) else (some false)) else (some false)))))) else (none))) else (none))
def credenzalaw14_AttnFused.l1 : Nat → List (List S125) → List (List Int) → List (List Int) → List (List S125) → Int → Int → Int → Int → List Int → List (S53) → List (List (List Int)) → List (List (List Int)) → List (List Int) → List (List Int) → Int → Int → Int → Int → Int → Int → Int → List (S72) → List (S72) → Option (Bool)
 | 0, _, _, _, _, _, _, _, _, _, _, _, _, _, _, _, _, _, _, _, _, _, _, _ => none
 | k + 1, x3, x5, x6, x39, x40, x41, x70, x71, x503000, x503001, x503002, x503003, x503004, x503005, x537000, x537001, x537002, x537003, x537004, x537005, x537006, x537007, x537008 => if x71 < x70 then ((credenzaref08_Page_Key.f k x537000 x537001 x537002 x537003 x537004 x537005 x537006 x537007 x537008 x71).bind fun t538 => (if x5.length < 5864062014805 then ((credenzaref08_Page_Value.f k x537000 x537001 x537002 x537003 x537004 x537005 x537006 x537007 x537008 x71).bind fun t544 => (if x6.length < 5864062014805 then (credenzalaw14_AttnFused.l1 k x3 (x5 ++ [t538]) (x6 ++ [t544]) x39 x40 x41 x70 (wrap64 (x71 + 1)) x503000 x503001 x503002 x503003 x503004 x503005 x537000 x537001 x537002 x537003 x537004 x537005 x537006 x537007 x537008) else (none))) else (none))) else (credenzalaw14_AttnFused.l0 k x3 x5 x6 x39 x40 (wrap64 (x41 + 1)) x503000 x503001 x503002 x503003 x503004 x503005)
end
def credenzalaw14_AttnFused.f (k : Nat) (l0_0 : List Int) (l0_1 : List (S53)) (l0_2 : List (List (List Int))) (l0_3 : List (List (List Int))) (l0_4 : List (List Int)) (l0_5 : List (List Int)) : Option (Bool) := (credenzalaw14_pages.f k l0_0 l0_1 l0_2 l0_3 l0_4 l0_5).bind fun bt503 => (if bt503.2 = true then ((credenzalaw14_light.f k (([l0_4, l0_5] : List (List (List Int))))).bind fun t510 => (if t510 = true then (credenzalaw14_AttnFused.j0 k bt503.1 (decide ((l0_0.length : Int) > 100)) l0_0 l0_1 l0_2 l0_3 l0_4 l0_5) else (credenzalaw14_AttnFused.j0 k bt503.1 true l0_0 l0_1 l0_2 l0_3 l0_4 l0_5))) else (credenzalaw14_AttnFused.j0 k bt503.1 true l0_0 l0_1 l0_2 l0_3 l0_4 l0_5))
def credenzalaw14_AttnFused.T10 : Bool × List (List Nat × List Nat) := (true, [([], []), ([0], [0]), ([], []), ([1, 2], [1, 2]), ([3], [3]), ([4], [4]), ([], []), ([6], [6]), ([], []), ([7, 8], [7, 8]), ([9], [9]), ([], []), ([11], [11]), ([], []), ([12, 13], [12, 13]), ([14], [14]), ([5, 10, 15, 5], [5, 10, 15]), ([], []), ([17, 16, 16, 0, 1, 2, 3, 4, 5, 6, 7, 8, 9, 10, 11, 12, 13, 14, 15, 16, 17], [16, 17])])
def credenzalaw14_AttnFused.B10 : List Nat := [0, 1, 0, 7, 15, 31, 0, 64, 0, 448, 960, 0, 2048, 0, 14336, 30720, 65535, 0, 262143]
theorem credenzalaw14_AttnFused.tab10 : rtab .any (opsOf Try.f7 10) = credenzalaw14_AttnFused.T10 := by kernel_rfl
theorem credenzalaw14_AttnFused.bits10 : waitsOk credenzalaw14_AttnFused.T10.2 credenzalaw14_AttnFused.B10 = true := by kernel_rfl
def credenzalaw14_AttnFused.T14 : Bool × List (List Nat × List Nat) := (true, [([], []), ([], []), ([], []), ([1, 2], [1, 2]), ([3], [3]), ([0, 4, 3], [0, 4]), ([], []), ([], []), ([], []), ([7, 8, 5], [7, 8]), ([9], [9]), ([6, 10, 9], [6, 10]), ([5, 11, 0, 1, 2, 3, 4, 5], [0, 5]), ([11, 12, 0, 1, 2, 3, 4, 5, 6, 7, 8, 9, 10, 11, 12], [6, 11])])
def credenzalaw14_AttnFused.B14 : List Nat := [0, 0, 0, 6, 14, 31, 0, 0, 0, 447, 959, 2047, 4095, 8191]
theorem credenzalaw14_AttnFused.tab14 : rtab .any (opsOf Try.f7 14) = credenzalaw14_AttnFused.T14 := by kernel_rfl
theorem credenzalaw14_AttnFused.bits14 : waitsOk credenzalaw14_AttnFused.T14.2 credenzalaw14_AttnFused.B14 = true := by kernel_rfl
def credenzalaw14_AttnFused.T17 : Bool × List (List Nat × List Nat) := (true, [([], []), ([], []), ([1], [1]), ([0, 2], [0, 2]), ([], []), ([], []), ([5], [5]), ([4, 6, 3], [4, 6]), ([3, 7, 0, 1, 2, 3], [0, 3]), ([7, 8, 0, 1, 2, 3, 4, 5, 6, 7, 8], [4, 7])])
def credenzalaw14_AttnFused.B17 : List Nat := [0, 0, 2, 7, 0, 0, 32, 127, 255, 511]
theorem credenzalaw14_AttnFused.tab17 : rtab .any (opsOf Try.f7 17) = credenzalaw14_AttnFused.T17 := by kernel_rfl
theorem credenzalaw14_AttnFused.bits17 : waitsOk credenzalaw14_AttnFused.T17.2 credenzalaw14_AttnFused.B17 = true := by kernel_rfl
theorem credenzalaw14_AttnFused.calls (k : Nat) (A0_0 : Option Addr) (c0_0 : Nat) (l0_0 : List Int) (A0_1 : Option Addr) (c0_1 : Nat) (l0_1 : List (S53)) (A0_2 : Option Addr) (c0_2 : Nat) (l0_2 : List (List (List Int))) (A0_3 : Option Addr) (c0_3 : Nat) (l0_3 : List (List (List Int))) (P0_4_ : Nat → Prop) (A0_4 : Option Addr) (c0_4 : Nat) (l0_4 : List (List Int)) (P0_5_ : Nat → Prop) (A0_5 : Option Addr) (c0_5 : Nat) (l0_5 : List (List Int)) (r : Bool) (w : World) (hr0_0 : Kd.C (Kd.int .i32) w A0_0 l0_0.length l0_0) (hc0_0 : l0_0.length ≤ c0_0) (hr0_1 : Kd.C k53 w A0_1 l0_1.length l0_1) (hc0_1 : l0_1.length ≤ c0_1) (hr0_2 : Kd.C (Kd.slice 22 (Kd.slice 21 (Kd.int .i32))) w A0_2 l0_2.length l0_2) (hc0_2 : l0_2.length ≤ c0_2) (hr0_3 : Kd.C (Kd.slice 22 (Kd.slice 21 (Kd.int .i32))) w A0_3 l0_3.length l0_3) (hc0_3 : l0_3.length ≤ c0_3) (hs0_4 : Kd.V (Kd.slice 21 (Kd.int .i32)) 22 w w.heap.size (fun k_ => P0_4_ k_) (.slice A0_4 l0_4.length c0_4) l0_4) (hs0_5 : Kd.V (Kd.slice 21 (Kd.int .i32)) 22 w w.heap.size (fun k_ => P0_5_ k_) (.slice A0_5 l0_5.length c0_5) l0_5) (h : credenzalaw14_AttnFused.f k l0_0 l0_1 l0_2 l0_3 l0_4 l0_5 = some r) (hr_ : r = true) :
  Calls Try.prog 7 #[.agg #[.slice A0_0 l0_0.length c0_0, .slice A0_1 l0_1.length c0_1, .slice A0_2 l0_2.length c0_2, .slice A0_3 l0_3.length c0_3, .slice A0_4 l0_4.length c0_4, .slice A0_5 l0_5.length c0_5]] w fun e w' => e = .returned (.bool r) ∧ Below w.heap.size w w' := by
 have hu41 := Try.underlying41
 have hu53 := Try.underlying53
 have hu49 := Try.underlying49
 have HR0_0 := A_ hr0_0
 have HC0_0 := A_ hc0_0
 clear hr0_0 hc0_0
 have HR0_1 := A_ hr0_1
 have HC0_1 := A_ hc0_1
 clear hr0_1 hc0_1
 have HR0_2 := A_ hr0_2
 have HC0_2 := A_ hc0_2
 clear hr0_2 hc0_2
 have HR0_3 := A_ hr0_3
 have HC0_3 := A_ hc0_3
 clear hr0_3 hc0_3
 have HO0_4 := A_ (show Kd.V (Kd.slice 21 (Kd.int .i32)) 22 w w.heap.size (fun k_ => ((P0_4_ k_ ∨ P0_5_ k_) ∨ w.heap.size ≤ k_)) (.slice A0_4 l0_4.length c0_4) l0_4 from Kd.V_mono hs0_4 (fun k_ hk => .inl (.inl hk)))
 have HO0_5 := A_ (show Kd.V (Kd.slice 21 (Kd.int .i32)) 22 w w.heap.size (fun k_ => ((P0_4_ k_ ∨ P0_5_ k_) ∨ w.heap.size ≤ k_)) (.slice A0_5 l0_5.length c0_5) l0_5 from Kd.V_mono hs0_5 (fun k_ hk => .inl (.inr hk)))
 have HB := A_ (Below.refl w.heap.size w)
 have HR_ := A_ hr_
 clear hr_
 have H := h
 unfold credenzalaw14_AttnFused.f at H
 clear h
 replace H := ob_ H
 obtain ⟨⟨t503, t506⟩, A2, H⟩ := H
 try dsimp only at H
 have HC3 := A_ H
 clear H
 go_enter Try.func7, Try.ntmps7
 go_upto_region 2 with (first | ((with_reducible refine gate_dst (N := 1) rfl ?_); (try (refine gate_guard (by rfl) ?_; dsimp only)); refine box_event ?hg (N := 1) ?hd (cs := #[.slice A0_0 l0_0.length c0_0, .slice A0_1 l0_1.length c0_1, .slice A0_2 l0_2.length c0_2, .slice A0_3 l0_3.length c0_3, .slice A0_4 l0_4.length c0_4, .slice A0_5 l0_5.length c0_5]) (t := 41) ?hr ?_; (case hd => rfl); (case hg => rfl); (case hr => first | (go_simp; done) | (go_simp; rfl)); intro gb502 hg w4 hbox hb; replace HO0_4 := A_ (Kd.V_below (Kd.V_elderB (mv_ HO0_4.out) gb502 (Nat.le_of_eq hg.symm)) hb); replace HO0_5 := A_ (Kd.V_below (Kd.V_elderB (mv_ HO0_5.out) gb502 (Nat.le_of_eq hg.symm)) hb); have BK502 := A_ hbox; have GW502 := A_ (gw_ w hg); have GE502 := A_ (gw_ w hg); replace HB := A_ (below_step bl_ hb); clear hb hbox hg; have ⟨_, _, _, _, _, _, _, _, _, _, _, _⟩ := k6_ BK502.out) | (refine goesL_ (some 18) rfl rfl Try.func17 (by kernel_rfl) rfl #[.agg #[.slice A0_0 l0_0.length c0_0, .slice A0_1 l0_1.length c0_1, .slice A0_2 l0_2.length c0_2, .slice A0_3 l0_3.length c0_3, .slice A0_4 l0_4.length c0_4, .slice A0_5 l0_5.length c0_5]] rfl ar_ ?_; (with_reducible refine (credenzalaw14_pages.calls k _ _ l0_0 _ _ l0_1 _ _ l0_2 _ _ l0_3 _ _ l0_4 _ _ l0_5 t503 t506 _ ?side1 ?side2 ?side3 ?side4 ?side5 ?side6 ?side7 ?side8 ?side9 ?side10 ?side11 ?side12 A2.out).mono ?_); (case side1 => exact cb_ (Kd.C_below HR0_0.out HB.out)); (case side2 => exact HC0_0.out); (case side3 => exact cb_ (Kd.C_below HR0_1.out HB.out)); (case side4 => exact HC0_1.out); (case side5 => exact cb_ (Kd.C_below HR0_2.out HB.out)); (case side6 => exact HC0_2.out); (case side7 => exact cb_ (Kd.C_below HR0_3.out HB.out)); (case side8 => exact HC0_3.out); (case side9 => exact cb_ (Kd.V_reads' HO0_4.out).2.2); (case side10 => exact (Kd.V_reads' HO0_4.out).2.1); (case side11 => exact cb_ (Kd.V_reads' HO0_5.out).2.2); (case side12 => exact (Kd.V_reads' HO0_5.out).2.1); rintro e w6 ⟨v504, rfl, ho0, hb⟩; refine ⟨_, rfl, ?_⟩; replace HO0_4 := A_ (Kd.V_elder' (mv_ HO0_4.out) (Kd.R_base ho0) hb); replace HO0_5 := A_ (Kd.V_elder' (mv_ HO0_5.out) (Kd.R_base ho0) hb); have HO505 := A_ (Kd.R_lower (Kd.R_newM (M := fun k_ => (w.heap.size ≤ k_)) ho0 (below_size bl_) (fun k_ h_ => h_)) (below_size bl_)); replace BK502 := A_ (bb_ BK502.out hb); replace HB := A_ (below_step bl_ hb)))
 (try simp only [Act.put, ps_])
 go_cut [37] (fun v37 wc => ∃ (kq : Nat) (x37_2 : Bool), v37 = .bool x37_2 ∧ Aside0 (credenzalaw14_AttnFused.j0 kq t503 x37_2 l0_0 l0_1 l0_2 l0_3 l0_4 l0_5 = some r) ∧ Aside0 (kq ≤ k) ∧ Aside0 (Kd.R (Kd.ptr 125 k125) 45 wc w.heap.size (fun k_ => (w.heap.size ≤ k_)) v504 t503) ∧ Aside0 (Kd.V (Kd.slice 21 (Kd.int .i32)) 22 wc w.heap.size (fun k_ => ((P0_4_ k_ ∨ P0_5_ k_) ∨ w.heap.size ≤ k_) ∧ some k_ ≠ (v504 : Value).ownBlock ∧ k_ ≠ gb502) (.slice A0_4 l0_4.length c0_4) l0_4) ∧ Aside0 (Kd.V (Kd.slice 21 (Kd.int .i32)) 22 wc w.heap.size (fun k_ => ((P0_4_ k_ ∨ P0_5_ k_) ∨ w.heap.size ≤ k_) ∧ some k_ ≠ (v504 : Value).ownBlock ∧ k_ ≠ gb502) (.slice A0_5 l0_5.length c0_5) l0_5) ∧ Aside0 (wc.heap[gb502]? = some (.cells #[(.slice A0_0 l0_0.length c0_0), (.slice A0_1 l0_1.length c0_1), (.slice A0_2 l0_2.length c0_2), (.slice A0_3 l0_3.length c0_3), (.slice A0_4 l0_4.length c0_4), (.slice A0_5 l0_5.length c0_5)] 41 (0, 0))) ∧ Aside0 (Below w.heap.size w wc))
 case first =>
  have H := HC3.out
  clear HC3
  by_cases c7 : t506 = true
  ·subst c7
   replace H : ((credenzalaw14_light.f k (([l0_4, l0_5] : List (List (List Int))))).bind fun t510 => (if t510 = true then (credenzalaw14_AttnFused.j0 k t503 (decide ((l0_0.length : Int) > 100)) l0_0 l0_1 l0_2 l0_3 l0_4 l0_5) else (credenzalaw14_AttnFused.j0 k t503 true l0_0 l0_1 l0_2 l0_3 l0_4 l0_5))) = some r := by rw [if_pos rfl] at H; exact H
   obtain ⟨y507, hy507⟩ : ∃ y_ : List (List (List Int)), y_ = (([l0_4, l0_5] : List (List (List Int)))) := ⟨_, rfl⟩
   replace H : ((credenzalaw14_light.f k y507).bind fun t510 => (if t510 = true then (credenzalaw14_AttnFused.j0 k t503 (decide ((l0_0.length : Int) > 100)) l0_0 l0_1 l0_2 l0_3 l0_4 l0_5) else (credenzalaw14_AttnFused.j0 k t503 true l0_0 l0_1 l0_2 l0_3 l0_4 l0_5))) = some r := hy_ hy507 H
   have Ny507 := A_ hy507
   clear hy507
   replace H := ob_ H
   obtain ⟨t510, A8, H⟩ := H
   try dsimp only at H
   by_cases c9 : t510 = true
   ·subst c9
    replace H : (credenzalaw14_AttnFused.j0 k t503 (decide ((l0_0.length : Int) > 100)) l0_0 l0_1 l0_2 l0_3 l0_4 l0_5) = some r := by rw [if_pos rfl] at H; exact H
    have H' := A_ H
    clear H
    have ⟨_, _, _, _, _, _, _, _, _, _, _, _⟩ := k6_ BK502.out
    go_wp2_with (first | ((with_reducible refine gate_dst (N := 28) rfl ?_); (try (refine gate_guard (by rfl) ?_; dsimp only)); refine Kd.N_lit (Kd.slice 22 (Kd.slice 21 (Kd.int .i32))) _ 29 ?hg (N' := 28) ?hd (xs := ([l0_4, l0_5] : List (List (List Int)))) (inner := [.slice A0_4 l0_4.length c0_4, .slice A0_5 l0_5.length c0_5]) (ok := (fun k_ => ((P0_4_ k_ ∨ P0_5_ k_) ∨ w.heap.size ≤ k_) ∧ some k_ ≠ (v504 : Value).ownBlock ∧ k_ ≠ gb502)) (okp := (fun k_ => ((P0_4_ k_ ∨ P0_5_ k_) ∨ w.heap.size ≤ k_) ∧ some k_ ≠ (v504 : Value).ownBlock ∧ k_ ≠ gb502)) ?hr ?hp (fun _ hk => hk) ((show ∀ k_, w6.heap.size ≤ k_ → (fun k_ => ((P0_4_ k_ ∨ P0_5_ k_) ∨ w.heap.size ≤ k_) ∧ some k_ ≠ (v504 : Value).ownBlock ∧ k_ ≠ gb502) k_ from fun k_ hk => ⟨(.inr (Nat.le_trans (below_size bl_) hk)), Kd.fresh' (Kd.R_lt (mv_ HO505.out)) k_ hk, Kd.freshB (g := gb502) (o := .cells #[.slice A0_0 l0_0.length c0_0, .slice A0_1 l0_1.length c0_1, .slice A0_2 l0_2.length c0_2, .slice A0_3 l0_3.length c0_3, .slice A0_4 l0_4.length c0_4, .slice A0_5 l0_5.length c0_5] 41 (0, 0)) (mv_ BK502.out) k_ hk⟩) _ (Nat.le_refl _)) (Below.refl _ _) (Nat.le_refl _) (by simp) ?_; (case hd => rfl); (case hg => rfl); (case hr => first | (go_simp; done) | (go_simp; rfl)); (case hp => exact (Reps.one (show Kd.FK (Kd.slice 22 (Kd.slice 21 (Kd.int .i32))) _ _ l0_4 [.slice A0_4 l0_4.length c0_4] from (Kd.FK_slice_mk (Kd.V_reads' (Kd.V_mono (ok' := (fun k_ => ((P0_4_ k_ ∨ P0_5_ k_) ∨ w.heap.size ≤ k_) ∧ some k_ ≠ (v504 : Value).ownBlock ∧ k_ ≠ gb502)) (HO0_4.out) (fun k_ hk => ⟨hk.1.1, ⟨hk.2, hk.1.2⟩⟩))).2.1 (Kd.V_F (Kd.V_mono (ok' := (fun k_ => ((P0_4_ k_ ∨ P0_5_ k_) ∨ w.heap.size ≤ k_) ∧ some k_ ≠ (v504 : Value).ownBlock ∧ k_ ≠ gb502)) (HO0_4.out) (fun k_ hk => ⟨hk.1.1, ⟨hk.2, hk.1.2⟩⟩))))) (Reps.one (show Kd.FK (Kd.slice 22 (Kd.slice 21 (Kd.int .i32))) _ _ l0_5 [.slice A0_5 l0_5.length c0_5] from (Kd.FK_slice_mk (Kd.V_reads' (Kd.V_mono (ok' := (fun k_ => ((P0_4_ k_ ∨ P0_5_ k_) ∨ w.heap.size ≤ k_) ∧ some k_ ≠ (v504 : Value).ownBlock ∧ k_ ≠ gb502)) (HO0_5.out) (fun k_ hk => ⟨hk.1.1, ⟨hk.2, hk.1.2⟩⟩))).2.1 (Kd.V_F (Kd.V_mono (ok' := (fun k_ => ((P0_4_ k_ ∨ P0_5_ k_) ∨ w.heap.size ≤ k_) ∧ some k_ ≠ (v504 : Value).ownBlock ∧ k_ ≠ gb502)) (HO0_5.out) (fun k_ hk => ⟨hk.1.1, ⟨hk.2, hk.1.2⟩⟩))))) (Reps.none _ _)))); intro v508 w11 ho12 hb hg_ hnew_; clear hg_ hnew_; (first | rw [← Ny507.out] at ho12 | (simp only [Int.reduceToNat] at ho12; rw [← Ny507.out] at ho12)); replace HO0_4 := A_ (Kd.V_elder' (mv_ HO0_4.out) (Kd.N_base ho12) hb); replace HO0_5 := A_ (Kd.V_elder' (mv_ HO0_5.out) (Kd.N_base ho12) hb); replace HO505 := A_ (Kd.R_below (mv_ HO505.out) hb); have HO509 := A_ (Kd.N_lower ho12 (below_size bl_)); replace BK502 := A_ (bb_ BK502.out hb); replace HB := A_ (below_step bl_ hb); clear hb ho12; obtain ⟨Ao13, co13, eo13⟩ := Kd.N_slice HO509.out; subst eo13) | (go_at_call 11; (with_reducible refine (credenzalaw14_light.calls k _ _ y507 true _ ?side1 ?side2 A8.out).mono ?_); (case side1 => exact cb_ (Kd.N_reads' HO509.out).2.2); (case side2 => exact (Kd.N_reads' HO509.out).2.1); rintro e w' ⟨rfl, ⟨nd, rfl⟩⟩; have ⟨_, _, _, _, _, _, _, _, _, _, _, _⟩ := k6_ BK502.out))
    go_meet
    case rel => exact ⟨_, (decide ((l0_0.length : Int) > 100)), rs_, H', ⟨by first | omega | exact Nat.le_refl _⟩, ⟨by (with_reducible repeat (first | apply Kd.R_alloc | apply Kd.R_drewN | apply Kd.R_drew)); exact Kd.R_mono HO505.out (fun _ hk => hk.1)⟩, ⟨by (with_reducible repeat (first | apply Kd.V_alloc | apply Kd.V_drewN | apply Kd.V_drew)); exact Kd.V_mono HO0_4.out (fun _ hk => ⟨hk.1.1.1, ⟨hk.1.2, hk.1.1.2⟩⟩)⟩, ⟨by (with_reducible repeat (first | apply Kd.V_alloc | apply Kd.V_drewN | apply Kd.V_drew)); exact Kd.V_mono HO0_5.out (fun _ hk => ⟨hk.1.1.1, ⟨hk.1.2, hk.1.1.2⟩⟩)⟩, ⟨mv_ BK502.out⟩, ⟨bl_⟩⟩
   ·replace c9 := Bool.eq_false_iff.mpr c9
    subst c9
    replace H : (credenzalaw14_AttnFused.j0 k t503 true l0_0 l0_1 l0_2 l0_3 l0_4 l0_5) = some r := by rw [if_neg (show ¬ (false = true) by decide)] at H; exact H
    have H' := A_ H
    clear H
    have ⟨_, _, _, _, _, _, _, _, _, _, _, _⟩ := k6_ BK502.out
    go_wp2_with (first | ((with_reducible refine gate_dst (N := 28) rfl ?_); (try (refine gate_guard (by rfl) ?_; dsimp only)); refine Kd.N_lit (Kd.slice 22 (Kd.slice 21 (Kd.int .i32))) _ 29 ?hg (N' := 28) ?hd (xs := ([l0_4, l0_5] : List (List (List Int)))) (inner := [.slice A0_4 l0_4.length c0_4, .slice A0_5 l0_5.length c0_5]) (ok := (fun k_ => ((P0_4_ k_ ∨ P0_5_ k_) ∨ w.heap.size ≤ k_) ∧ some k_ ≠ (v504 : Value).ownBlock ∧ k_ ≠ gb502)) (okp := (fun k_ => ((P0_4_ k_ ∨ P0_5_ k_) ∨ w.heap.size ≤ k_) ∧ some k_ ≠ (v504 : Value).ownBlock ∧ k_ ≠ gb502)) ?hr ?hp (fun _ hk => hk) ((show ∀ k_, w6.heap.size ≤ k_ → (fun k_ => ((P0_4_ k_ ∨ P0_5_ k_) ∨ w.heap.size ≤ k_) ∧ some k_ ≠ (v504 : Value).ownBlock ∧ k_ ≠ gb502) k_ from fun k_ hk => ⟨(.inr (Nat.le_trans (below_size bl_) hk)), Kd.fresh' (Kd.R_lt (mv_ HO505.out)) k_ hk, Kd.freshB (g := gb502) (o := .cells #[.slice A0_0 l0_0.length c0_0, .slice A0_1 l0_1.length c0_1, .slice A0_2 l0_2.length c0_2, .slice A0_3 l0_3.length c0_3, .slice A0_4 l0_4.length c0_4, .slice A0_5 l0_5.length c0_5] 41 (0, 0)) (mv_ BK502.out) k_ hk⟩) _ (Nat.le_refl _)) (Below.refl _ _) (Nat.le_refl _) (by simp) ?_; (case hd => rfl); (case hg => rfl); (case hr => first | (go_simp; done) | (go_simp; rfl)); (case hp => exact (Reps.one (show Kd.FK (Kd.slice 22 (Kd.slice 21 (Kd.int .i32))) _ _ l0_4 [.slice A0_4 l0_4.length c0_4] from (Kd.FK_slice_mk (Kd.V_reads' (Kd.V_mono (ok' := (fun k_ => ((P0_4_ k_ ∨ P0_5_ k_) ∨ w.heap.size ≤ k_) ∧ some k_ ≠ (v504 : Value).ownBlock ∧ k_ ≠ gb502)) (HO0_4.out) (fun k_ hk => ⟨hk.1.1, ⟨hk.2, hk.1.2⟩⟩))).2.1 (Kd.V_F (Kd.V_mono (ok' := (fun k_ => ((P0_4_ k_ ∨ P0_5_ k_) ∨ w.heap.size ≤ k_) ∧ some k_ ≠ (v504 : Value).ownBlock ∧ k_ ≠ gb502)) (HO0_4.out) (fun k_ hk => ⟨hk.1.1, ⟨hk.2, hk.1.2⟩⟩))))) (Reps.one (show Kd.FK (Kd.slice 22 (Kd.slice 21 (Kd.int .i32))) _ _ l0_5 [.slice A0_5 l0_5.length c0_5] from (Kd.FK_slice_mk (Kd.V_reads' (Kd.V_mono (ok' := (fun k_ => ((P0_4_ k_ ∨ P0_5_ k_) ∨ w.heap.size ≤ k_) ∧ some k_ ≠ (v504 : Value).ownBlock ∧ k_ ≠ gb502)) (HO0_5.out) (fun k_ hk => ⟨hk.1.1, ⟨hk.2, hk.1.2⟩⟩))).2.1 (Kd.V_F (Kd.V_mono (ok' := (fun k_ => ((P0_4_ k_ ∨ P0_5_ k_) ∨ w.heap.size ≤ k_) ∧ some k_ ≠ (v504 : Value).ownBlock ∧ k_ ≠ gb502)) (HO0_5.out) (fun k_ hk => ⟨hk.1.1, ⟨hk.2, hk.1.2⟩⟩))))) (Reps.none _ _)))); intro v508 w16 ho17 hb hg_ hnew_; clear hg_ hnew_; (first | rw [← Ny507.out] at ho17 | (simp only [Int.reduceToNat] at ho17; rw [← Ny507.out] at ho17)); replace HO0_4 := A_ (Kd.V_elder' (mv_ HO0_4.out) (Kd.N_base ho17) hb); replace HO0_5 := A_ (Kd.V_elder' (mv_ HO0_5.out) (Kd.N_base ho17) hb); replace HO505 := A_ (Kd.R_below (mv_ HO505.out) hb); have HO509 := A_ (Kd.N_lower ho17 (below_size bl_)); replace BK502 := A_ (bb_ BK502.out hb); replace HB := A_ (below_step bl_ hb); clear hb ho17; obtain ⟨Ao18, co18, eo18⟩ := Kd.N_slice HO509.out; subst eo18) | (go_at_call 11; (with_reducible refine (credenzalaw14_light.calls k _ _ y507 false _ ?side1 ?side2 A8.out).mono ?_); (case side1 => exact cb_ (Kd.N_reads' HO509.out).2.2); (case side2 => exact (Kd.N_reads' HO509.out).2.1); rintro e w' ⟨rfl, ⟨nd, rfl⟩⟩))
    go_meet
    case rel => exact ⟨_, (true), rs_, H', ⟨by first | omega | exact Nat.le_refl _⟩, ⟨by (with_reducible repeat (first | apply Kd.R_alloc | apply Kd.R_drewN | apply Kd.R_drew)); exact Kd.R_mono HO505.out (fun _ hk => hk.1)⟩, ⟨by (with_reducible repeat (first | apply Kd.V_alloc | apply Kd.V_drewN | apply Kd.V_drew)); exact Kd.V_mono HO0_4.out (fun _ hk => ⟨hk.1.1.1, ⟨hk.1.2, hk.1.1.2⟩⟩)⟩, ⟨by (with_reducible repeat (first | apply Kd.V_alloc | apply Kd.V_drewN | apply Kd.V_drew)); exact Kd.V_mono HO0_5.out (fun _ hk => ⟨hk.1.1.1, ⟨hk.1.2, hk.1.1.2⟩⟩)⟩, ⟨mv_ BK502.out⟩, ⟨bl_⟩⟩
  ·replace c7 := Bool.eq_false_iff.mpr c7
   subst c7
   replace H : (credenzalaw14_AttnFused.j0 k t503 true l0_0 l0_1 l0_2 l0_3 l0_4 l0_5) = some r := by rw [if_neg (show ¬ (false = true) by decide)] at H; exact H
   have H' := A_ H
   clear H
   go_wp2
   go_meet
   case rel => exact ⟨_, (true), rs_, H', ⟨by first | omega | exact Nat.le_refl _⟩, ⟨by (with_reducible repeat (first | apply Kd.R_alloc | apply Kd.R_drewN | apply Kd.R_drew)); exact Kd.R_mono HO505.out (fun _ hk => hk.1)⟩, ⟨by (with_reducible repeat (first | apply Kd.V_alloc | apply Kd.V_drewN | apply Kd.V_drew)); exact Kd.V_mono HO0_4.out (fun _ hk => ⟨hk.1.1, ⟨hk.2, hk.1.2⟩⟩)⟩, ⟨by (with_reducible repeat (first | apply Kd.V_alloc | apply Kd.V_drewN | apply Kd.V_drew)); exact Kd.V_mono HO0_5.out (fun _ hk => ⟨hk.1.1, ⟨hk.2, hk.1.2⟩⟩)⟩, ⟨mv_ BK502.out⟩, ⟨bl_⟩⟩
 case rest =>
  clear HC3
  obtain ⟨kq, x37_2, rfl, HA, HJ2, HO_3, HO_503004, HO_503005, BK502, HB⟩ := hcut
  cases kq with
  | zero => exact absurd HA.out (by simp [credenzalaw14_AttnFused.j0])
  | succ kj2 =>
   have H := HA.out
   clear HA
   simp only [credenzalaw14_AttnFused.j0] at H
   by_cases c19 : x37_2 = true
   ·subst c19
    replace H : ((credenzalaw14_awake.f kj2).bind fun t511 => (some t511)) = some r := by rw [if_pos rfl] at H; exact H
    replace H := ob_ H
    obtain ⟨t511, A20, H⟩ := H
    try dsimp only at H
    obtain rfl := Option.some.inj H
    go_wp2_with (first | (refine goesL_ (some 38) rfl rfl Try.func8 (by kernel_rfl) rfl #[] rfl ar_ ?_; (with_reducible refine (credenzalaw14_awake.calls kj2  t511 _ A20.out).mono ?_); rintro e w21 ⟨rfl, hb⟩; refine ⟨_, rfl, ?_⟩; replace HO_3 := A_ (Kd.R_below (mv_ HO_3.out) hb); replace HO_503004 := A_ (Kd.V_below (mv_ HO_503004.out) hb); replace HO_503005 := A_ (Kd.V_below (mv_ HO_503005.out) hb); replace BK502 := A_ (bb_ BK502.out hb); replace HB := A_ (below_step bl_ hb)))
    go_ret
    exact ⟨ew_, bl_⟩
   ·replace c19 := Bool.eq_false_iff.mpr c19
    subst c19
    replace H : (credenzalaw14_AttnFused.l0 kj2 t503 ([] : List (List Int)) ([] : List (List Int)) t503 (t503.length : Int) 0 l0_0 l0_1 l0_2 l0_3 l0_4 l0_5) = some r := by rw [if_neg (show ¬ (false = true) by decide)] at H; exact H
    have H' := A_ H
    clear H
    obtain ⟨Ao22, co22, eo22⟩ := Kd.R_slice HO_3.out
    subst eo22
    go_wp2
    go_loopg [5, 6, 41] kj2 (fun kq v5 v6 v41 w' => ∃ (x5_2 : List (List Int)) (x6_2 : List (List Int)) (x41_2 : Int), v41 = .int .i64 x41_2 ∧ Aside0 (credenzalaw14_AttnFused.l0 kq t503 x5_2 x6_2 t503 (t503.length : Int) x41_2 l0_0 l0_1 l0_2 l0_3 l0_4 l0_5 = some r) ∧ Aside0 (kq ≤ kj2) ∧ Aside0 (Kd.R (Kd.ptr 125 k125) 45 w' w.heap.size (fun k_ => (w.heap.size ≤ k_)) (.slice Ao22 t503.length co22) t503) ∧ Aside0 (Kd.N (Kd.slice 21 (Kd.int .i32)) 22 w' w.heap.size (fun k_ => ((P0_4_ k_ ∨ P0_5_ k_) ∨ w.heap.size ≤ k_) ∧ some k_ ≠ ((.slice Ao22 t503.length co22) : Value).ownBlock ∧ some k_ ≠ (v6 : Value).ownBlock ∧ some k_ ≠ ((.slice Ao22 t503.length co22) : Value).ownBlock ∧ k_ ≠ gb502) v5 x5_2) ∧ Aside0 (Kd.N (Kd.slice 21 (Kd.int .i32)) 22 w' w.heap.size (fun k_ => ((P0_4_ k_ ∨ P0_5_ k_) ∨ w.heap.size ≤ k_) ∧ some k_ ≠ ((.slice Ao22 t503.length co22) : Value).ownBlock ∧ some k_ ≠ (v5 : Value).ownBlock ∧ some k_ ≠ ((.slice Ao22 t503.length co22) : Value).ownBlock ∧ k_ ≠ gb502) v6 x6_2) ∧ Aside0 (Kd.R (Kd.ptr 125 k125) 45 w' w.heap.size (fun k_ => (w.heap.size ≤ k_)) (.slice Ao22 t503.length co22) t503) ∧ Aside0 (Kd.V (Kd.slice 21 (Kd.int .i32)) 22 w' w.heap.size (fun k_ => ((P0_4_ k_ ∨ P0_5_ k_) ∨ w.heap.size ≤ k_) ∧ some k_ ≠ ((.slice Ao22 t503.length co22) : Value).ownBlock ∧ some k_ ≠ (v5 : Value).ownBlock ∧ some k_ ≠ (v6 : Value).ownBlock ∧ some k_ ≠ ((.slice Ao22 t503.length co22) : Value).ownBlock ∧ k_ ≠ gb502) (.slice A0_4 l0_4.length c0_4) l0_4) ∧ Aside0 (Kd.V (Kd.slice 21 (Kd.int .i32)) 22 w' w.heap.size (fun k_ => ((P0_4_ k_ ∨ P0_5_ k_) ∨ w.heap.size ≤ k_) ∧ some k_ ≠ ((.slice Ao22 t503.length co22) : Value).ownBlock ∧ some k_ ≠ (v5 : Value).ownBlock ∧ some k_ ≠ (v6 : Value).ownBlock ∧ some k_ ≠ ((.slice Ao22 t503.length co22) : Value).ownBlock ∧ k_ ≠ gb502) (.slice A0_5 l0_5.length c0_5) l0_5) ∧ Aside0 (w'.heap[gb502]? = some (.cells #[(.slice A0_0 l0_0.length c0_0), (.slice A0_1 l0_1.length c0_1), (.slice A0_2 l0_2.length c0_2), (.slice A0_3 l0_3.length c0_3), (.slice A0_4 l0_4.length c0_4), (.slice A0_5 l0_5.length c0_5)] 41 (0, 0))) ∧ Aside0 (Below w.heap.size w w'))
    case atStart => exact ⟨(([] : List (List Int))), (([] : List (List Int))), (0), rs_, H', ⟨Nat.le_refl _⟩, ⟨mv_ HO_3.out⟩, ⟨nil_⟩, ⟨nil_⟩, ⟨mv_ HO_3.out⟩, ⟨by (with_reducible repeat (first | apply Kd.V_alloc | apply Kd.V_drewN | apply Kd.V_drew)); exact Kd.V_mono HO_503004.out (fun _ hk => ⟨hk.1, ⟨hk.2.1, ⟨(by simp [Value.ownBlock]), ⟨(by simp [Value.ownBlock]), ⟨hk.2.1, hk.2.2⟩⟩⟩⟩⟩)⟩, ⟨by (with_reducible repeat (first | apply Kd.V_alloc | apply Kd.V_drewN | apply Kd.V_drew)); exact Kd.V_mono HO_503005.out (fun _ hk => ⟨hk.1, ⟨hk.2.1, ⟨(by simp [Value.ownBlock]), ⟨(by simp [Value.ownBlock]), ⟨hk.2.1, hk.2.2⟩⟩⟩⟩⟩)⟩, ⟨mv_ BK502.out⟩, ⟨bl_⟩⟩
    case round =>
     clear H'
     obtain ⟨x5_2, x6_2, x41_2, rfl, HA, HK2, HO_3, HO_5, HO_6, HO_39, HO_503004, HO_503005, BK502, HB⟩ := hrel
     cases gk with
     | zero => exact absurd HA.out (by simp [credenzalaw14_AttnFused.l0])
     | succ k2 =>
      have H := HA.out
      clear HA
      simp only [credenzalaw14_AttnFused.l0] at H
      by_cases c23 : x41_2 < (t503.length : Int)
      ·rw [if_pos c23] at H
       have c23b0 : decide (x41_2 < (t503.length : Int)) = true := decide_eq_true c23
       clear c23
       by_cases c24 : 0 ≤ x41_2
       ·rw [if_pos c24] at H
        have c24b0 : decide (0 ≤ x41_2) = true := decide_eq_true c24
        clear c24
        by_cases c25 : x41_2 < (t503.length : Int)
        ·rw [if_pos c25] at H
         have c25b0 : decide (x41_2 < (t503.length : Int)) = true := decide_eq_true c25
         clear c25
         by_cases c26 : (rdP t503 x41_2).isEmpty = true
         ·rw [if_pos c26] at H
          clear c26
          exact absurd H (by rw [HR_.out]; simp)
         ·rw [if_neg c26] at H
          by_cases c27 : x41_2 < (l0_1.length : Int)
          ·rw [if_pos c27] at H
           have c27b0 : decide (x41_2 < (l0_1.length : Int)) = true := decide_eq_true c27
           clear c27
           replace H := ob_ H
           obtain ⟨⟨t514, t515, t516, t517, t518, t519, t520⟩, A28, H⟩ := H
           try dsimp only at H
           by_cases c29 : x41_2 < (l0_2.length : Int)
           ·rw [if_pos c29] at H
            have c29b0 : decide (x41_2 < (l0_2.length : Int)) = true := decide_eq_true c29
            clear c29
            by_cases c30 : x41_2 < (l0_3.length : Int)
            ·rw [if_pos c30] at H
             have c30b0 : decide (x41_2 < (l0_3.length : Int)) = true := decide_eq_true c30
             clear c30
             replace H := ob_ H
             obtain ⟨⟨t523, t524, t525, t526, t527, t528, t529, t530, t533⟩, A31, H⟩ := H
             try dsimp only at H
             have H' := A_ H
             clear H
             have p512 : 0 ≤ (x41_2 : Int) := od_
             have q512 : x41_2 < (t503.length : Int) := od_
             obtain ⟨ad512, BP_, e512, hx512_0, hkp_⟩ := at_rdP (Kd.R_reads' HO_39.out).2.2 x41_2 p512 q512; obtain ⟨bp_, rfl⟩ := ptr_some hkp_ (by assumption); clear hkp_
             cases e512
             replace p512 := eq_true p512
             replace q512 := eq_true q512
             try go_wp2
             replace HO_3 := A_ (Kd.R_drew HO_3.out)
             replace HO_5 := A_ (Kd.N_drew HO_5.out)
             replace HO_6 := A_ (Kd.N_drew HO_6.out)
             replace HO_39 := A_ (Kd.R_drew HO_39.out)
             replace HO_503004 := A_ (Kd.V_drew HO_503004.out)
             replace HO_503005 := A_ (Kd.V_drew HO_503005.out)
             replace BK502 := A_ (blk_drew BK502.out)
             replace HB := A_ (below_drew1 HB.out)
             have p513 : 0 ≤ (x41_2 : Int) := od_
             have q513 : x41_2 < (l0_1.length : Int) := od_
             obtain ⟨ad513, e513, hx513_0, hx513_1, hx513_2, hx513_3, hx513_4, hx513_5, hx513_6⟩ := at_T53 HR0_1.out x41_2 p513 q513
             have hw513_6 := hx513_6
             have hw513_5 := hx513_5
             have hw513_4 := hx513_4
             have hw513_3 := hx513_3
             have hw513_2 := hx513_2
             have hw513_1 := hx513_1
             have hw513_0 := hx513_0
             cases e513
             replace hx513_0 := hc_ HB.out hx513_0
             replace hx513_1 := hc_ HB.out hx513_1
             replace hx513_2 := hc_ HB.out hx513_2
             replace hx513_3 := hc_ HB.out hx513_3
             replace hx513_4 := hc_ HB.out hx513_4
             replace hx513_5 := hc_ HB.out hx513_5
             replace hx513_6 := hc_ HB.out hx513_6
             replace p513 := eq_true p513
             replace q513 := eq_true q513
             have p521 : 0 ≤ (x41_2 : Int) := od_
             have q521 : x41_2 < (l0_2.length : Int) := od_
             obtain ⟨ad521, A521_0, c521_0, e521, hx521_0, hl521_0, hi521_0⟩ := at_L12 HR0_2.out x41_2 p521 q521
             have hw521_0 := hx521_0
             cases e521
             replace hx521_0 := hc_ HB.out hx521_0
             have HR521_0 := A_ hi521_0
             have HC521_0 := A_ hl521_0
             clear hi521_0 hl521_0
             replace p521 := eq_true p521
             replace q521 := eq_true q521
             have p522 : 0 ≤ (x41_2 : Int) := od_
             have q522 : x41_2 < (l0_3.length : Int) := od_
             obtain ⟨ad522, A522_0, c522_0, e522, hx522_0, hl522_0, hi522_0⟩ := at_L12 HR0_3.out x41_2 p522 q522
             have hw522_0 := hx522_0
             cases e522
             replace hx522_0 := hc_ HB.out hx522_0
             have HR522_0 := A_ hi522_0
             have HC522_0 := A_ hl522_0
             clear hi522_0 hl522_0
             replace p522 := eq_true p522
             replace q522 := eq_true q522
             refine start_ (n := 19) (S := fun w' => w'.cell? ⟨gb502, 0, none⟩ = some (.slice A0_0 l0_0.length c0_0) ∧ w'.cell? ⟨gb502, 1, none⟩ = some (.slice (some ad513) l0_1.length c0_1) ∧ w'.cell? ⟨gb502, 2, none⟩ = some (.slice (some ad521) l0_2.length c0_2) ∧ w'.cell? ⟨gb502, 3, none⟩ = some (.slice (some ad522) l0_3.length c0_3) ∧ w'.cell? ⟨gb502, 4, none⟩ = some (.slice A0_4 l0_4.length c0_4) ∧ w'.cell? ⟨gb502, 5, none⟩ = some (.slice A0_5 l0_5.length c0_5) ∧ w'.cell? (ad513.add ((x41_2).toNat * 7)) = some (.int .i64 ((rd_T53 l0_1 x41_2).f0)) ∧ w'.cell? ⟨(ad513.add ((x41_2).toNat * 7)).block, (ad513.add ((x41_2).toNat * 7)).off + 1, none⟩ = some (.int .i64 ((rd_T53 l0_1 x41_2).f1)) ∧ w'.cell? ⟨(ad513.add ((x41_2).toNat * 7)).block, (ad513.add ((x41_2).toNat * 7)).off + 2, none⟩ = some (.int .i64 ((rd_T53 l0_1 x41_2).f2)) ∧ w'.cell? ⟨(ad513.add ((x41_2).toNat * 7)).block, (ad513.add ((x41_2).toNat * 7)).off + 3, none⟩ = some (.int .i64 ((rd_T53 l0_1 x41_2).f3)) ∧ w'.cell? ⟨(ad513.add ((x41_2).toNat * 7)).block, (ad513.add ((x41_2).toNat * 7)).off + 4, none⟩ = some (.int .i64 ((rd_T53 l0_1 x41_2).f4)) ∧ w'.cell? ⟨(ad513.add ((x41_2).toNat * 7)).block, (ad513.add ((x41_2).toNat * 7)).off + 5, none⟩ = some (.int .i64 ((rd_T53 l0_1 x41_2).f5)) ∧ w'.cell? ⟨(ad513.add ((x41_2).toNat * 7)).block, (ad513.add ((x41_2).toNat * 7)).off + 6, none⟩ = some (.int .i64 ((rd_T53 l0_1 x41_2).f6)) ∧ w'.cell? (ad521.add (x41_2).toNat) = some (.slice A521_0 (rd_L12 l0_2 x41_2).length c521_0) ∧ w'.cell? (ad522.add (x41_2).toNat) = some (.slice A522_0 (rd_L12 l0_3 x41_2).length c522_0)) (ds := []) #[false, false, false, false, false, false, false, false, false, false, false, false, false, false, false, false, false, false, false] (by kernel_rfl) rfl rfl ⟨c0_ BK502.out, c1_ BK502.out, c2_ BK502.out, c3_ BK502.out, c4_ BK502.out, c5_ BK502.out, (hc_ HB.out hw513_0), (hc_ HB.out hw513_1), (hc_ HB.out hw513_2), (hc_ HB.out hw513_3), (hc_ HB.out hw513_4), (hc_ HB.out hw513_5), (hc_ HB.out hw513_6), (hc_ HB.out hw521_0), (hc_ HB.out hw522_0)⟩ (fun hHeld => ?_); refine with_tabW credenzalaw14_AttnFused.tab10 credenzalaw14_AttnFused.bits10 (fun HT_ HW_ => ?_)
             generalize wr.drew = w32 at HO_3 HO_5 HO_6 HO_39 HO_503004 HO_503005 BK502 HB HR521_0 HR522_0 hx513_0 hx513_1 hx513_2 hx513_3 hx513_4 hx513_5 hx513_6 hx521_0 hx522_0 hHeld ⊢
             refine pure_ (i := 0) (N := some 48) (v := ?_) (a' := ?_) #[true, false, false, false, false, false, false, false, false, false, false, false, false, false, false, false, false, false, false] rfl rfl (any_of HT_.out (by kernel_rfl)) (fun _ _ _ h => h) (Or.inl ⟨by rfl, ?_⟩) ?_ ?_
             rotate_left
             ·intro w'
              go_simp
              with_reducible rfl
             rotate_left
             ·simp only [Act.put, ps_, i64_w, i32_w]
              rfl
             refine pure_ (i := 2) (N := some 50) (v := ?_) (a' := ?_) #[true, false, true, false, false, false, false, false, false, false, false, false, false, false, false, false, false, false, false] rfl rfl (any_of HT_.out (by kernel_rfl)) (fun _ _ _ h => h) (Or.inl ⟨by rfl, ?_⟩) ?_ ?_
             rotate_left
             ·intro w'
              go_simp
              with_reducible rfl
             rotate_left
             ·simp only [Act.put, ps_, i64_w, i32_w]
              rfl
             refine pure_ (i := 6) (N := some 54) (v := ?_) (a' := ?_) #[true, false, true, false, false, false, true, false, false, false, false, false, false, false, false, false, false, false, false] rfl rfl (any_of HT_.out (by kernel_rfl)) (fun _ _ _ h => h) (Or.inl ⟨by rfl, ?_⟩) ?_ ?_
             rotate_left
             ·intro w'
              go_simp
              with_reducible rfl
             rotate_left
             ·simp only [Act.put, ps_, i64_w, i32_w]
              rfl
             refine pure_ (i := 8) (N := some 56) (v := ?_) (a' := ?_) #[true, false, true, false, false, false, true, false, true, false, false, false, false, false, false, false, false, false, false] rfl rfl (any_of HT_.out (by kernel_rfl)) (fun _ _ _ h => h) (Or.inl ⟨by rfl, ?_⟩) ?_ ?_
             rotate_left
             ·intro w'
              go_simp
              with_reducible rfl
             rotate_left
             ·simp only [Act.put, ps_, i64_w, i32_w]
              rfl
             refine pure_ (i := 11) (N := some 59) (v := ?_) (a' := ?_) #[true, false, true, false, false, false, true, false, true, false, false, true, false, false, false, false, false, false, false] rfl rfl (any_of HT_.out (by kernel_rfl)) (fun _ _ _ h => h) (Or.inl ⟨by rfl, ?_⟩) ?_ ?_
             rotate_left
             ·intro w'
              go_simp
              with_reducible rfl
             rotate_left
             ·simp only [Act.put, ps_, i64_w, i32_w]
              rfl
             refine pure_ (i := 13) (N := some 61) (v := ?_) (a' := ?_) #[true, false, true, false, false, false, true, false, true, false, false, true, false, true, false, false, false, false, false] rfl rfl (any_of HT_.out (by kernel_rfl)) (fun _ _ _ h => h) (Or.inl ⟨by rfl, ?_⟩) ?_ ?_
             rotate_left
             ·intro w'
              go_simp
              with_reducible rfl
             rotate_left
             ·simp only [Act.put, ps_, i64_w, i32_w]
              rfl
             refine take_ (i := 1) (N := some 49) (v := ?_) (a' := ?_) #[true, true, true, false, false, false, true, false, true, false, false, true, false, true, false, false, false, false, false] rfl rfl (take_ofW HT_.out HW_.out (by kernel_rfl)) (fun _ _ _ h => h) (Or.inl ⟨by rfl, ?_⟩) hHeld ?_ ?_
             rotate_left
             ·rintro w' ⟨s0, s1, s2, s3, s4, s5, s6, s7, s8, s9, s10, s11, s12, s13, s14⟩
              go_simp
              with_reducible rfl
             rotate_left
             ·simp only [Act.put, ps_, i64_w, i32_w]
              rfl
             refine pure_ (i := 3) (N := some 51) (v := ?_) (a' := ?_) #[true, true, true, true, false, false, true, false, true, false, false, true, false, true, false, false, false, false, false] rfl rfl (any_of HT_.out (by kernel_rfl)) (fun _ _ _ h => h) (Or.inl ⟨by rfl, ?_⟩) ?_ ?_
             rotate_left
             ·intro w'
              go_simp
              with_reducible rfl
             rotate_left
             ·simp only [Act.put, ps_, i64_w, i32_w]
              rfl
             refine take_ (i := 4) (N := some 52) (v := ?_) (a' := ?_) #[true, true, true, true, true, false, true, false, true, false, false, true, false, true, false, false, false, false, false] rfl rfl (take_ofW HT_.out HW_.out (by kernel_rfl)) (fun _ _ _ h => h) (Or.inl ⟨by rfl, ?_⟩) hHeld ?_ ?_
             rotate_left
             ·rintro w' ⟨s0, s1, s2, s3, s4, s5, s6, s7, s8, s9, s10, s11, s12, s13, s14⟩
              go_simp
              with_reducible rfl
             rotate_left
             ·simp only [Act.put, ps_, i64_w, i32_w]
              rfl
             refine take_ (i := 7) (N := some 55) (v := ?_) (a' := ?_) #[true, true, true, true, true, false, true, true, true, false, false, true, false, true, false, false, false, false, false] rfl rfl (take_ofW HT_.out HW_.out (by kernel_rfl)) (fun _ _ _ h => h) (Or.inl ⟨by rfl, ?_⟩) hHeld ?_ ?_
             rotate_left
             ·rintro w' ⟨s0, s1, s2, s3, s4, s5, s6, s7, s8, s9, s10, s11, s12, s13, s14⟩
              go_simp
              with_reducible rfl
             rotate_left
             ·simp only [Act.put, ps_, i64_w, i32_w]
              rfl
             refine pure_ (i := 9) (N := some 57) (v := ?_) (a' := ?_) #[true, true, true, true, true, false, true, true, true, true, false, true, false, true, false, false, false, false, false] rfl rfl (any_of HT_.out (by kernel_rfl)) (fun _ _ _ h => h) (Or.inl ⟨by rfl, ?_⟩) ?_ ?_
             rotate_left
             ·intro w'
              go_simp
              with_reducible rfl
             rotate_left
             ·simp only [Act.put, ps_, i64_w, i32_w]
              rfl
             refine take_ (i := 10) (N := some 58) (v := ?_) (a' := ?_) #[true, true, true, true, true, false, true, true, true, true, true, true, false, true, false, false, false, false, false] rfl rfl (take_ofW HT_.out HW_.out (by kernel_rfl)) (fun _ _ _ h => h) (Or.inl ⟨by rfl, ?_⟩) hHeld ?_ ?_
             rotate_left
             ·rintro w' ⟨s0, s1, s2, s3, s4, s5, s6, s7, s8, s9, s10, s11, s12, s13, s14⟩
              go_simp
              with_reducible rfl
             rotate_left
             ·simp only [Act.put, ps_, i64_w, i32_w]
              rfl
             refine take_ (i := 12) (N := some 60) (v := ?_) (a' := ?_) #[true, true, true, true, true, false, true, true, true, true, true, true, true, true, false, false, false, false, false] rfl rfl (take_ofW HT_.out HW_.out (by kernel_rfl)) (fun _ _ _ h => h) (Or.inl ⟨by rfl, ?_⟩) hHeld ?_ ?_
             rotate_left
             ·rintro w' ⟨s0, s1, s2, s3, s4, s5, s6, s7, s8, s9, s10, s11, s12, s13, s14⟩
              go_simp
              with_reducible rfl
             rotate_left
             ·simp only [Act.put, ps_, i64_w, i32_w]
              rfl
             refine pure_ (i := 14) (N := some 62) (v := ?_) (a' := ?_) #[true, true, true, true, true, false, true, true, true, true, true, true, true, true, true, false, false, false, false] rfl rfl (any_of HT_.out (by kernel_rfl)) (fun _ _ _ h => h) (Or.inl ⟨by rfl, ?_⟩) ?_ ?_
             rotate_left
             ·intro w'
              go_simp
              with_reducible rfl
             rotate_left
             ·simp only [Act.put, ps_, i64_w, i32_w]
              rfl
             refine take_ (i := 15) (N := some 63) (v := ?_) (a' := ?_) #[true, true, true, true, true, false, true, true, true, true, true, true, true, true, true, true, false, false, false] rfl rfl (take_ofW HT_.out HW_.out (by kernel_rfl)) (fun _ _ _ h => h) (Or.inl ⟨by rfl, ?_⟩) hHeld ?_ ?_
             rotate_left
             ·rintro w' ⟨s0, s1, s2, s3, s4, s5, s6, s7, s8, s9, s10, s11, s12, s13, s14⟩
              go_simp
              with_reducible rfl
             rotate_left
             ·simp only [Act.put, ps_, i64_w, i32_w]
              rfl
             refine join_ (σ := Value × Value × Nat) 1 #[true, true, true, true, true, true, true, true, true, true, true, true, true, true, true, true, true, true, false] (fun s_ => [(53, .agg #[.int .i64 t514, .int .i64 t515, .int .i64 t516, .int .i64 t517, .int .i64 t518, .int .i64 t519, .int .i64 t520]), (64, .agg #[.int .i64 t523, .int .i64 t524, .int .i64 t525, .int .i64 t526, .int .i64 t527, .int .i64 t528, .int .i64 t529, s_.1, s_.2.1]), (9, .pointer (some ⟨s_.2.2, 0, none⟩))]) (fun s_ w' => (w'.cell? ⟨gb502, 0, none⟩ = some (.slice A0_0 l0_0.length c0_0) ∧ w'.cell? ⟨gb502, 1, none⟩ = some (.slice (some ad513) l0_1.length c0_1) ∧ w'.cell? ⟨gb502, 2, none⟩ = some (.slice (some ad521) l0_2.length c0_2) ∧ w'.cell? ⟨gb502, 3, none⟩ = some (.slice (some ad522) l0_3.length c0_3) ∧ w'.cell? ⟨gb502, 4, none⟩ = some (.slice A0_4 l0_4.length c0_4) ∧ w'.cell? ⟨gb502, 5, none⟩ = some (.slice A0_5 l0_5.length c0_5) ∧ w'.cell? (ad513.add ((x41_2).toNat * 7)) = some (.int .i64 ((rd_T53 l0_1 x41_2).f0)) ∧ w'.cell? ⟨(ad513.add ((x41_2).toNat * 7)).block, (ad513.add ((x41_2).toNat * 7)).off + 1, none⟩ = some (.int .i64 ((rd_T53 l0_1 x41_2).f1)) ∧ w'.cell? ⟨(ad513.add ((x41_2).toNat * 7)).block, (ad513.add ((x41_2).toNat * 7)).off + 2, none⟩ = some (.int .i64 ((rd_T53 l0_1 x41_2).f2)) ∧ w'.cell? ⟨(ad513.add ((x41_2).toNat * 7)).block, (ad513.add ((x41_2).toNat * 7)).off + 3, none⟩ = some (.int .i64 ((rd_T53 l0_1 x41_2).f3)) ∧ w'.cell? ⟨(ad513.add ((x41_2).toNat * 7)).block, (ad513.add ((x41_2).toNat * 7)).off + 4, none⟩ = some (.int .i64 ((rd_T53 l0_1 x41_2).f4)) ∧ w'.cell? ⟨(ad513.add ((x41_2).toNat * 7)).block, (ad513.add ((x41_2).toNat * 7)).off + 5, none⟩ = some (.int .i64 ((rd_T53 l0_1 x41_2).f5)) ∧ w'.cell? ⟨(ad513.add ((x41_2).toNat * 7)).block, (ad513.add ((x41_2).toNat * 7)).off + 6, none⟩ = some (.int .i64 ((rd_T53 l0_1 x41_2).f6)) ∧ w'.cell? (ad521.add (x41_2).toNat) = some (.slice A521_0 (rd_L12 l0_2 x41_2).length c521_0) ∧ w'.cell? (ad522.add (x41_2).toNat) = some (.slice A522_0 (rd_L12 l0_3 x41_2).length c522_0)) ∧ (Kd.N k72 72 w' w.heap.size (fun k_ => ((P0_4_ k_ ∨ P0_5_ k_) ∨ w.heap.size ≤ k_) ∧ some k_ ≠ (s_.2.1 : Value).ownBlock ∧ some k_ ≠ (.slice (some ad512) t503.length co22 : Value).ownBlock ∧ some k_ ≠ (.slice (some ad512) t503.length co22 : Value).ownBlock ∧ some k_ ≠ (u5 : Value).ownBlock ∧ some k_ ≠ (u6 : Value).ownBlock ∧ k_ ≠ gb502 ∧ k_ ≠ s_.2.2) s_.1 t530) ∧ (Kd.N k72 72 w' w.heap.size (fun k_ => ((P0_4_ k_ ∨ P0_5_ k_) ∨ w.heap.size ≤ k_) ∧ some k_ ≠ (s_.1 : Value).ownBlock ∧ some k_ ≠ (.slice (some ad512) t503.length co22 : Value).ownBlock ∧ some k_ ≠ (.slice (some ad512) t503.length co22 : Value).ownBlock ∧ some k_ ≠ (u5 : Value).ownBlock ∧ some k_ ≠ (u6 : Value).ownBlock ∧ k_ ≠ gb502 ∧ k_ ≠ s_.2.2) s_.2.1 t533) ∧ (Kd.R (Kd.ptr 125 k125) 45 w' w.heap.size (fun k_ => (w.heap.size ≤ k_)) (.slice (some ad512) t503.length co22) t503) ∧ (Kd.R (Kd.ptr 125 k125) 45 w' w.heap.size (fun k_ => (w.heap.size ≤ k_)) (.slice (some ad512) t503.length co22) t503) ∧ (Kd.N (Kd.slice 21 (Kd.int .i32)) 22 w' w.heap.size (fun k_ => ((P0_4_ k_ ∨ P0_5_ k_) ∨ w.heap.size ≤ k_) ∧ some k_ ≠ (s_.1 : Value).ownBlock ∧ some k_ ≠ (s_.2.1 : Value).ownBlock ∧ some k_ ≠ (.slice (some ad512) t503.length co22 : Value).ownBlock ∧ some k_ ≠ (.slice (some ad512) t503.length co22 : Value).ownBlock ∧ some k_ ≠ (u6 : Value).ownBlock ∧ k_ ≠ gb502 ∧ k_ ≠ s_.2.2) u5 x5_2) ∧ (Kd.V (Kd.slice 21 (Kd.int .i32)) 22 w' w.heap.size (fun k_ => ((P0_4_ k_ ∨ P0_5_ k_) ∨ w.heap.size ≤ k_) ∧ some k_ ≠ (s_.1 : Value).ownBlock ∧ some k_ ≠ (s_.2.1 : Value).ownBlock ∧ some k_ ≠ (.slice (some ad512) t503.length co22 : Value).ownBlock ∧ some k_ ≠ (.slice (some ad512) t503.length co22 : Value).ownBlock ∧ some k_ ≠ (u5 : Value).ownBlock ∧ some k_ ≠ (u6 : Value).ownBlock ∧ k_ ≠ gb502 ∧ k_ ≠ s_.2.2) (.slice A0_4 l0_4.length c0_4) l0_4) ∧ (Kd.V (Kd.slice 21 (Kd.int .i32)) 22 w' w.heap.size (fun k_ => ((P0_4_ k_ ∨ P0_5_ k_) ∨ w.heap.size ≤ k_) ∧ some k_ ≠ (s_.1 : Value).ownBlock ∧ some k_ ≠ (s_.2.1 : Value).ownBlock ∧ some k_ ≠ (.slice (some ad512) t503.length co22 : Value).ownBlock ∧ some k_ ≠ (.slice (some ad512) t503.length co22 : Value).ownBlock ∧ some k_ ≠ (u5 : Value).ownBlock ∧ some k_ ≠ (u6 : Value).ownBlock ∧ k_ ≠ gb502 ∧ k_ ≠ s_.2.2) (.slice A0_5 l0_5.length c0_5) l0_5) ∧ (Kd.N (Kd.slice 21 (Kd.int .i32)) 22 w' w.heap.size (fun k_ => ((P0_4_ k_ ∨ P0_5_ k_) ∨ w.heap.size ≤ k_) ∧ some k_ ≠ (s_.1 : Value).ownBlock ∧ some k_ ≠ (s_.2.1 : Value).ownBlock ∧ some k_ ≠ (.slice (some ad512) t503.length co22 : Value).ownBlock ∧ some k_ ≠ (.slice (some ad512) t503.length co22 : Value).ownBlock ∧ some k_ ≠ (u5 : Value).ownBlock ∧ k_ ≠ gb502 ∧ k_ ≠ s_.2.2) u6 x6_2) ∧ (w'.heap[gb502]? = some (.cells #[.slice A0_0 l0_0.length c0_0, .slice (some ad513) l0_1.length c0_1, .slice (some ad521) l0_2.length c0_2, .slice (some ad522) l0_3.length c0_3, .slice A0_4 l0_4.length c0_4, .slice A0_5 l0_5.length c0_5] 41 (0, 0))) ∧ (w'.heap[s_.2.2]? = some (.cells #[.int .i64 0, .int .i64 0, .int .i64 0, .int .i64 0, .int .i64 0, .int .i64 0, .int .i64 0, .slice none 0 0, .slice none 0 0] 49 (0, 0))) ∧ (w.heap.size ≤ s_.2.2) ∧ (w.heap.size ≤ s_.2.2) ∧ (gb502 ≠ s_.2.2) ∧ (s_.2.2 ≠ gb502) ∧ (Below w.heap.size w w')) ?_ ?_
             rotate_left
             ·intro hCont
              refine two_ (i := 5) (j := 17) (Ni := some 53) (Nj := some 9) #[true, true, true, true, true, true, true, true, true, true, true, true, true, true, true, true, false, false, false] #[true, true, true, true, true, false, true, true, true, true, true, true, true, true, true, true, false, true, false] rfl rfl rfl rfl (two_of HT_.out (by kernel_rfl)) (by decide) (by decide) (fun K hK => ?_) (fun K hK => ?_)
              ·skip
               refine goes_ Try.func19 (by kernel_rfl) rfl #[.agg #[.int .i64 ((rd_T53 l0_1 x41_2).f0), .int .i64 ((rd_T53 l0_1 x41_2).f1), .int .i64 ((rd_T53 l0_1 x41_2).f2), .int .i64 ((rd_T53 l0_1 x41_2).f3), .int .i64 ((rd_T53 l0_1 x41_2).f4), .int .i64 ((rd_T53 l0_1 x41_2).f5), .int .i64 ((rd_T53 l0_1 x41_2).f6)]] (by rfl) rfl rfl ar_ ?_
               with_reducible refine (credenzalaw14_head.calls ((rd_T53 l0_1 x41_2).f0) ((rd_T53 l0_1 x41_2).f1) ((rd_T53 l0_1 x41_2).f2) ((rd_T53 l0_1 x41_2).f3) ((rd_T53 l0_1 x41_2).f4) ((rd_T53 l0_1 x41_2).f5) ((rd_T53 l0_1 x41_2).f6) t514 t515 t516 t517 t518 t519 t520 _ A28.out).mono ?_
               rintro e w33 ⟨rfl, hb⟩
               refine ⟨_, rfl, ?_⟩
               replace HO_3 := A_ (Kd.R_below (mv_ HO_3.out) hb)
               replace HO_5 := A_ (Kd.N_below (mv_ HO_5.out) hb)
               replace HO_6 := A_ (Kd.N_below (mv_ HO_6.out) hb)
               replace HO_39 := A_ (Kd.R_below (mv_ HO_39.out) hb)
               replace HO_503004 := A_ (Kd.V_below (mv_ HO_503004.out) hb)
               replace HO_503005 := A_ (Kd.V_below (mv_ HO_503005.out) hb)
               replace BK502 := A_ (bb_ BK502.out hb)
               replace HB := A_ (below_step bl_ hb)
               refine hK.out _ _ ⟨c0_ BK502.out, c1_ BK502.out, c2_ BK502.out, c3_ BK502.out, c4_ BK502.out, c5_ BK502.out, (hc_ HB.out hw513_0), (hc_ HB.out hw513_1), (hc_ HB.out hw513_2), (hc_ HB.out hw513_3), (hc_ HB.out hw513_4), (hc_ HB.out hw513_5), (hc_ HB.out hw513_6), (hc_ HB.out hw521_0), (hc_ HB.out hw522_0)⟩ (fun hHeld => ?_)
               clear hK K
               refine norm_ (a' := ?_) ?_ ?_
               rotate_left
               ·show Act.put _ (some 53) _ = _
                simp only [Act.put, ps_, i64_w, i32_w]
                rfl
               refine two_ (i := 16) (j := 17) (Ni := some 64) (Nj := some 9) #[true, true, true, true, true, true, true, true, true, true, true, true, true, true, true, true, true, false, false] #[true, true, true, true, true, true, true, true, true, true, true, true, true, true, true, true, false, true, false] rfl rfl rfl rfl (two_of HT_.out (by kernel_rfl)) (by decide) (by decide) (fun K hK => ?_) (fun K hK => ?_)
               ·skip
                refine goes_ Try.func18 (by kernel_rfl) rfl #[.agg #[.int .i64 t514, .int .i64 t515, .int .i64 t516, .int .i64 t517, .int .i64 t518, .int .i64 t519, .int .i64 t520], .slice A521_0 (rd_L12 l0_2 x41_2).length c521_0, .slice A522_0 (rd_L12 l0_3 x41_2).length c522_0] (by rfl) rfl rfl ar_ ?_
                with_reducible refine (credenzaref08_Quantize.calls k2 t514 t515 t516 t517 t518 t519 t520 _ _ (rd_L12 l0_2 x41_2) _ _ (rd_L12 l0_3 x41_2) t523 t524 t525 t526 t527 t528 t529 t530 t533 _ ?side1 ?side2 ?side3 ?side4 A31.out).mono ?_
                (case side1 => exact cb_ (Kd.C_below HR521_0.out HB.out))
                (case side2 => exact HC521_0.out)
                (case side3 => exact cb_ (Kd.C_below HR522_0.out HB.out))
                (case side4 => exact HC522_0.out)
                rintro e w34 ⟨v531, v534, rfl, ho0, ho1, hb⟩
                refine ⟨_, rfl, ?_⟩
                replace HO_503004 := A_ (Kd.V_mono (Kd.V_told (Kd.V_told (Kd.V_old (mv_ HO_503004.out) hb) (nb_ ho0)) (nb_ ho1)) (fun _ h_ => h_.1))
                replace HO_503005 := A_ (Kd.V_mono (Kd.V_told (Kd.V_told (Kd.V_old (mv_ HO_503005.out) hb) (nb_ ho0)) (nb_ ho1)) (fun _ h_ => h_.1))
                have HO532 := A_ (Kd.N_lower (Kd.N_mono (ok' := fun k_ => ((P0_4_ k_ ∨ P0_5_ k_) ∨ w.heap.size ≤ k_) ∧ some k_ ≠ (v534 : Value).ownBlock ∧ some k_ ≠ (.slice (some ad512) t503.length co22 : Value).ownBlock ∧ some k_ ≠ (u5 : Value).ownBlock ∧ some k_ ≠ (u6 : Value).ownBlock ∧ some k_ ≠ (.slice (some ad512) t503.length co22 : Value).ownBlock ∧ k_ ≠ gb502) (Kd.S_N (Kd.S_bound ho0)) (fun k_ hk_ => ⟨(.inr (Nat.le_trans (below_size bl_) hk_.2.1)), hk_.1, (Kd.fresh' (Kd.R_lt (mv_ HO_3.out)) k_ hk_.2.1), (Kd.fresh' (Kd.N_lt (mv_ HO_5.out)) k_ hk_.2.1), (Kd.fresh' (Kd.N_lt (mv_ HO_6.out)) k_ hk_.2.1), (Kd.fresh' (Kd.R_lt (mv_ HO_39.out)) k_ hk_.2.1), (Kd.freshB (g := gb502) (o := .cells #[.slice A0_0 l0_0.length c0_0, .slice (some ad513) l0_1.length c0_1, .slice (some ad521) l0_2.length c0_2, .slice (some ad522) l0_3.length c0_3, .slice A0_4 l0_4.length c0_4, .slice A0_5 l0_5.length c0_5] 41 (0, 0)) (mv_ BK502.out) k_ hk_.2.1)⟩)) (below_size bl_))
                have HO535 := A_ (Kd.N_lower (Kd.N_mono (ok' := fun k_ => ((P0_4_ k_ ∨ P0_5_ k_) ∨ w.heap.size ≤ k_) ∧ some k_ ≠ (v531 : Value).ownBlock ∧ some k_ ≠ (.slice (some ad512) t503.length co22 : Value).ownBlock ∧ some k_ ≠ (u5 : Value).ownBlock ∧ some k_ ≠ (u6 : Value).ownBlock ∧ some k_ ≠ (.slice (some ad512) t503.length co22 : Value).ownBlock ∧ k_ ≠ gb502) (Kd.S_N (Kd.S_bound ho1)) (fun k_ hk_ => ⟨(.inr (Nat.le_trans (below_size bl_) hk_.2.1)), hk_.1, (Kd.fresh' (Kd.R_lt (mv_ HO_3.out)) k_ hk_.2.1), (Kd.fresh' (Kd.N_lt (mv_ HO_5.out)) k_ hk_.2.1), (Kd.fresh' (Kd.N_lt (mv_ HO_6.out)) k_ hk_.2.1), (Kd.fresh' (Kd.R_lt (mv_ HO_39.out)) k_ hk_.2.1), (Kd.freshB (g := gb502) (o := .cells #[.slice A0_0 l0_0.length c0_0, .slice (some ad513) l0_1.length c0_1, .slice (some ad521) l0_2.length c0_2, .slice (some ad522) l0_3.length c0_3, .slice A0_4 l0_4.length c0_4, .slice A0_5 l0_5.length c0_5] 41 (0, 0)) (mv_ BK502.out) k_ hk_.2.1)⟩)) (below_size bl_))
                replace HO_3 := A_ (Kd.R_below (mv_ HO_3.out) hb)
                replace HO_5 := A_ (Kd.N_mono (Kd.N_told (Kd.N_told (Kd.N_old (mv_ HO_5.out) hb) (nb_ ho0)) (nb_ ho1)) (fun _ h_ => h_.1))
                replace HO_6 := A_ (Kd.N_mono (Kd.N_told (Kd.N_told (Kd.N_old (mv_ HO_6.out) hb) (nb_ ho0)) (nb_ ho1)) (fun _ h_ => h_.1))
                replace HO_39 := A_ (Kd.R_below (mv_ HO_39.out) hb)
                replace BK502 := A_ (bb_ BK502.out hb)
                replace HB := A_ (below_step bl_ hb)
                refine hK.out _ _ ⟨c0_ BK502.out, c1_ BK502.out, c2_ BK502.out, c3_ BK502.out, c4_ BK502.out, c5_ BK502.out, (hc_ HB.out hw513_0), (hc_ HB.out hw513_1), (hc_ HB.out hw513_2), (hc_ HB.out hw513_3), (hc_ HB.out hw513_4), (hc_ HB.out hw513_5), (hc_ HB.out hw513_6), (hc_ HB.out hw521_0), (hc_ HB.out hw522_0)⟩ (fun hHeld => ?_)
                clear hK K
                refine norm_ (a' := ?_) ?_ ?_
                rotate_left
                ·show Act.put _ (some 64) _ = _
                 simp only [Act.put, ps_, i64_w, i32_w]
                 rfl
                refine one_ (i := 17) (N := some 9) #[true, true, true, true, true, true, true, true, true, true, true, true, true, true, true, true, true, true, false] rfl rfl (one_of HT_.out (by kernel_rfl)) (by decide) (fun K hK => ?_)
                refine box_step ?hg (N := 9) ?hd (cs := #[.int .i64 0, .int .i64 0, .int .i64 0, .int .i64 0, .int .i64 0, .int .i64 0, .int .i64 0, .slice none 0 0, .slice none 0 0]) (t := 49) ?hr ?_; (case hd => rfl); (case hg => rfl); (case hr => first | (go_simp; done) | (go_simp; rfl))
                intro gb536 hg w35 hbox hb
                replace HO_3 := A_ (Kd.R_below (mv_ HO_3.out) hb)
                replace HO_5 := A_ (Kd.N_below (Kd.N_elderB (mv_ HO_5.out) gb536 (Nat.le_of_eq hg.symm)) hb)
                replace HO_6 := A_ (Kd.N_below (Kd.N_elderB (mv_ HO_6.out) gb536 (Nat.le_of_eq hg.symm)) hb)
                replace HO_39 := A_ (Kd.R_below (mv_ HO_39.out) hb)
                replace HO_503004 := A_ (Kd.V_below (Kd.V_elderB (mv_ HO_503004.out) gb536 (Nat.le_of_eq hg.symm)) hb)
                replace HO_503005 := A_ (Kd.V_below (Kd.V_elderB (mv_ HO_503005.out) gb536 (Nat.le_of_eq hg.symm)) hb)
                replace HO532 := A_ (Kd.N_below (Kd.N_elderB (mv_ HO532.out) gb536 (Nat.le_of_eq hg.symm)) hb)
                replace HO535 := A_ (Kd.N_below (Kd.N_elderB (mv_ HO535.out) gb536 (Nat.le_of_eq hg.symm)) hb)
                have BK536 := A_ hbox
                have GW536 := A_ (gw_ w hg)
                have GE536 := A_ (gw_ w hg)
                have NB502_536 := A_ ((by rw [hg]; exact Nat.ne_of_lt (lt_ BK502.out) : gb502 ≠ gb536))
                have NB536_502 := A_ ((by rw [hg]; exact Nat.ne_of_gt (lt_ BK502.out) : gb536 ≠ gb502))
                replace BK502 := A_ (bb_ BK502.out hb)
                replace HB := A_ (below_step bl_ hb)
                clear hb hbox hg
                refine hK.out _ _ ⟨c0_ BK502.out, c1_ BK502.out, c2_ BK502.out, c3_ BK502.out, c4_ BK502.out, c5_ BK502.out, (hc_ HB.out hw513_0), (hc_ HB.out hw513_1), (hc_ HB.out hw513_2), (hc_ HB.out hw513_3), (hc_ HB.out hw513_4), (hc_ HB.out hw513_5), (hc_ HB.out hw513_6), (hc_ HB.out hw521_0), (hc_ HB.out hw522_0)⟩ (fun hHeld => ?_)
                clear hK K
                refine norm_ (a' := ?_) ?_ ?_
                rotate_left
                ·show Act.put _ (some 9) _ = _
                 simp only [Act.put, ps_, i64_w, i32_w]
                 rfl
                exact norm_ (by simp only [putAll, Act.put, ps_]) (hCont (v531, v534, gb536) _ ⟨hHeld, (by (with_reducible repeat (first | apply Kd.N_alloc | apply Kd.N_drewN | apply Kd.N_drew)); exact Kd.N_mono HO532.out (fun _ hk => ⟨hk.1.1, ⟨hk.1.2.1, ⟨hk.1.2.2.1, ⟨hk.1.2.2.2.2.2.1, ⟨hk.1.2.2.2.1, ⟨hk.1.2.2.2.2.1, ⟨hk.1.2.2.2.2.2.2, hk.2⟩⟩⟩⟩⟩⟩⟩)), (by (with_reducible repeat (first | apply Kd.N_alloc | apply Kd.N_drewN | apply Kd.N_drew)); exact Kd.N_mono HO535.out (fun _ hk => ⟨hk.1.1, ⟨hk.1.2.1, ⟨hk.1.2.2.1, ⟨hk.1.2.2.2.2.2.1, ⟨hk.1.2.2.2.1, ⟨hk.1.2.2.2.2.1, ⟨hk.1.2.2.2.2.2.2, hk.2⟩⟩⟩⟩⟩⟩⟩)), (mv_ HO_3.out), (mv_ HO_39.out), (by (with_reducible repeat (first | apply Kd.N_alloc | apply Kd.N_drewN | apply Kd.N_drew)); exact Kd.N_mono HO_5.out (fun _ hk => ⟨hk.1.1.1.1, ⟨hk.1.1.2, ⟨hk.1.2, ⟨hk.1.1.1.2.1, ⟨hk.1.1.1.2.2.2.1, ⟨hk.1.1.1.2.2.1, ⟨hk.1.1.1.2.2.2.2, hk.2⟩⟩⟩⟩⟩⟩⟩)), (by (with_reducible repeat (first | apply Kd.V_alloc | apply Kd.V_drewN | apply Kd.V_drew)); exact Kd.V_mono HO_503004.out (fun _ hk => ⟨hk.1.1.1.1, ⟨hk.1.1.2, ⟨hk.1.2, ⟨hk.1.1.1.2.1, ⟨hk.1.1.1.2.2.2.2.1, ⟨hk.1.1.1.2.2.1, ⟨hk.1.1.1.2.2.2.1, ⟨hk.1.1.1.2.2.2.2.2, hk.2⟩⟩⟩⟩⟩⟩⟩⟩)), (by (with_reducible repeat (first | apply Kd.V_alloc | apply Kd.V_drewN | apply Kd.V_drew)); exact Kd.V_mono HO_503005.out (fun _ hk => ⟨hk.1.1.1.1, ⟨hk.1.1.2, ⟨hk.1.2, ⟨hk.1.1.1.2.1, ⟨hk.1.1.1.2.2.2.2.1, ⟨hk.1.1.1.2.2.1, ⟨hk.1.1.1.2.2.2.1, ⟨hk.1.1.1.2.2.2.2.2, hk.2⟩⟩⟩⟩⟩⟩⟩⟩)), (by (with_reducible repeat (first | apply Kd.N_alloc | apply Kd.N_drewN | apply Kd.N_drew)); exact Kd.N_mono HO_6.out (fun _ hk => ⟨hk.1.1.1.1, ⟨hk.1.1.2, ⟨hk.1.2, ⟨hk.1.1.1.2.1, ⟨hk.1.1.1.2.2.2.1, ⟨hk.1.1.1.2.2.1, ⟨hk.1.1.1.2.2.2.2, hk.2⟩⟩⟩⟩⟩⟩⟩)), (mv_ BK502.out), (mv_ BK536.out), GW536.out, GE536.out, NB502_536.out, NB536_502.out, bl_⟩)
               ·skip
                refine box_step ?hg (N := 9) ?hd (cs := #[.int .i64 0, .int .i64 0, .int .i64 0, .int .i64 0, .int .i64 0, .int .i64 0, .int .i64 0, .slice none 0 0, .slice none 0 0]) (t := 49) ?hr ?_; (case hd => rfl); (case hg => rfl); (case hr => first | (go_simp; done) | (go_simp; rfl))
                intro gb536 hg w34 hbox hb
                replace HO_3 := A_ (Kd.R_below (mv_ HO_3.out) hb)
                replace HO_5 := A_ (Kd.N_below (Kd.N_elderB (mv_ HO_5.out) gb536 (Nat.le_of_eq hg.symm)) hb)
                replace HO_6 := A_ (Kd.N_below (Kd.N_elderB (mv_ HO_6.out) gb536 (Nat.le_of_eq hg.symm)) hb)
                replace HO_39 := A_ (Kd.R_below (mv_ HO_39.out) hb)
                replace HO_503004 := A_ (Kd.V_below (Kd.V_elderB (mv_ HO_503004.out) gb536 (Nat.le_of_eq hg.symm)) hb)
                replace HO_503005 := A_ (Kd.V_below (Kd.V_elderB (mv_ HO_503005.out) gb536 (Nat.le_of_eq hg.symm)) hb)
                have BK536 := A_ hbox
                have GW536 := A_ (gw_ w hg)
                have GE536 := A_ (gw_ w hg)
                have NB502_536 := A_ ((by rw [hg]; exact Nat.ne_of_lt (lt_ BK502.out) : gb502 ≠ gb536))
                have NB536_502 := A_ ((by rw [hg]; exact Nat.ne_of_gt (lt_ BK502.out) : gb536 ≠ gb502))
                replace BK502 := A_ (bb_ BK502.out hb)
                replace HB := A_ (below_step bl_ hb)
                clear hb hbox hg
                refine hK.out _ _ ⟨c0_ BK502.out, c1_ BK502.out, c2_ BK502.out, c3_ BK502.out, c4_ BK502.out, c5_ BK502.out, (hc_ HB.out hw513_0), (hc_ HB.out hw513_1), (hc_ HB.out hw513_2), (hc_ HB.out hw513_3), (hc_ HB.out hw513_4), (hc_ HB.out hw513_5), (hc_ HB.out hw513_6), (hc_ HB.out hw521_0), (hc_ HB.out hw522_0)⟩ (fun hHeld => ?_)
                clear hK K
                refine norm_ (a' := ?_) ?_ ?_
                rotate_left
                ·show Act.put _ (some 9) _ = _
                 simp only [Act.put, ps_, i64_w, i32_w]
                 rfl
                refine one_ (i := 16) (N := some 64) #[true, true, true, true, true, true, true, true, true, true, true, true, true, true, true, true, true, true, false] rfl rfl (one_of HT_.out (by kernel_rfl)) (by decide) (fun K hK => ?_)
                refine goes_ Try.func18 (by kernel_rfl) rfl #[.agg #[.int .i64 t514, .int .i64 t515, .int .i64 t516, .int .i64 t517, .int .i64 t518, .int .i64 t519, .int .i64 t520], .slice A521_0 (rd_L12 l0_2 x41_2).length c521_0, .slice A522_0 (rd_L12 l0_3 x41_2).length c522_0] (by rfl) rfl rfl ar_ ?_
                with_reducible refine (credenzaref08_Quantize.calls k2 t514 t515 t516 t517 t518 t519 t520 _ _ (rd_L12 l0_2 x41_2) _ _ (rd_L12 l0_3 x41_2) t523 t524 t525 t526 t527 t528 t529 t530 t533 _ ?side1 ?side2 ?side3 ?side4 A31.out).mono ?_
                (case side1 => exact cb_ (Kd.C_below HR521_0.out HB.out))
                (case side2 => exact HC521_0.out)
                (case side3 => exact cb_ (Kd.C_below HR522_0.out HB.out))
                (case side4 => exact HC522_0.out)
                rintro e w35 ⟨v531, v534, rfl, ho0, ho1, hb⟩
                refine ⟨_, rfl, ?_⟩
                replace HO_503004 := A_ (Kd.V_mono (Kd.V_told (Kd.V_told (Kd.V_old (mv_ HO_503004.out) hb) (nb_ ho0)) (nb_ ho1)) (fun _ h_ => h_.1))
                replace HO_503005 := A_ (Kd.V_mono (Kd.V_told (Kd.V_told (Kd.V_old (mv_ HO_503005.out) hb) (nb_ ho0)) (nb_ ho1)) (fun _ h_ => h_.1))
                have HO532 := A_ (Kd.N_lower (Kd.N_mono (ok' := fun k_ => ((P0_4_ k_ ∨ P0_5_ k_) ∨ w.heap.size ≤ k_) ∧ some k_ ≠ (v534 : Value).ownBlock ∧ some k_ ≠ (.slice (some ad512) t503.length co22 : Value).ownBlock ∧ some k_ ≠ (u5 : Value).ownBlock ∧ some k_ ≠ (u6 : Value).ownBlock ∧ some k_ ≠ (.slice (some ad512) t503.length co22 : Value).ownBlock ∧ k_ ≠ gb502 ∧ k_ ≠ gb536) (Kd.S_N (Kd.S_bound ho0)) (fun k_ hk_ => ⟨(.inr (Nat.le_trans (below_size bl_) hk_.2.1)), hk_.1, (Kd.fresh' (Kd.R_lt (mv_ HO_3.out)) k_ hk_.2.1), (Kd.fresh' (Kd.N_lt (mv_ HO_5.out)) k_ hk_.2.1), (Kd.fresh' (Kd.N_lt (mv_ HO_6.out)) k_ hk_.2.1), (Kd.fresh' (Kd.R_lt (mv_ HO_39.out)) k_ hk_.2.1), (Kd.freshB (g := gb502) (o := .cells #[.slice A0_0 l0_0.length c0_0, .slice (some ad513) l0_1.length c0_1, .slice (some ad521) l0_2.length c0_2, .slice (some ad522) l0_3.length c0_3, .slice A0_4 l0_4.length c0_4, .slice A0_5 l0_5.length c0_5] 41 (0, 0)) (mv_ BK502.out) k_ hk_.2.1), (Kd.freshB (g := gb536) (o := .cells #[.int .i64 0, .int .i64 0, .int .i64 0, .int .i64 0, .int .i64 0, .int .i64 0, .int .i64 0, .slice none 0 0, .slice none 0 0] 49 (0, 0)) (mv_ BK536.out) k_ hk_.2.1)⟩)) (below_size bl_))
                have HO535 := A_ (Kd.N_lower (Kd.N_mono (ok' := fun k_ => ((P0_4_ k_ ∨ P0_5_ k_) ∨ w.heap.size ≤ k_) ∧ some k_ ≠ (v531 : Value).ownBlock ∧ some k_ ≠ (.slice (some ad512) t503.length co22 : Value).ownBlock ∧ some k_ ≠ (u5 : Value).ownBlock ∧ some k_ ≠ (u6 : Value).ownBlock ∧ some k_ ≠ (.slice (some ad512) t503.length co22 : Value).ownBlock ∧ k_ ≠ gb502 ∧ k_ ≠ gb536) (Kd.S_N (Kd.S_bound ho1)) (fun k_ hk_ => ⟨(.inr (Nat.le_trans (below_size bl_) hk_.2.1)), hk_.1, (Kd.fresh' (Kd.R_lt (mv_ HO_3.out)) k_ hk_.2.1), (Kd.fresh' (Kd.N_lt (mv_ HO_5.out)) k_ hk_.2.1), (Kd.fresh' (Kd.N_lt (mv_ HO_6.out)) k_ hk_.2.1), (Kd.fresh' (Kd.R_lt (mv_ HO_39.out)) k_ hk_.2.1), (Kd.freshB (g := gb502) (o := .cells #[.slice A0_0 l0_0.length c0_0, .slice (some ad513) l0_1.length c0_1, .slice (some ad521) l0_2.length c0_2, .slice (some ad522) l0_3.length c0_3, .slice A0_4 l0_4.length c0_4, .slice A0_5 l0_5.length c0_5] 41 (0, 0)) (mv_ BK502.out) k_ hk_.2.1), (Kd.freshB (g := gb536) (o := .cells #[.int .i64 0, .int .i64 0, .int .i64 0, .int .i64 0, .int .i64 0, .int .i64 0, .int .i64 0, .slice none 0 0, .slice none 0 0] 49 (0, 0)) (mv_ BK536.out) k_ hk_.2.1)⟩)) (below_size bl_))
                replace HO_3 := A_ (Kd.R_below (mv_ HO_3.out) hb)
                replace HO_5 := A_ (Kd.N_mono (Kd.N_told (Kd.N_told (Kd.N_old (mv_ HO_5.out) hb) (nb_ ho0)) (nb_ ho1)) (fun _ h_ => h_.1))
                replace HO_6 := A_ (Kd.N_mono (Kd.N_told (Kd.N_told (Kd.N_old (mv_ HO_6.out) hb) (nb_ ho0)) (nb_ ho1)) (fun _ h_ => h_.1))
                replace HO_39 := A_ (Kd.R_below (mv_ HO_39.out) hb)
                replace BK502 := A_ (bb_ BK502.out hb)
                replace BK536 := A_ (bb_ BK536.out hb)
                replace HB := A_ (below_step bl_ hb)
                refine hK.out _ _ ⟨c0_ BK502.out, c1_ BK502.out, c2_ BK502.out, c3_ BK502.out, c4_ BK502.out, c5_ BK502.out, (hc_ HB.out hw513_0), (hc_ HB.out hw513_1), (hc_ HB.out hw513_2), (hc_ HB.out hw513_3), (hc_ HB.out hw513_4), (hc_ HB.out hw513_5), (hc_ HB.out hw513_6), (hc_ HB.out hw521_0), (hc_ HB.out hw522_0)⟩ (fun hHeld => ?_)
                clear hK K
                refine norm_ (a' := ?_) ?_ ?_
                rotate_left
                ·show Act.put _ (some 64) _ = _
                 simp only [Act.put, ps_, i64_w, i32_w]
                 rfl
                exact norm_ (by simp only [putAll, Act.put, ps_]) (hCont (v531, v534, gb536) _ ⟨hHeld, (by (with_reducible repeat (first | apply Kd.N_alloc | apply Kd.N_drewN | apply Kd.N_drew)); exact Kd.N_mono HO532.out (fun _ hk => ⟨hk.1, ⟨hk.2.1, ⟨hk.2.2.1, ⟨hk.2.2.2.2.2.1, ⟨hk.2.2.2.1, ⟨hk.2.2.2.2.1, ⟨hk.2.2.2.2.2.2.1, hk.2.2.2.2.2.2.2⟩⟩⟩⟩⟩⟩⟩)), (by (with_reducible repeat (first | apply Kd.N_alloc | apply Kd.N_drewN | apply Kd.N_drew)); exact Kd.N_mono HO535.out (fun _ hk => ⟨hk.1, ⟨hk.2.1, ⟨hk.2.2.1, ⟨hk.2.2.2.2.2.1, ⟨hk.2.2.2.1, ⟨hk.2.2.2.2.1, ⟨hk.2.2.2.2.2.2.1, hk.2.2.2.2.2.2.2⟩⟩⟩⟩⟩⟩⟩)), (mv_ HO_3.out), (mv_ HO_39.out), (by (with_reducible repeat (first | apply Kd.N_alloc | apply Kd.N_drewN | apply Kd.N_drew)); exact Kd.N_mono HO_5.out (fun _ hk => ⟨hk.1.1.1.1, ⟨hk.1.2, ⟨hk.2, ⟨hk.1.1.1.2.1, ⟨hk.1.1.1.2.2.2.1, ⟨hk.1.1.1.2.2.1, ⟨hk.1.1.1.2.2.2.2, hk.1.1.2⟩⟩⟩⟩⟩⟩⟩)), (by (with_reducible repeat (first | apply Kd.V_alloc | apply Kd.V_drewN | apply Kd.V_drew)); exact Kd.V_mono HO_503004.out (fun _ hk => ⟨hk.1.1.1.1, ⟨hk.1.2, ⟨hk.2, ⟨hk.1.1.1.2.1, ⟨hk.1.1.1.2.2.2.2.1, ⟨hk.1.1.1.2.2.1, ⟨hk.1.1.1.2.2.2.1, ⟨hk.1.1.1.2.2.2.2.2, hk.1.1.2⟩⟩⟩⟩⟩⟩⟩⟩)), (by (with_reducible repeat (first | apply Kd.V_alloc | apply Kd.V_drewN | apply Kd.V_drew)); exact Kd.V_mono HO_503005.out (fun _ hk => ⟨hk.1.1.1.1, ⟨hk.1.2, ⟨hk.2, ⟨hk.1.1.1.2.1, ⟨hk.1.1.1.2.2.2.2.1, ⟨hk.1.1.1.2.2.1, ⟨hk.1.1.1.2.2.2.1, ⟨hk.1.1.1.2.2.2.2.2, hk.1.1.2⟩⟩⟩⟩⟩⟩⟩⟩)), (by (with_reducible repeat (first | apply Kd.N_alloc | apply Kd.N_drewN | apply Kd.N_drew)); exact Kd.N_mono HO_6.out (fun _ hk => ⟨hk.1.1.1.1, ⟨hk.1.2, ⟨hk.2, ⟨hk.1.1.1.2.1, ⟨hk.1.1.1.2.2.2.1, ⟨hk.1.1.1.2.2.1, ⟨hk.1.1.1.2.2.2.2, hk.1.1.2⟩⟩⟩⟩⟩⟩⟩)), (mv_ BK502.out), (mv_ BK536.out), GW536.out, GE536.out, NB502_536.out, NB536_502.out, bl_⟩)
              ·skip
               refine box_step ?hg (N := 9) ?hd (cs := #[.int .i64 0, .int .i64 0, .int .i64 0, .int .i64 0, .int .i64 0, .int .i64 0, .int .i64 0, .slice none 0 0, .slice none 0 0]) (t := 49) ?hr ?_; (case hd => rfl); (case hg => rfl); (case hr => first | (go_simp; done) | (go_simp; rfl))
               intro gb536 hg w33 hbox hb
               replace HO_3 := A_ (Kd.R_below (mv_ HO_3.out) hb)
               replace HO_5 := A_ (Kd.N_below (Kd.N_elderB (mv_ HO_5.out) gb536 (Nat.le_of_eq hg.symm)) hb)
               replace HO_6 := A_ (Kd.N_below (Kd.N_elderB (mv_ HO_6.out) gb536 (Nat.le_of_eq hg.symm)) hb)
               replace HO_39 := A_ (Kd.R_below (mv_ HO_39.out) hb)
               replace HO_503004 := A_ (Kd.V_below (Kd.V_elderB (mv_ HO_503004.out) gb536 (Nat.le_of_eq hg.symm)) hb)
               replace HO_503005 := A_ (Kd.V_below (Kd.V_elderB (mv_ HO_503005.out) gb536 (Nat.le_of_eq hg.symm)) hb)
               have BK536 := A_ hbox
               have GW536 := A_ (gw_ w hg)
               have GE536 := A_ (gw_ w hg)
               have NB502_536 := A_ ((by rw [hg]; exact Nat.ne_of_lt (lt_ BK502.out) : gb502 ≠ gb536))
               have NB536_502 := A_ ((by rw [hg]; exact Nat.ne_of_gt (lt_ BK502.out) : gb536 ≠ gb502))
               replace BK502 := A_ (bb_ BK502.out hb)
               replace HB := A_ (below_step bl_ hb)
               clear hb hbox hg
               refine hK.out _ _ ⟨c0_ BK502.out, c1_ BK502.out, c2_ BK502.out, c3_ BK502.out, c4_ BK502.out, c5_ BK502.out, (hc_ HB.out hw513_0), (hc_ HB.out hw513_1), (hc_ HB.out hw513_2), (hc_ HB.out hw513_3), (hc_ HB.out hw513_4), (hc_ HB.out hw513_5), (hc_ HB.out hw513_6), (hc_ HB.out hw521_0), (hc_ HB.out hw522_0)⟩ (fun hHeld => ?_)
               clear hK K
               refine norm_ (a' := ?_) ?_ ?_
               rotate_left
               ·show Act.put _ (some 9) _ = _
                simp only [Act.put, ps_, i64_w, i32_w]
                rfl
               refine one_ (i := 5) (N := some 53) #[true, true, true, true, true, true, true, true, true, true, true, true, true, true, true, true, false, true, false] rfl rfl (one_of HT_.out (by kernel_rfl)) (by decide) (fun K hK => ?_)
               refine goes_ Try.func19 (by kernel_rfl) rfl #[.agg #[.int .i64 ((rd_T53 l0_1 x41_2).f0), .int .i64 ((rd_T53 l0_1 x41_2).f1), .int .i64 ((rd_T53 l0_1 x41_2).f2), .int .i64 ((rd_T53 l0_1 x41_2).f3), .int .i64 ((rd_T53 l0_1 x41_2).f4), .int .i64 ((rd_T53 l0_1 x41_2).f5), .int .i64 ((rd_T53 l0_1 x41_2).f6)]] (by rfl) rfl rfl ar_ ?_
               with_reducible refine (credenzalaw14_head.calls ((rd_T53 l0_1 x41_2).f0) ((rd_T53 l0_1 x41_2).f1) ((rd_T53 l0_1 x41_2).f2) ((rd_T53 l0_1 x41_2).f3) ((rd_T53 l0_1 x41_2).f4) ((rd_T53 l0_1 x41_2).f5) ((rd_T53 l0_1 x41_2).f6) t514 t515 t516 t517 t518 t519 t520 _ A28.out).mono ?_
               rintro e w34 ⟨rfl, hb⟩
               refine ⟨_, rfl, ?_⟩
               replace HO_3 := A_ (Kd.R_below (mv_ HO_3.out) hb)
               replace HO_5 := A_ (Kd.N_below (mv_ HO_5.out) hb)
               replace HO_6 := A_ (Kd.N_below (mv_ HO_6.out) hb)
               replace HO_39 := A_ (Kd.R_below (mv_ HO_39.out) hb)
               replace HO_503004 := A_ (Kd.V_below (mv_ HO_503004.out) hb)
               replace HO_503005 := A_ (Kd.V_below (mv_ HO_503005.out) hb)
               replace BK502 := A_ (bb_ BK502.out hb)
               replace BK536 := A_ (bb_ BK536.out hb)
               replace HB := A_ (below_step bl_ hb)
               refine hK.out _ _ ⟨c0_ BK502.out, c1_ BK502.out, c2_ BK502.out, c3_ BK502.out, c4_ BK502.out, c5_ BK502.out, (hc_ HB.out hw513_0), (hc_ HB.out hw513_1), (hc_ HB.out hw513_2), (hc_ HB.out hw513_3), (hc_ HB.out hw513_4), (hc_ HB.out hw513_5), (hc_ HB.out hw513_6), (hc_ HB.out hw521_0), (hc_ HB.out hw522_0)⟩ (fun hHeld => ?_)
               clear hK K
               refine norm_ (a' := ?_) ?_ ?_
               rotate_left
               ·show Act.put _ (some 53) _ = _
                simp only [Act.put, ps_, i64_w, i32_w]
                rfl
               refine one_ (i := 16) (N := some 64) #[true, true, true, true, true, true, true, true, true, true, true, true, true, true, true, true, true, true, false] rfl rfl (one_of HT_.out (by kernel_rfl)) (by decide) (fun K hK => ?_)
               refine goes_ Try.func18 (by kernel_rfl) rfl #[.agg #[.int .i64 t514, .int .i64 t515, .int .i64 t516, .int .i64 t517, .int .i64 t518, .int .i64 t519, .int .i64 t520], .slice A521_0 (rd_L12 l0_2 x41_2).length c521_0, .slice A522_0 (rd_L12 l0_3 x41_2).length c522_0] (by rfl) rfl rfl ar_ ?_
               with_reducible refine (credenzaref08_Quantize.calls k2 t514 t515 t516 t517 t518 t519 t520 _ _ (rd_L12 l0_2 x41_2) _ _ (rd_L12 l0_3 x41_2) t523 t524 t525 t526 t527 t528 t529 t530 t533 _ ?side1 ?side2 ?side3 ?side4 A31.out).mono ?_
               (case side1 => exact cb_ (Kd.C_below HR521_0.out HB.out))
               (case side2 => exact HC521_0.out)
               (case side3 => exact cb_ (Kd.C_below HR522_0.out HB.out))
               (case side4 => exact HC522_0.out)
               rintro e w35 ⟨v531, v534, rfl, ho0, ho1, hb⟩
               refine ⟨_, rfl, ?_⟩
               replace HO_503004 := A_ (Kd.V_mono (Kd.V_told (Kd.V_told (Kd.V_old (mv_ HO_503004.out) hb) (nb_ ho0)) (nb_ ho1)) (fun _ h_ => h_.1))
               replace HO_503005 := A_ (Kd.V_mono (Kd.V_told (Kd.V_told (Kd.V_old (mv_ HO_503005.out) hb) (nb_ ho0)) (nb_ ho1)) (fun _ h_ => h_.1))
               have HO532 := A_ (Kd.N_lower (Kd.N_mono (ok' := fun k_ => ((P0_4_ k_ ∨ P0_5_ k_) ∨ w.heap.size ≤ k_) ∧ some k_ ≠ (v534 : Value).ownBlock ∧ some k_ ≠ (.slice (some ad512) t503.length co22 : Value).ownBlock ∧ some k_ ≠ (u5 : Value).ownBlock ∧ some k_ ≠ (u6 : Value).ownBlock ∧ some k_ ≠ (.slice (some ad512) t503.length co22 : Value).ownBlock ∧ k_ ≠ gb502 ∧ k_ ≠ gb536) (Kd.S_N (Kd.S_bound ho0)) (fun k_ hk_ => ⟨(.inr (Nat.le_trans (below_size bl_) hk_.2.1)), hk_.1, (Kd.fresh' (Kd.R_lt (mv_ HO_3.out)) k_ hk_.2.1), (Kd.fresh' (Kd.N_lt (mv_ HO_5.out)) k_ hk_.2.1), (Kd.fresh' (Kd.N_lt (mv_ HO_6.out)) k_ hk_.2.1), (Kd.fresh' (Kd.R_lt (mv_ HO_39.out)) k_ hk_.2.1), (Kd.freshB (g := gb502) (o := .cells #[.slice A0_0 l0_0.length c0_0, .slice (some ad513) l0_1.length c0_1, .slice (some ad521) l0_2.length c0_2, .slice (some ad522) l0_3.length c0_3, .slice A0_4 l0_4.length c0_4, .slice A0_5 l0_5.length c0_5] 41 (0, 0)) (mv_ BK502.out) k_ hk_.2.1), (Kd.freshB (g := gb536) (o := .cells #[.int .i64 0, .int .i64 0, .int .i64 0, .int .i64 0, .int .i64 0, .int .i64 0, .int .i64 0, .slice none 0 0, .slice none 0 0] 49 (0, 0)) (mv_ BK536.out) k_ hk_.2.1)⟩)) (below_size bl_))
               have HO535 := A_ (Kd.N_lower (Kd.N_mono (ok' := fun k_ => ((P0_4_ k_ ∨ P0_5_ k_) ∨ w.heap.size ≤ k_) ∧ some k_ ≠ (v531 : Value).ownBlock ∧ some k_ ≠ (.slice (some ad512) t503.length co22 : Value).ownBlock ∧ some k_ ≠ (u5 : Value).ownBlock ∧ some k_ ≠ (u6 : Value).ownBlock ∧ some k_ ≠ (.slice (some ad512) t503.length co22 : Value).ownBlock ∧ k_ ≠ gb502 ∧ k_ ≠ gb536) (Kd.S_N (Kd.S_bound ho1)) (fun k_ hk_ => ⟨(.inr (Nat.le_trans (below_size bl_) hk_.2.1)), hk_.1, (Kd.fresh' (Kd.R_lt (mv_ HO_3.out)) k_ hk_.2.1), (Kd.fresh' (Kd.N_lt (mv_ HO_5.out)) k_ hk_.2.1), (Kd.fresh' (Kd.N_lt (mv_ HO_6.out)) k_ hk_.2.1), (Kd.fresh' (Kd.R_lt (mv_ HO_39.out)) k_ hk_.2.1), (Kd.freshB (g := gb502) (o := .cells #[.slice A0_0 l0_0.length c0_0, .slice (some ad513) l0_1.length c0_1, .slice (some ad521) l0_2.length c0_2, .slice (some ad522) l0_3.length c0_3, .slice A0_4 l0_4.length c0_4, .slice A0_5 l0_5.length c0_5] 41 (0, 0)) (mv_ BK502.out) k_ hk_.2.1), (Kd.freshB (g := gb536) (o := .cells #[.int .i64 0, .int .i64 0, .int .i64 0, .int .i64 0, .int .i64 0, .int .i64 0, .int .i64 0, .slice none 0 0, .slice none 0 0] 49 (0, 0)) (mv_ BK536.out) k_ hk_.2.1)⟩)) (below_size bl_))
               replace HO_3 := A_ (Kd.R_below (mv_ HO_3.out) hb)
               replace HO_5 := A_ (Kd.N_mono (Kd.N_told (Kd.N_told (Kd.N_old (mv_ HO_5.out) hb) (nb_ ho0)) (nb_ ho1)) (fun _ h_ => h_.1))
               replace HO_6 := A_ (Kd.N_mono (Kd.N_told (Kd.N_told (Kd.N_old (mv_ HO_6.out) hb) (nb_ ho0)) (nb_ ho1)) (fun _ h_ => h_.1))
               replace HO_39 := A_ (Kd.R_below (mv_ HO_39.out) hb)
               replace BK502 := A_ (bb_ BK502.out hb)
               replace BK536 := A_ (bb_ BK536.out hb)
               replace HB := A_ (below_step bl_ hb)
               refine hK.out _ _ ⟨c0_ BK502.out, c1_ BK502.out, c2_ BK502.out, c3_ BK502.out, c4_ BK502.out, c5_ BK502.out, (hc_ HB.out hw513_0), (hc_ HB.out hw513_1), (hc_ HB.out hw513_2), (hc_ HB.out hw513_3), (hc_ HB.out hw513_4), (hc_ HB.out hw513_5), (hc_ HB.out hw513_6), (hc_ HB.out hw521_0), (hc_ HB.out hw522_0)⟩ (fun hHeld => ?_)
               clear hK K
               refine norm_ (a' := ?_) ?_ ?_
               rotate_left
               ·show Act.put _ (some 64) _ = _
                simp only [Act.put, ps_, i64_w, i32_w]
                rfl
               exact norm_ (by simp only [putAll, Act.put, ps_]) (hCont (v531, v534, gb536) _ ⟨hHeld, (by (with_reducible repeat (first | apply Kd.N_alloc | apply Kd.N_drewN | apply Kd.N_drew)); exact Kd.N_mono HO532.out (fun _ hk => ⟨hk.1, ⟨hk.2.1, ⟨hk.2.2.1, ⟨hk.2.2.2.2.2.1, ⟨hk.2.2.2.1, ⟨hk.2.2.2.2.1, ⟨hk.2.2.2.2.2.2.1, hk.2.2.2.2.2.2.2⟩⟩⟩⟩⟩⟩⟩)), (by (with_reducible repeat (first | apply Kd.N_alloc | apply Kd.N_drewN | apply Kd.N_drew)); exact Kd.N_mono HO535.out (fun _ hk => ⟨hk.1, ⟨hk.2.1, ⟨hk.2.2.1, ⟨hk.2.2.2.2.2.1, ⟨hk.2.2.2.1, ⟨hk.2.2.2.2.1, ⟨hk.2.2.2.2.2.2.1, hk.2.2.2.2.2.2.2⟩⟩⟩⟩⟩⟩⟩)), (mv_ HO_3.out), (mv_ HO_39.out), (by (with_reducible repeat (first | apply Kd.N_alloc | apply Kd.N_drewN | apply Kd.N_drew)); exact Kd.N_mono HO_5.out (fun _ hk => ⟨hk.1.1.1.1, ⟨hk.1.2, ⟨hk.2, ⟨hk.1.1.1.2.1, ⟨hk.1.1.1.2.2.2.1, ⟨hk.1.1.1.2.2.1, ⟨hk.1.1.1.2.2.2.2, hk.1.1.2⟩⟩⟩⟩⟩⟩⟩)), (by (with_reducible repeat (first | apply Kd.V_alloc | apply Kd.V_drewN | apply Kd.V_drew)); exact Kd.V_mono HO_503004.out (fun _ hk => ⟨hk.1.1.1.1, ⟨hk.1.2, ⟨hk.2, ⟨hk.1.1.1.2.1, ⟨hk.1.1.1.2.2.2.2.1, ⟨hk.1.1.1.2.2.1, ⟨hk.1.1.1.2.2.2.1, ⟨hk.1.1.1.2.2.2.2.2, hk.1.1.2⟩⟩⟩⟩⟩⟩⟩⟩)), (by (with_reducible repeat (first | apply Kd.V_alloc | apply Kd.V_drewN | apply Kd.V_drew)); exact Kd.V_mono HO_503005.out (fun _ hk => ⟨hk.1.1.1.1, ⟨hk.1.2, ⟨hk.2, ⟨hk.1.1.1.2.1, ⟨hk.1.1.1.2.2.2.2.1, ⟨hk.1.1.1.2.2.1, ⟨hk.1.1.1.2.2.2.1, ⟨hk.1.1.1.2.2.2.2.2, hk.1.1.2⟩⟩⟩⟩⟩⟩⟩⟩)), (by (with_reducible repeat (first | apply Kd.N_alloc | apply Kd.N_drewN | apply Kd.N_drew)); exact Kd.N_mono HO_6.out (fun _ hk => ⟨hk.1.1.1.1, ⟨hk.1.2, ⟨hk.2, ⟨hk.1.1.1.2.1, ⟨hk.1.1.1.2.2.2.1, ⟨hk.1.1.1.2.2.1, ⟨hk.1.1.1.2.2.2.2, hk.1.1.2⟩⟩⟩⟩⟩⟩⟩)), (mv_ BK502.out), (mv_ BK536.out), GW536.out, GE536.out, NB502_536.out, NB536_502.out, bl_⟩)
             rintro ⟨v531, v534, gb536⟩ w36 ⟨hS_, h0_, h1_, h2_, h3_, h4_, h5_, h6_, h7_, h8_, h9_, h10_, h11_, h12_, h13_, h14_⟩
             have HO532 : Aside0 (Kd.N k72 72 w36 w.heap.size (fun k_ => ((P0_4_ k_ ∨ P0_5_ k_) ∨ w.heap.size ≤ k_) ∧ some k_ ≠ (v534 : Value).ownBlock ∧ some k_ ≠ (.slice (some ad512) t503.length co22 : Value).ownBlock ∧ some k_ ≠ (.slice (some ad512) t503.length co22 : Value).ownBlock ∧ some k_ ≠ (u5 : Value).ownBlock ∧ some k_ ≠ (u6 : Value).ownBlock ∧ k_ ≠ gb502 ∧ k_ ≠ gb536) v531 t530) := ⟨h0_⟩
             have HO535 : Aside0 (Kd.N k72 72 w36 w.heap.size (fun k_ => ((P0_4_ k_ ∨ P0_5_ k_) ∨ w.heap.size ≤ k_) ∧ some k_ ≠ (v531 : Value).ownBlock ∧ some k_ ≠ (.slice (some ad512) t503.length co22 : Value).ownBlock ∧ some k_ ≠ (.slice (some ad512) t503.length co22 : Value).ownBlock ∧ some k_ ≠ (u5 : Value).ownBlock ∧ some k_ ≠ (u6 : Value).ownBlock ∧ k_ ≠ gb502 ∧ k_ ≠ gb536) v534 t533) := ⟨h1_⟩
             replace HO_3 : Aside0 (Kd.R (Kd.ptr 125 k125) 45 w36 w.heap.size (fun k_ => (w.heap.size ≤ k_)) (.slice (some ad512) t503.length co22) t503) := ⟨h2_⟩
             replace HO_39 : Aside0 (Kd.R (Kd.ptr 125 k125) 45 w36 w.heap.size (fun k_ => (w.heap.size ≤ k_)) (.slice (some ad512) t503.length co22) t503) := ⟨h3_⟩
             replace HO_5 : Aside0 (Kd.N (Kd.slice 21 (Kd.int .i32)) 22 w36 w.heap.size (fun k_ => ((P0_4_ k_ ∨ P0_5_ k_) ∨ w.heap.size ≤ k_) ∧ some k_ ≠ (v531 : Value).ownBlock ∧ some k_ ≠ (v534 : Value).ownBlock ∧ some k_ ≠ (.slice (some ad512) t503.length co22 : Value).ownBlock ∧ some k_ ≠ (.slice (some ad512) t503.length co22 : Value).ownBlock ∧ some k_ ≠ (u6 : Value).ownBlock ∧ k_ ≠ gb502 ∧ k_ ≠ gb536) u5 x5_2) := ⟨h4_⟩
             replace HO_503004 : Aside0 (Kd.V (Kd.slice 21 (Kd.int .i32)) 22 w36 w.heap.size (fun k_ => ((P0_4_ k_ ∨ P0_5_ k_) ∨ w.heap.size ≤ k_) ∧ some k_ ≠ (v531 : Value).ownBlock ∧ some k_ ≠ (v534 : Value).ownBlock ∧ some k_ ≠ (.slice (some ad512) t503.length co22 : Value).ownBlock ∧ some k_ ≠ (.slice (some ad512) t503.length co22 : Value).ownBlock ∧ some k_ ≠ (u5 : Value).ownBlock ∧ some k_ ≠ (u6 : Value).ownBlock ∧ k_ ≠ gb502 ∧ k_ ≠ gb536) (.slice A0_4 l0_4.length c0_4) l0_4) := ⟨h5_⟩
             replace HO_503005 : Aside0 (Kd.V (Kd.slice 21 (Kd.int .i32)) 22 w36 w.heap.size (fun k_ => ((P0_4_ k_ ∨ P0_5_ k_) ∨ w.heap.size ≤ k_) ∧ some k_ ≠ (v531 : Value).ownBlock ∧ some k_ ≠ (v534 : Value).ownBlock ∧ some k_ ≠ (.slice (some ad512) t503.length co22 : Value).ownBlock ∧ some k_ ≠ (.slice (some ad512) t503.length co22 : Value).ownBlock ∧ some k_ ≠ (u5 : Value).ownBlock ∧ some k_ ≠ (u6 : Value).ownBlock ∧ k_ ≠ gb502 ∧ k_ ≠ gb536) (.slice A0_5 l0_5.length c0_5) l0_5) := ⟨h6_⟩
             replace HO_6 : Aside0 (Kd.N (Kd.slice 21 (Kd.int .i32)) 22 w36 w.heap.size (fun k_ => ((P0_4_ k_ ∨ P0_5_ k_) ∨ w.heap.size ≤ k_) ∧ some k_ ≠ (v531 : Value).ownBlock ∧ some k_ ≠ (v534 : Value).ownBlock ∧ some k_ ≠ (.slice (some ad512) t503.length co22 : Value).ownBlock ∧ some k_ ≠ (.slice (some ad512) t503.length co22 : Value).ownBlock ∧ some k_ ≠ (u5 : Value).ownBlock ∧ k_ ≠ gb502 ∧ k_ ≠ gb536) u6 x6_2) := ⟨h7_⟩
             replace BK502 : Aside0 (w36.heap[gb502]? = some (.cells #[.slice A0_0 l0_0.length c0_0, .slice (some ad513) l0_1.length c0_1, .slice (some ad521) l0_2.length c0_2, .slice (some ad522) l0_3.length c0_3, .slice A0_4 l0_4.length c0_4, .slice A0_5 l0_5.length c0_5] 41 (0, 0))) := ⟨h8_⟩
             have BK536 : Aside0 (w36.heap[gb536]? = some (.cells #[.int .i64 0, .int .i64 0, .int .i64 0, .int .i64 0, .int .i64 0, .int .i64 0, .int .i64 0, .slice none 0 0, .slice none 0 0] 49 (0, 0))) := ⟨h9_⟩
             have GW536 : Aside0 (w.heap.size ≤ gb536) := ⟨h10_⟩
             have GE536 : Aside0 (w.heap.size ≤ gb536) := ⟨h11_⟩
             have NB502_536 : Aside0 (gb502 ≠ gb536) := ⟨h12_⟩
             have NB536_502 : Aside0 (gb536 ≠ gb502) := ⟨h13_⟩
             replace HB : Aside0 (Below w.heap.size w w36) := ⟨h14_⟩
             clear h0_ h1_ h2_ h3_ h4_ h5_ h6_ h7_ h8_ h9_ h10_ h11_ h12_ h13_ h14_
             have hHeld : w36.cell? ⟨gb502, 0, none⟩ = some (.slice A0_0 l0_0.length c0_0) ∧ w36.cell? ⟨gb502, 1, none⟩ = some (.slice (some ad513) l0_1.length c0_1) ∧ w36.cell? ⟨gb502, 2, none⟩ = some (.slice (some ad521) l0_2.length c0_2) ∧ w36.cell? ⟨gb502, 3, none⟩ = some (.slice (some ad522) l0_3.length c0_3) ∧ w36.cell? ⟨gb502, 4, none⟩ = some (.slice A0_4 l0_4.length c0_4) ∧ w36.cell? ⟨gb502, 5, none⟩ = some (.slice A0_5 l0_5.length c0_5) ∧ w36.cell? (ad513.add ((x41_2).toNat * 7)) = some (.int .i64 ((rd_T53 l0_1 x41_2).f0)) ∧ w36.cell? ⟨(ad513.add ((x41_2).toNat * 7)).block, (ad513.add ((x41_2).toNat * 7)).off + 1, none⟩ = some (.int .i64 ((rd_T53 l0_1 x41_2).f1)) ∧ w36.cell? ⟨(ad513.add ((x41_2).toNat * 7)).block, (ad513.add ((x41_2).toNat * 7)).off + 2, none⟩ = some (.int .i64 ((rd_T53 l0_1 x41_2).f2)) ∧ w36.cell? ⟨(ad513.add ((x41_2).toNat * 7)).block, (ad513.add ((x41_2).toNat * 7)).off + 3, none⟩ = some (.int .i64 ((rd_T53 l0_1 x41_2).f3)) ∧ w36.cell? ⟨(ad513.add ((x41_2).toNat * 7)).block, (ad513.add ((x41_2).toNat * 7)).off + 4, none⟩ = some (.int .i64 ((rd_T53 l0_1 x41_2).f4)) ∧ w36.cell? ⟨(ad513.add ((x41_2).toNat * 7)).block, (ad513.add ((x41_2).toNat * 7)).off + 5, none⟩ = some (.int .i64 ((rd_T53 l0_1 x41_2).f5)) ∧ w36.cell? ⟨(ad513.add ((x41_2).toNat * 7)).block, (ad513.add ((x41_2).toNat * 7)).off + 6, none⟩ = some (.int .i64 ((rd_T53 l0_1 x41_2).f6)) ∧ w36.cell? (ad521.add (x41_2).toNat) = some (.slice A521_0 (rd_L12 l0_2 x41_2).length c521_0) ∧ w36.cell? (ad522.add (x41_2).toNat) = some (.slice A522_0 (rd_L12 l0_3 x41_2).length c522_0) := hS_
             obtain ⟨Ao44, co44, eo44⟩ := Kd.N_slice HO532.out
             (first | subst eo44 | (injection eo44 with f1_ f2_ f3_; have f4_ := f1_.symm; have f5_ := f3_.symm; clear f1_ f2_ f3_; subst f4_; subst f5_))
             obtain ⟨Ao46, co46, eo46⟩ := Kd.N_slice HO535.out
             (first | subst eo46 | (injection eo46 with f1_ f2_ f3_; have f4_ := f1_.symm; have f5_ := f3_.symm; clear f1_ f2_ f3_; subst f4_; subst f5_))
             refine norm_ (a' := ?_) ?_ ?_
             rotate_left
             ·simp only [putAll, Act.put, ps_]
              rfl
             refine one_ (i := 18) (N := none) #[true, true, true, true, true, true, true, true, true, true, true, true, true, true, true, true, true, true, true] rfl rfl (one_of HT_.out (by kernel_rfl)) (by decide) (fun K hK => ?_)
             have hs37 := c0_ BK536.out
             have hfs37 := blk_frozen BK536.out 0
             have hns37_0 := NB502_536.out
             have hms37_0 := NB536_502.out
             have hs38 := c1_ BK536.out
             have hfs38 := blk_frozen BK536.out 1
             have hns38_0 := NB502_536.out
             have hms38_0 := NB536_502.out
             have hs39 := c2_ BK536.out
             have hfs39 := blk_frozen BK536.out 2
             have hns39_0 := NB502_536.out
             have hms39_0 := NB536_502.out
             have hs40 := c3_ BK536.out
             have hfs40 := blk_frozen BK536.out 3
             have hns40_0 := NB502_536.out
             have hms40_0 := NB536_502.out
             have hs41 := c4_ BK536.out
             have hfs41 := blk_frozen BK536.out 4
             have hns41_0 := NB502_536.out
             have hms41_0 := NB536_502.out
             have hs42 := c5_ BK536.out
             have hfs42 := blk_frozen BK536.out 5
             have hns42_0 := NB502_536.out
             have hms42_0 := NB536_502.out
             have hs43 := c6_ BK536.out
             have hfs43 := blk_frozen BK536.out 6
             have hns43_0 := NB502_536.out
             have hms43_0 := NB536_502.out
             have hs45 := c7_ BK536.out
             have hfs45 := blk_frozen BK536.out 7
             have hns45_0 := NB502_536.out
             have hms45_0 := NB536_502.out
             have hs47 := c8_ BK536.out
             have hfs47 := blk_frozen BK536.out 8
             have hns47_0 := NB502_536.out
             have hms47_0 := NB536_502.out
             refine skip_ (w1 := ?_) (by rfl) rfl ?_ ?_
             rotate_left
             ·go_simp
              rfl
             refine hK.out _ _ ⟨(f9_ NB502_536.out (hHeld.1)), (f9_ NB502_536.out (hHeld.2.1)), (f9_ NB502_536.out (hHeld.2.2.1)), (f9_ NB502_536.out (hHeld.2.2.2.1)), (f9_ NB502_536.out (hHeld.2.2.2.2.1)), (f9_ NB502_536.out (hHeld.2.2.2.2.2.1)), (f9_ (nf_ hw513_0 GW536.out) (hHeld.2.2.2.2.2.2.1)), (f9_ (nf_ hw513_1 GW536.out) (hHeld.2.2.2.2.2.2.2.1)), (f9_ (nf_ hw513_2 GW536.out) (hHeld.2.2.2.2.2.2.2.2.1)), (f9_ (nf_ hw513_3 GW536.out) (hHeld.2.2.2.2.2.2.2.2.2.1)), (f9_ (nf_ hw513_4 GW536.out) (hHeld.2.2.2.2.2.2.2.2.2.2.1)), (f9_ (nf_ hw513_5 GW536.out) (hHeld.2.2.2.2.2.2.2.2.2.2.2.1)), (f9_ (nf_ hw513_6 GW536.out) (hHeld.2.2.2.2.2.2.2.2.2.2.2.2.1)), (f9_ (nf_ hw521_0 GW536.out) (hHeld.2.2.2.2.2.2.2.2.2.2.2.2.2.1)), (f9_ (nf_ hw522_0 GW536.out) (hHeld.2.2.2.2.2.2.2.2.2.2.2.2.2.2))⟩ (fun hHeld => ?_)
             clear hK K
             refine done_ (done_of HT_.out (by kernel_rfl)) ?_
             have hnb48 := NB502_536.out
             have hnc48 := NB536_502.out
             have ⟨_, _, _, _, _, _, _, _, _, _, _, _⟩ := k6_ BK502.out
             have p537 : 0 ≤ (x41_2 : Int) := od_
             have q537 : x41_2 < (l0_1.length : Int) := od_
             obtain ⟨ad537, e537, hx537_0, hx537_1, hx537_2, hx537_3, hx537_4, hx537_5, hx537_6⟩ := at_T53 HR0_1.out x41_2 p537 q537
             obtain rfl : ad513 = ad537 := (by injection e537)
             have hn537_0 : ad513.block ≠ gb536 := Nat.ne_of_lt (Nat.lt_of_lt_of_le (by have := World.block_lt_of_cell? _ _ hx537_0; first | rwa [add_block] at this | exact this) GW536.out)
             have hn537_1 : ad513.block ≠ gb536 := Nat.ne_of_lt (Nat.lt_of_lt_of_le (by have := World.block_lt_of_cell? _ _ hx537_0; first | rwa [add_block] at this | exact this) GW536.out)
             have hn537_2 : ad513.block ≠ gb536 := Nat.ne_of_lt (Nat.lt_of_lt_of_le (by have := World.block_lt_of_cell? _ _ hx537_0; first | rwa [add_block] at this | exact this) GW536.out)
             have hn537_3 : ad513.block ≠ gb536 := Nat.ne_of_lt (Nat.lt_of_lt_of_le (by have := World.block_lt_of_cell? _ _ hx537_0; first | rwa [add_block] at this | exact this) GW536.out)
             have hn537_4 : ad513.block ≠ gb536 := Nat.ne_of_lt (Nat.lt_of_lt_of_le (by have := World.block_lt_of_cell? _ _ hx537_0; first | rwa [add_block] at this | exact this) GW536.out)
             have hn537_5 : ad513.block ≠ gb536 := Nat.ne_of_lt (Nat.lt_of_lt_of_le (by have := World.block_lt_of_cell? _ _ hx537_0; first | rwa [add_block] at this | exact this) GW536.out)
             have hn537_6 : ad513.block ≠ gb536 := Nat.ne_of_lt (Nat.lt_of_lt_of_le (by have := World.block_lt_of_cell? _ _ hx537_0; first | rwa [add_block] at this | exact this) GW536.out)
             have hn537_7 : ad513.block ≠ gb536 := Nat.ne_of_lt (Nat.lt_of_lt_of_le (by have := World.block_lt_of_cell? _ _ hx537_0; first | rwa [add_block] at this | exact this) GW536.out)
             have hn537_8 : ad513.block ≠ gb536 := Nat.ne_of_lt (Nat.lt_of_lt_of_le (by have := World.block_lt_of_cell? _ _ hx537_0; first | rwa [add_block] at this | exact this) GW536.out)
             replace hx537_0 := hc_ HB.out hx537_0
             replace hx537_1 := hc_ HB.out hx537_1
             replace hx537_2 := hc_ HB.out hx537_2
             replace hx537_3 := hc_ HB.out hx537_3
             replace hx537_4 := hc_ HB.out hx537_4
             replace hx537_5 := hc_ HB.out hx537_5
             replace hx537_6 := hc_ HB.out hx537_6
             replace hx537_0 := (cell_far (p := ⟨gb536, 0, none⟩) (af_ hn537_0) (.int .i64 t523)).trans hx537_0
             replace hx537_1 := (cell_far (p := ⟨gb536, 0, none⟩) (af_ hn537_0) (.int .i64 t523)).trans hx537_1
             replace hx537_2 := (cell_far (p := ⟨gb536, 0, none⟩) (af_ hn537_0) (.int .i64 t523)).trans hx537_2
             replace hx537_3 := (cell_far (p := ⟨gb536, 0, none⟩) (af_ hn537_0) (.int .i64 t523)).trans hx537_3
             replace hx537_4 := (cell_far (p := ⟨gb536, 0, none⟩) (af_ hn537_0) (.int .i64 t523)).trans hx537_4
             replace hx537_5 := (cell_far (p := ⟨gb536, 0, none⟩) (af_ hn537_0) (.int .i64 t523)).trans hx537_5
             replace hx537_6 := (cell_far (p := ⟨gb536, 0, none⟩) (af_ hn537_0) (.int .i64 t523)).trans hx537_6
             replace hx537_0 := (cell_far (p := ⟨gb536, 1, none⟩) (af_ hn537_1) (.int .i64 t524)).trans hx537_0
             replace hx537_1 := (cell_far (p := ⟨gb536, 1, none⟩) (af_ hn537_1) (.int .i64 t524)).trans hx537_1
             replace hx537_2 := (cell_far (p := ⟨gb536, 1, none⟩) (af_ hn537_1) (.int .i64 t524)).trans hx537_2
             replace hx537_3 := (cell_far (p := ⟨gb536, 1, none⟩) (af_ hn537_1) (.int .i64 t524)).trans hx537_3
             replace hx537_4 := (cell_far (p := ⟨gb536, 1, none⟩) (af_ hn537_1) (.int .i64 t524)).trans hx537_4
             replace hx537_5 := (cell_far (p := ⟨gb536, 1, none⟩) (af_ hn537_1) (.int .i64 t524)).trans hx537_5
             replace hx537_6 := (cell_far (p := ⟨gb536, 1, none⟩) (af_ hn537_1) (.int .i64 t524)).trans hx537_6
             replace hx537_0 := (cell_far (p := ⟨gb536, 2, none⟩) (af_ hn537_2) (.int .i64 t525)).trans hx537_0
             replace hx537_1 := (cell_far (p := ⟨gb536, 2, none⟩) (af_ hn537_2) (.int .i64 t525)).trans hx537_1
             replace hx537_2 := (cell_far (p := ⟨gb536, 2, none⟩) (af_ hn537_2) (.int .i64 t525)).trans hx537_2
             replace hx537_3 := (cell_far (p := ⟨gb536, 2, none⟩) (af_ hn537_2) (.int .i64 t525)).trans hx537_3
             replace hx537_4 := (cell_far (p := ⟨gb536, 2, none⟩) (af_ hn537_2) (.int .i64 t525)).trans hx537_4
             replace hx537_5 := (cell_far (p := ⟨gb536, 2, none⟩) (af_ hn537_2) (.int .i64 t525)).trans hx537_5
             replace hx537_6 := (cell_far (p := ⟨gb536, 2, none⟩) (af_ hn537_2) (.int .i64 t525)).trans hx537_6
             replace hx537_0 := (cell_far (p := ⟨gb536, 3, none⟩) (af_ hn537_3) (.int .i64 t526)).trans hx537_0
             replace hx537_1 := (cell_far (p := ⟨gb536, 3, none⟩) (af_ hn537_3) (.int .i64 t526)).trans hx537_1
             replace hx537_2 := (cell_far (p := ⟨gb536, 3, none⟩) (af_ hn537_3) (.int .i64 t526)).trans hx537_2
             replace hx537_3 := (cell_far (p := ⟨gb536, 3, none⟩) (af_ hn537_3) (.int .i64 t526)).trans hx537_3
             replace hx537_4 := (cell_far (p := ⟨gb536, 3, none⟩) (af_ hn537_3) (.int .i64 t526)).trans hx537_4
             replace hx537_5 := (cell_far (p := ⟨gb536, 3, none⟩) (af_ hn537_3) (.int .i64 t526)).trans hx537_5
             replace hx537_6 := (cell_far (p := ⟨gb536, 3, none⟩) (af_ hn537_3) (.int .i64 t526)).trans hx537_6
             replace hx537_0 := (cell_far (p := ⟨gb536, 4, none⟩) (af_ hn537_4) (.int .i64 t527)).trans hx537_0
             replace hx537_1 := (cell_far (p := ⟨gb536, 4, none⟩) (af_ hn537_4) (.int .i64 t527)).trans hx537_1
             replace hx537_2 := (cell_far (p := ⟨gb536, 4, none⟩) (af_ hn537_4) (.int .i64 t527)).trans hx537_2
             replace hx537_3 := (cell_far (p := ⟨gb536, 4, none⟩) (af_ hn537_4) (.int .i64 t527)).trans hx537_3
             replace hx537_4 := (cell_far (p := ⟨gb536, 4, none⟩) (af_ hn537_4) (.int .i64 t527)).trans hx537_4
             replace hx537_5 := (cell_far (p := ⟨gb536, 4, none⟩) (af_ hn537_4) (.int .i64 t527)).trans hx537_5
             replace hx537_6 := (cell_far (p := ⟨gb536, 4, none⟩) (af_ hn537_4) (.int .i64 t527)).trans hx537_6
             replace hx537_0 := (cell_far (p := ⟨gb536, 5, none⟩) (af_ hn537_5) (.int .i64 t528)).trans hx537_0
             replace hx537_1 := (cell_far (p := ⟨gb536, 5, none⟩) (af_ hn537_5) (.int .i64 t528)).trans hx537_1
             replace hx537_2 := (cell_far (p := ⟨gb536, 5, none⟩) (af_ hn537_5) (.int .i64 t528)).trans hx537_2
             replace hx537_3 := (cell_far (p := ⟨gb536, 5, none⟩) (af_ hn537_5) (.int .i64 t528)).trans hx537_3
             replace hx537_4 := (cell_far (p := ⟨gb536, 5, none⟩) (af_ hn537_5) (.int .i64 t528)).trans hx537_4
             replace hx537_5 := (cell_far (p := ⟨gb536, 5, none⟩) (af_ hn537_5) (.int .i64 t528)).trans hx537_5
             replace hx537_6 := (cell_far (p := ⟨gb536, 5, none⟩) (af_ hn537_5) (.int .i64 t528)).trans hx537_6
             replace hx537_0 := (cell_far (p := ⟨gb536, 6, none⟩) (af_ hn537_6) (.int .i64 t529)).trans hx537_0
             replace hx537_1 := (cell_far (p := ⟨gb536, 6, none⟩) (af_ hn537_6) (.int .i64 t529)).trans hx537_1
             replace hx537_2 := (cell_far (p := ⟨gb536, 6, none⟩) (af_ hn537_6) (.int .i64 t529)).trans hx537_2
             replace hx537_3 := (cell_far (p := ⟨gb536, 6, none⟩) (af_ hn537_6) (.int .i64 t529)).trans hx537_3
             replace hx537_4 := (cell_far (p := ⟨gb536, 6, none⟩) (af_ hn537_6) (.int .i64 t529)).trans hx537_4
             replace hx537_5 := (cell_far (p := ⟨gb536, 6, none⟩) (af_ hn537_6) (.int .i64 t529)).trans hx537_5
             replace hx537_6 := (cell_far (p := ⟨gb536, 6, none⟩) (af_ hn537_6) (.int .i64 t529)).trans hx537_6
             replace hx537_0 := (cell_far (p := ⟨gb536, 7, none⟩) (af_ hn537_7) (.slice Ao44 t530.length co44)).trans hx537_0
             replace hx537_1 := (cell_far (p := ⟨gb536, 7, none⟩) (af_ hn537_7) (.slice Ao44 t530.length co44)).trans hx537_1
             replace hx537_2 := (cell_far (p := ⟨gb536, 7, none⟩) (af_ hn537_7) (.slice Ao44 t530.length co44)).trans hx537_2
             replace hx537_3 := (cell_far (p := ⟨gb536, 7, none⟩) (af_ hn537_7) (.slice Ao44 t530.length co44)).trans hx537_3
             replace hx537_4 := (cell_far (p := ⟨gb536, 7, none⟩) (af_ hn537_7) (.slice Ao44 t530.length co44)).trans hx537_4
             replace hx537_5 := (cell_far (p := ⟨gb536, 7, none⟩) (af_ hn537_7) (.slice Ao44 t530.length co44)).trans hx537_5
             replace hx537_6 := (cell_far (p := ⟨gb536, 7, none⟩) (af_ hn537_7) (.slice Ao44 t530.length co44)).trans hx537_6
             replace hx537_0 := (cell_far (p := ⟨gb536, 8, none⟩) (af_ hn537_8) (.slice Ao46 t533.length co46)).trans hx537_0
             replace hx537_1 := (cell_far (p := ⟨gb536, 8, none⟩) (af_ hn537_8) (.slice Ao46 t533.length co46)).trans hx537_1
             replace hx537_2 := (cell_far (p := ⟨gb536, 8, none⟩) (af_ hn537_8) (.slice Ao46 t533.length co46)).trans hx537_2
             replace hx537_3 := (cell_far (p := ⟨gb536, 8, none⟩) (af_ hn537_8) (.slice Ao46 t533.length co46)).trans hx537_3
             replace hx537_4 := (cell_far (p := ⟨gb536, 8, none⟩) (af_ hn537_8) (.slice Ao46 t533.length co46)).trans hx537_4
             replace hx537_5 := (cell_far (p := ⟨gb536, 8, none⟩) (af_ hn537_8) (.slice Ao46 t533.length co46)).trans hx537_5
             replace hx537_6 := (cell_far (p := ⟨gb536, 8, none⟩) (af_ hn537_8) (.slice Ao46 t533.length co46)).trans hx537_6
             clear hn537_0 hn537_1 hn537_2 hn537_3 hn537_4 hn537_5 hn537_6 hn537_7 hn537_8
             replace p537 := eq_true p537
             replace q537 := eq_true q537
             try go_wp2
             go_loopg [5, 6, 71] k2 (fun kq v5 v6 v71 w' => ∃ (x5_3 : List (List Int)) (x6_3 : List (List Int)) (x71_3 : Int), v71 = .int .i64 x71_3 ∧ Aside0 (credenzalaw14_AttnFused.l1 kq t503 x5_3 x6_3 t503 (t503.length : Int) x41_2 ((rd_T53 l0_1 x41_2).f2) x71_3 l0_0 l0_1 l0_2 l0_3 l0_4 l0_5 t523 t524 t525 t526 t527 t528 t529 t530 t533 = some r) ∧ Aside0 (kq ≤ k2) ∧ Aside0 (Kd.R (Kd.ptr 125 k125) 45 w' w.heap.size (fun k_ => (w.heap.size ≤ k_)) (.slice (some ad512) t503.length co22) t503) ∧ Aside0 (Kd.N (Kd.slice 21 (Kd.int .i32)) 22 w' w.heap.size (fun k_ => ((P0_4_ k_ ∨ P0_5_ k_) ∨ w.heap.size ≤ k_) ∧ some k_ ≠ ((.slice (some ad512) t503.length co22) : Value).ownBlock ∧ some k_ ≠ (v6 : Value).ownBlock ∧ some k_ ≠ ((.slice (some ad512) t503.length co22) : Value).ownBlock ∧ some k_ ≠ ((.slice Ao44 t530.length co44) : Value).ownBlock ∧ some k_ ≠ ((.slice Ao46 t533.length co46) : Value).ownBlock ∧ k_ ≠ gb502 ∧ k_ ≠ gb536) v5 x5_3) ∧ Aside0 (Kd.N (Kd.slice 21 (Kd.int .i32)) 22 w' w.heap.size (fun k_ => ((P0_4_ k_ ∨ P0_5_ k_) ∨ w.heap.size ≤ k_) ∧ some k_ ≠ ((.slice (some ad512) t503.length co22) : Value).ownBlock ∧ some k_ ≠ (v5 : Value).ownBlock ∧ some k_ ≠ ((.slice (some ad512) t503.length co22) : Value).ownBlock ∧ some k_ ≠ ((.slice Ao44 t530.length co44) : Value).ownBlock ∧ some k_ ≠ ((.slice Ao46 t533.length co46) : Value).ownBlock ∧ k_ ≠ gb502 ∧ k_ ≠ gb536) v6 x6_3) ∧ Aside0 (Kd.R (Kd.ptr 125 k125) 45 w' w.heap.size (fun k_ => (w.heap.size ≤ k_)) (.slice (some ad512) t503.length co22) t503) ∧ Aside0 (Kd.V (Kd.slice 21 (Kd.int .i32)) 22 w' w.heap.size (fun k_ => ((P0_4_ k_ ∨ P0_5_ k_) ∨ w.heap.size ≤ k_) ∧ some k_ ≠ ((.slice (some ad512) t503.length co22) : Value).ownBlock ∧ some k_ ≠ (v5 : Value).ownBlock ∧ some k_ ≠ (v6 : Value).ownBlock ∧ some k_ ≠ ((.slice (some ad512) t503.length co22) : Value).ownBlock ∧ some k_ ≠ ((.slice Ao44 t530.length co44) : Value).ownBlock ∧ some k_ ≠ ((.slice Ao46 t533.length co46) : Value).ownBlock ∧ k_ ≠ gb502 ∧ k_ ≠ gb536) (.slice A0_4 l0_4.length c0_4) l0_4) ∧ Aside0 (Kd.V (Kd.slice 21 (Kd.int .i32)) 22 w' w.heap.size (fun k_ => ((P0_4_ k_ ∨ P0_5_ k_) ∨ w.heap.size ≤ k_) ∧ some k_ ≠ ((.slice (some ad512) t503.length co22) : Value).ownBlock ∧ some k_ ≠ (v5 : Value).ownBlock ∧ some k_ ≠ (v6 : Value).ownBlock ∧ some k_ ≠ ((.slice (some ad512) t503.length co22) : Value).ownBlock ∧ some k_ ≠ ((.slice Ao44 t530.length co44) : Value).ownBlock ∧ some k_ ≠ ((.slice Ao46 t533.length co46) : Value).ownBlock ∧ k_ ≠ gb502 ∧ k_ ≠ gb536) (.slice A0_5 l0_5.length c0_5) l0_5) ∧ Aside0 (Kd.N k72 72 w' w.heap.size (fun k_ => ((P0_4_ k_ ∨ P0_5_ k_) ∨ w.heap.size ≤ k_) ∧ some k_ ≠ ((.slice (some ad512) t503.length co22) : Value).ownBlock ∧ some k_ ≠ (v5 : Value).ownBlock ∧ some k_ ≠ (v6 : Value).ownBlock ∧ some k_ ≠ ((.slice (some ad512) t503.length co22) : Value).ownBlock ∧ some k_ ≠ ((.slice Ao46 t533.length co46) : Value).ownBlock ∧ k_ ≠ gb502 ∧ k_ ≠ gb536) (.slice Ao44 t530.length co44) t530) ∧ Aside0 (Kd.N k72 72 w' w.heap.size (fun k_ => ((P0_4_ k_ ∨ P0_5_ k_) ∨ w.heap.size ≤ k_) ∧ some k_ ≠ ((.slice (some ad512) t503.length co22) : Value).ownBlock ∧ some k_ ≠ (v5 : Value).ownBlock ∧ some k_ ≠ (v6 : Value).ownBlock ∧ some k_ ≠ ((.slice (some ad512) t503.length co22) : Value).ownBlock ∧ some k_ ≠ ((.slice Ao44 t530.length co44) : Value).ownBlock ∧ k_ ≠ gb502 ∧ k_ ≠ gb536) (.slice Ao46 t533.length co46) t533) ∧ Aside0 (w'.heap[gb502]? = some (.cells #[(.slice A0_0 l0_0.length c0_0), (.slice (some ad513) l0_1.length c0_1), (.slice (some ad521) l0_2.length c0_2), (.slice (some ad522) l0_3.length c0_3), (.slice A0_4 l0_4.length c0_4), (.slice A0_5 l0_5.length c0_5)] 41 (0, 0))) ∧ Aside0 (w'.heap[gb536]? = some (.cells #[.int .i64 t523, .int .i64 t524, .int .i64 t525, .int .i64 t526, .int .i64 t527, .int .i64 t528, .int .i64 t529, (.slice Ao44 t530.length co44), (.slice Ao46 t533.length co46)] 49 (0, 0))) ∧ Aside0 (Below w.heap.size w w'))
             case atStart => exact ⟨(x5_2), (x6_2), (0), rs_, H', ⟨Nat.le_refl _⟩, ⟨by (with_reducible repeat (first | apply Kd.R_alloc | apply Kd.R_drewN | apply Kd.R_drew)); exact Kd.R_mono (Kd.R_far (Kd.R_far (Kd.R_far (Kd.R_far (Kd.R_far (Kd.R_far (Kd.R_far (Kd.R_far (Kd.R_far (Kd.R_types HO_3.out BK536.out (by decide)) (fun _ hk => hk.2) (.int .i64 t523)) (fun _ hk => hk.2) (.int .i64 t524)) (fun _ hk => hk.2) (.int .i64 t525)) (fun _ hk => hk.2) (.int .i64 t526)) (fun _ hk => hk.2) (.int .i64 t527)) (fun _ hk => hk.2) (.int .i64 t528)) (fun _ hk => hk.2) (.int .i64 t529)) (fun _ hk => hk.2) (.slice Ao44 t530.length co44)) (fun _ hk => hk.2) (.slice Ao46 t533.length co46)) (fun _ hk => hk.1)⟩, ⟨by (with_reducible repeat (first | apply Kd.N_alloc | apply Kd.N_drewN | apply Kd.N_drew)); exact Kd.N_mono (Kd.N_far (Kd.N_far (Kd.N_far (Kd.N_far (Kd.N_far (Kd.N_far (Kd.N_far (Kd.N_far (Kd.N_far (Kd.N_mono HO_5.out (fun k_ hk => (⟨hk, hk.2.2.2.2.2.2.2⟩ : _ ∧ k_ ≠ gb536))) (fun _ hk => hk.2) (.int .i64 t523)) (fun _ hk => hk.2) (.int .i64 t524)) (fun _ hk => hk.2) (.int .i64 t525)) (fun _ hk => hk.2) (.int .i64 t526)) (fun _ hk => hk.2) (.int .i64 t527)) (fun _ hk => hk.2) (.int .i64 t528)) (fun _ hk => hk.2) (.int .i64 t529)) (fun _ hk => hk.2) (.slice Ao44 t530.length co44)) (fun _ hk => hk.2) (.slice Ao46 t533.length co46)) (fun _ hk => ⟨hk.1.1, ⟨hk.1.2.2.2.1, ⟨hk.1.2.2.2.2.2.1, ⟨hk.1.2.2.2.2.1, ⟨hk.1.2.1, ⟨hk.1.2.2.1, ⟨hk.1.2.2.2.2.2.2.1, hk.1.2.2.2.2.2.2.2⟩⟩⟩⟩⟩⟩⟩)⟩, ⟨by (with_reducible repeat (first | apply Kd.N_alloc | apply Kd.N_drewN | apply Kd.N_drew)); exact Kd.N_mono (Kd.N_far (Kd.N_far (Kd.N_far (Kd.N_far (Kd.N_far (Kd.N_far (Kd.N_far (Kd.N_far (Kd.N_far (Kd.N_mono HO_6.out (fun k_ hk => (⟨hk, hk.2.2.2.2.2.2.2⟩ : _ ∧ k_ ≠ gb536))) (fun _ hk => hk.2) (.int .i64 t523)) (fun _ hk => hk.2) (.int .i64 t524)) (fun _ hk => hk.2) (.int .i64 t525)) (fun _ hk => hk.2) (.int .i64 t526)) (fun _ hk => hk.2) (.int .i64 t527)) (fun _ hk => hk.2) (.int .i64 t528)) (fun _ hk => hk.2) (.int .i64 t529)) (fun _ hk => hk.2) (.slice Ao44 t530.length co44)) (fun _ hk => hk.2) (.slice Ao46 t533.length co46)) (fun _ hk => ⟨hk.1.1, ⟨hk.1.2.2.2.1, ⟨hk.1.2.2.2.2.2.1, ⟨hk.1.2.2.2.2.1, ⟨hk.1.2.1, ⟨hk.1.2.2.1, ⟨hk.1.2.2.2.2.2.2.1, hk.1.2.2.2.2.2.2.2⟩⟩⟩⟩⟩⟩⟩)⟩, ⟨by (with_reducible repeat (first | apply Kd.R_alloc | apply Kd.R_drewN | apply Kd.R_drew)); exact Kd.R_mono (Kd.R_far (Kd.R_far (Kd.R_far (Kd.R_far (Kd.R_far (Kd.R_far (Kd.R_far (Kd.R_far (Kd.R_far (Kd.R_types HO_39.out BK536.out (by decide)) (fun _ hk => hk.2) (.int .i64 t523)) (fun _ hk => hk.2) (.int .i64 t524)) (fun _ hk => hk.2) (.int .i64 t525)) (fun _ hk => hk.2) (.int .i64 t526)) (fun _ hk => hk.2) (.int .i64 t527)) (fun _ hk => hk.2) (.int .i64 t528)) (fun _ hk => hk.2) (.int .i64 t529)) (fun _ hk => hk.2) (.slice Ao44 t530.length co44)) (fun _ hk => hk.2) (.slice Ao46 t533.length co46)) (fun _ hk => hk.1)⟩, ⟨by (with_reducible repeat (first | apply Kd.V_alloc | apply Kd.V_drewN | apply Kd.V_drew)); exact Kd.V_mono (Kd.V_far (Kd.V_far (Kd.V_far (Kd.V_far (Kd.V_far (Kd.V_far (Kd.V_far (Kd.V_far (Kd.V_far (Kd.V_mono HO_503004.out (fun k_ hk => (⟨hk, hk.2.2.2.2.2.2.2.2⟩ : _ ∧ k_ ≠ gb536))) (fun _ hk => hk.2) (.int .i64 t523)) (fun _ hk => hk.2) (.int .i64 t524)) (fun _ hk => hk.2) (.int .i64 t525)) (fun _ hk => hk.2) (.int .i64 t526)) (fun _ hk => hk.2) (.int .i64 t527)) (fun _ hk => hk.2) (.int .i64 t528)) (fun _ hk => hk.2) (.int .i64 t529)) (fun _ hk => hk.2) (.slice Ao44 t530.length co44)) (fun _ hk => hk.2) (.slice Ao46 t533.length co46)) (fun _ hk => ⟨hk.1.1, ⟨hk.1.2.2.2.1, ⟨hk.1.2.2.2.2.2.1, ⟨hk.1.2.2.2.2.2.2.1, ⟨hk.1.2.2.2.2.1, ⟨hk.1.2.1, ⟨hk.1.2.2.1, ⟨hk.1.2.2.2.2.2.2.2.1, hk.1.2.2.2.2.2.2.2.2⟩⟩⟩⟩⟩⟩⟩⟩)⟩, ⟨by (with_reducible repeat (first | apply Kd.V_alloc | apply Kd.V_drewN | apply Kd.V_drew)); exact Kd.V_mono (Kd.V_far (Kd.V_far (Kd.V_far (Kd.V_far (Kd.V_far (Kd.V_far (Kd.V_far (Kd.V_far (Kd.V_far (Kd.V_mono HO_503005.out (fun k_ hk => (⟨hk, hk.2.2.2.2.2.2.2.2⟩ : _ ∧ k_ ≠ gb536))) (fun _ hk => hk.2) (.int .i64 t523)) (fun _ hk => hk.2) (.int .i64 t524)) (fun _ hk => hk.2) (.int .i64 t525)) (fun _ hk => hk.2) (.int .i64 t526)) (fun _ hk => hk.2) (.int .i64 t527)) (fun _ hk => hk.2) (.int .i64 t528)) (fun _ hk => hk.2) (.int .i64 t529)) (fun _ hk => hk.2) (.slice Ao44 t530.length co44)) (fun _ hk => hk.2) (.slice Ao46 t533.length co46)) (fun _ hk => ⟨hk.1.1, ⟨hk.1.2.2.2.1, ⟨hk.1.2.2.2.2.2.1, ⟨hk.1.2.2.2.2.2.2.1, ⟨hk.1.2.2.2.2.1, ⟨hk.1.2.1, ⟨hk.1.2.2.1, ⟨hk.1.2.2.2.2.2.2.2.1, hk.1.2.2.2.2.2.2.2.2⟩⟩⟩⟩⟩⟩⟩⟩)⟩, ⟨by (with_reducible repeat (first | apply Kd.N_alloc | apply Kd.N_drewN | apply Kd.N_drew)); exact Kd.N_mono (Kd.N_far (Kd.N_far (Kd.N_far (Kd.N_far (Kd.N_far (Kd.N_far (Kd.N_far (Kd.N_far (Kd.N_far (Kd.N_mono HO532.out (fun k_ hk => (⟨hk, hk.2.2.2.2.2.2.2⟩ : _ ∧ k_ ≠ gb536))) (fun _ hk => hk.2) (.int .i64 t523)) (fun _ hk => hk.2) (.int .i64 t524)) (fun _ hk => hk.2) (.int .i64 t525)) (fun _ hk => hk.2) (.int .i64 t526)) (fun _ hk => hk.2) (.int .i64 t527)) (fun _ hk => hk.2) (.int .i64 t528)) (fun _ hk => hk.2) (.int .i64 t529)) (fun _ hk => hk.2) (.slice Ao44 t530.length co44)) (fun _ hk => hk.2) (.slice Ao46 t533.length co46)) (fun _ hk => ⟨hk.1.1, ⟨hk.1.2.2.1, ⟨hk.1.2.2.2.2.1, ⟨hk.1.2.2.2.2.2.1, ⟨hk.1.2.2.2.1, ⟨hk.1.2.1, ⟨hk.1.2.2.2.2.2.2.1, hk.1.2.2.2.2.2.2.2⟩⟩⟩⟩⟩⟩⟩)⟩, ⟨by (with_reducible repeat (first | apply Kd.N_alloc | apply Kd.N_drewN | apply Kd.N_drew)); exact Kd.N_mono (Kd.N_far (Kd.N_far (Kd.N_far (Kd.N_far (Kd.N_far (Kd.N_far (Kd.N_far (Kd.N_far (Kd.N_far (Kd.N_mono HO535.out (fun k_ hk => (⟨hk, hk.2.2.2.2.2.2.2⟩ : _ ∧ k_ ≠ gb536))) (fun _ hk => hk.2) (.int .i64 t523)) (fun _ hk => hk.2) (.int .i64 t524)) (fun _ hk => hk.2) (.int .i64 t525)) (fun _ hk => hk.2) (.int .i64 t526)) (fun _ hk => hk.2) (.int .i64 t527)) (fun _ hk => hk.2) (.int .i64 t528)) (fun _ hk => hk.2) (.int .i64 t529)) (fun _ hk => hk.2) (.slice Ao44 t530.length co44)) (fun _ hk => hk.2) (.slice Ao46 t533.length co46)) (fun _ hk => ⟨hk.1.1, ⟨hk.1.2.2.1, ⟨hk.1.2.2.2.2.1, ⟨hk.1.2.2.2.2.2.1, ⟨hk.1.2.2.2.1, ⟨hk.1.2.1, ⟨hk.1.2.2.2.2.2.2.1, hk.1.2.2.2.2.2.2.2⟩⟩⟩⟩⟩⟩⟩)⟩, ⟨ft_ BK502.out NB502_536.out⟩, ⟨by (with_reducible repeat (first | apply bn_ | apply bd_ | apply ba_)); refine blk_put (cs := #[.int .i64 t523, .int .i64 t524, .int .i64 t525, .int .i64 t526, .int .i64 t527, .int .i64 t528, .int .i64 t529, .slice Ao44 t530.length co44, .slice none 0 0]) ?_ 8 _ rfl; (with_reducible repeat (first | apply bn_ | apply bd_ | apply ba_)); refine blk_put (cs := #[.int .i64 t523, .int .i64 t524, .int .i64 t525, .int .i64 t526, .int .i64 t527, .int .i64 t528, .int .i64 t529, .slice none 0 0, .slice none 0 0]) ?_ 7 _ rfl; (with_reducible repeat (first | apply bn_ | apply bd_ | apply ba_)); refine blk_put (cs := #[.int .i64 t523, .int .i64 t524, .int .i64 t525, .int .i64 t526, .int .i64 t527, .int .i64 t528, .int .i64 0, .slice none 0 0, .slice none 0 0]) ?_ 6 _ rfl; (with_reducible repeat (first | apply bn_ | apply bd_ | apply ba_)); refine blk_put (cs := #[.int .i64 t523, .int .i64 t524, .int .i64 t525, .int .i64 t526, .int .i64 t527, .int .i64 0, .int .i64 0, .slice none 0 0, .slice none 0 0]) ?_ 5 _ rfl; (with_reducible repeat (first | apply bn_ | apply bd_ | apply ba_)); refine blk_put (cs := #[.int .i64 t523, .int .i64 t524, .int .i64 t525, .int .i64 t526, .int .i64 0, .int .i64 0, .int .i64 0, .slice none 0 0, .slice none 0 0]) ?_ 4 _ rfl; (with_reducible repeat (first | apply bn_ | apply bd_ | apply ba_)); refine blk_put (cs := #[.int .i64 t523, .int .i64 t524, .int .i64 t525, .int .i64 0, .int .i64 0, .int .i64 0, .int .i64 0, .slice none 0 0, .slice none 0 0]) ?_ 3 _ rfl; (with_reducible repeat (first | apply bn_ | apply bd_ | apply ba_)); refine blk_put (cs := #[.int .i64 t523, .int .i64 t524, .int .i64 0, .int .i64 0, .int .i64 0, .int .i64 0, .int .i64 0, .slice none 0 0, .slice none 0 0]) ?_ 2 _ rfl; (with_reducible repeat (first | apply bn_ | apply bd_ | apply ba_)); refine blk_put (cs := #[.int .i64 t523, .int .i64 0, .int .i64 0, .int .i64 0, .int .i64 0, .int .i64 0, .int .i64 0, .slice none 0 0, .slice none 0 0]) ?_ 1 _ rfl; (with_reducible repeat (first | apply bn_ | apply bd_ | apply ba_)); refine blk_put (cs := #[.int .i64 0, .int .i64 0, .int .i64 0, .int .i64 0, .int .i64 0, .int .i64 0, .int .i64 0, .slice none 0 0, .slice none 0 0]) ?_ 0 _ rfl; (with_reducible repeat (first | apply bn_ | apply bd_ | apply ba_)); exact BK536.out⟩, ⟨bl_⟩⟩
             case round =>
              clear H'
              obtain ⟨x5_3, x6_3, x71_3, rfl, HA, HK3, HO_3, HO_5, HO_6, HO_39, HO_503004, HO_503005, HO_537007, HO_537008, BK502, BK536, HB⟩ := hrel
              cases gk with
              | zero => exact absurd HA.out (by simp [credenzalaw14_AttnFused.l1])
              | succ k3 =>
               have H := HA.out
               clear HA
               simp only [credenzalaw14_AttnFused.l1] at H
               by_cases c50 : x71_3 < ((rd_T53 l0_1 x41_2).f2)
               ·rw [if_pos c50] at H
                have c50b0 : decide (x71_3 < ((rd_T53 l0_1 x41_2).f2)) = true := decide_eq_true c50
                clear c50
                replace H := ob_ H
                obtain ⟨t538, A51, H⟩ := H
                try dsimp only at H
                by_cases c52 : x5_3.length < 5864062014805
                ·rw [if_pos c52] at H
                 have LMc52 := A_ c52
                 clear c52
                 obtain ⟨y541, hy541⟩ : ∃ y_ : List (List Int), y_ = (x5_3 ++ [t538]) := ⟨_, rfl⟩
                 replace H : ((credenzaref08_Page_Value.f k3 t523 t524 t525 t526 t527 t528 t529 t530 t533 x71_3).bind fun t544 => (if x6_3.length < 5864062014805 then (credenzalaw14_AttnFused.l1 k3 t503 y541 (x6_3 ++ [t544]) t503 (t503.length : Int) x41_2 ((rd_T53 l0_1 x41_2).f2) (wrap64 (x71_3 + 1)) l0_0 l0_1 l0_2 l0_3 l0_4 l0_5 t523 t524 t525 t526 t527 t528 t529 t530 t533) else (none))) = some r := hy_ hy541 H
                 have Ny541 := A_ hy541
                 clear hy541
                 replace H := ob_ H
                 obtain ⟨t544, A53, H⟩ := H
                 try dsimp only at H
                 by_cases c54 : x6_3.length < 5864062014805
                 ·rw [if_pos c54] at H
                  have LMc54 := A_ c54
                  clear c54
                  obtain ⟨y547, hy547⟩ : ∃ y_ : List (List Int), y_ = (x6_3 ++ [t544]) := ⟨_, rfl⟩
                  replace H : (credenzalaw14_AttnFused.l1 k3 t503 y541 y547 t503 (t503.length : Int) x41_2 ((rd_T53 l0_1 x41_2).f2) (wrap64 (x71_3 + 1)) l0_0 l0_1 l0_2 l0_3 l0_4 l0_5 t523 t524 t525 t526 t527 t528 t529 t530 t533) = some r := hy_ hy547 H
                  have Ny547 := A_ hy547
                  clear hy547
                  have H' := A_ H
                  clear H
                  try go_wp2
                  replace HO_3 := A_ (Kd.R_drew HO_3.out)
                  replace HO_5 := A_ (Kd.N_drew HO_5.out)
                  replace HO_6 := A_ (Kd.N_drew HO_6.out)
                  replace HO_39 := A_ (Kd.R_drew HO_39.out)
                  replace HO_503004 := A_ (Kd.V_drew HO_503004.out)
                  replace HO_503005 := A_ (Kd.V_drew HO_503005.out)
                  replace HO_537007 := A_ (Kd.N_drew HO_537007.out)
                  replace HO_537008 := A_ (Kd.N_drew HO_537008.out)
                  replace BK502 := A_ (blk_drew BK502.out)
                  replace BK536 := A_ (blk_drew BK536.out)
                  replace HB := A_ (below_drew1 HB.out)
                  refine start_ (n := 14) (S := fun w' => w'.cell? ⟨gb536, 0, none⟩ = some (.int .i64 t523) ∧ w'.cell? ⟨gb536, 1, none⟩ = some (.int .i64 t524) ∧ w'.cell? ⟨gb536, 2, none⟩ = some (.int .i64 t525) ∧ w'.cell? ⟨gb536, 3, none⟩ = some (.int .i64 t526) ∧ w'.cell? ⟨gb536, 4, none⟩ = some (.int .i64 t527) ∧ w'.cell? ⟨gb536, 5, none⟩ = some (.int .i64 t528) ∧ w'.cell? ⟨gb536, 6, none⟩ = some (.int .i64 t529) ∧ w'.cell? ⟨gb536, 7, none⟩ = some (.slice Ao44 t530.length co44) ∧ w'.cell? ⟨gb536, 8, none⟩ = some (.slice Ao46 t533.length co46)) (ds := []) #[false, false, false, false, false, false, false, false, false, false, false, false, false, false] (by kernel_rfl) rfl rfl ⟨c0_ BK536.out, c1_ BK536.out, c2_ BK536.out, c3_ BK536.out, c4_ BK536.out, c5_ BK536.out, c6_ BK536.out, c7_ BK536.out, c8_ BK536.out⟩ (fun hHeld => ?_); refine with_tabW credenzalaw14_AttnFused.tab14 credenzalaw14_AttnFused.bits14 (fun HT_ HW_ => ?_)
                  generalize wr.drew = w55 at HO_3 HO_5 HO_6 HO_39 HO_503004 HO_503005 HO_537007 HO_537008 BK502 BK536 HB hHeld ⊢
                  refine pure_ (i := 0) (N := some 74) (v := ?_) (a' := ?_) #[true, false, false, false, false, false, false, false, false, false, false, false, false, false] rfl rfl (any_of HT_.out (by kernel_rfl)) (fun _ _ _ h => h) (Or.inl ⟨by rfl, ?_⟩) ?_ ?_
                  rotate_left
                  ·intro w'
                   go_simp
                   with_reducible rfl
                  rotate_left
                  ·simp only [Act.put, ps_, i64_w, i32_w]
                   rfl
                  refine pure_ (i := 2) (N := some 76) (v := ?_) (a' := ?_) #[true, false, true, false, false, false, false, false, false, false, false, false, false, false] rfl rfl (any_of HT_.out (by kernel_rfl)) (fun _ _ _ h => h) (Or.inl ⟨by rfl, ?_⟩) ?_ ?_
                  rotate_left
                  ·intro w'
                   go_simp
                   with_reducible rfl
                  rotate_left
                  ·simp only [Act.put, ps_, i64_w, i32_w]
                   rfl
                  refine pure_ (i := 6) (N := some 80) (v := ?_) (a' := ?_) #[true, false, true, false, false, false, true, false, false, false, false, false, false, false] rfl rfl (any_of HT_.out (by kernel_rfl)) (fun _ _ _ h => h) (Or.inl ⟨by rfl, ?_⟩) ?_ ?_
                  rotate_left
                  ·intro w'
                   go_simp
                   with_reducible rfl
                  rotate_left
                  ·simp only [Act.put, ps_, i64_w, i32_w]
                   rfl
                  refine pure_ (i := 8) (N := some 82) (v := ?_) (a' := ?_) #[true, false, true, false, false, false, true, false, true, false, false, false, false, false] rfl rfl (any_of HT_.out (by kernel_rfl)) (fun _ _ _ h => h) (Or.inl ⟨by rfl, ?_⟩) ?_ ?_
                  rotate_left
                  ·intro w'
                   go_simp
                   with_reducible rfl
                  rotate_left
                  ·simp only [Act.put, ps_, i64_w, i32_w]
                   rfl
                  refine take_ (i := 1) (N := some 75) (v := ?_) (a' := ?_) #[true, true, true, false, false, false, true, false, true, false, false, false, false, false] rfl rfl (take_ofW HT_.out HW_.out (by kernel_rfl)) (fun _ _ _ h => h) (Or.inl ⟨by rfl, ?_⟩) hHeld ?_ ?_
                  rotate_left
                  ·rintro w' ⟨s0, s1, s2, s3, s4, s5, s6, s7, s8⟩
                   go_simp
                   with_reducible rfl
                  rotate_left
                  ·simp only [Act.put, ps_, i64_w, i32_w]
                   rfl
                  refine take_ (i := 7) (N := some 81) (v := ?_) (a' := ?_) #[true, true, true, false, false, false, true, true, true, false, false, false, false, false] rfl rfl (take_ofW HT_.out HW_.out (by kernel_rfl)) (fun _ _ _ h => h) (Or.inl ⟨by rfl, ?_⟩) hHeld ?_ ?_
                  rotate_left
                  ·rintro w' ⟨s0, s1, s2, s3, s4, s5, s6, s7, s8⟩
                   go_simp
                   with_reducible rfl
                  rotate_left
                  ·simp only [Act.put, ps_, i64_w, i32_w]
                   rfl
                  refine one_ (i := 3) (N := some 77) #[true, true, true, true, false, false, true, true, true, false, false, false, false, false] rfl rfl (one_of HT_.out (by kernel_rfl)) (by decide) (fun K hK => ?_)
                  refine goes_ Try.func20 (by kernel_rfl) rfl #[.agg #[.int .i64 t523, .int .i64 t524, .int .i64 t525, .int .i64 t526, .int .i64 t527, .int .i64 t528, .int .i64 t529, .slice Ao44 t530.length co44, .slice Ao46 t533.length co46], .int .i64 x71_3] (by rfl) rfl rfl ar_ ?_
                  with_reducible refine (credenzaref08_Page_Key.calls k3 t523 t524 t525 t526 t527 t528 t529 _ _ t530 _ _ t533 x71_3 t538 _ ?side1 ?side2 ?side3 ?side4 A51.out).mono ?_
                  (case side1 => exact cb_ (Kd.N_reads' HO_537007.out).2.2)
                  (case side2 => exact (Kd.N_reads' HO_537007.out).2.1)
                  (case side3 => exact cb_ (Kd.N_reads' HO_537008.out).2.2)
                  (case side4 => exact (Kd.N_reads' HO_537008.out).2.1)
                  rintro e w56 ⟨v539, rfl, ho0, hb⟩
                  refine ⟨_, rfl, ?_⟩
                  replace HO_3 := A_ (Kd.R_below (mv_ HO_3.out) hb)
                  replace HO_5 := A_ (Kd.N_elder' (mv_ HO_5.out) (Kd.R_base ho0) hb)
                  replace HO_6 := A_ (Kd.N_elder' (mv_ HO_6.out) (Kd.R_base ho0) hb)
                  replace HO_39 := A_ (Kd.R_below (mv_ HO_39.out) hb)
                  replace HO_503004 := A_ (Kd.V_elder' (mv_ HO_503004.out) (Kd.R_base ho0) hb)
                  replace HO_503005 := A_ (Kd.V_elder' (mv_ HO_503005.out) (Kd.R_base ho0) hb)
                  replace HO_537007 := A_ (Kd.N_elder' (mv_ HO_537007.out) (Kd.R_base ho0) hb)
                  replace HO_537008 := A_ (Kd.N_elder' (mv_ HO_537008.out) (Kd.R_base ho0) hb)
                  have HO540 := A_ (Kd.R_lower (Kd.R_newM (M := fun k_ => (w.heap.size ≤ k_)) ho0 (below_size bl_) (fun k_ h_ => h_)) (below_size bl_))
                  replace BK502 := A_ (bb_ BK502.out hb)
                  replace BK536 := A_ (bb_ BK536.out hb)
                  replace HB := A_ (below_step bl_ hb)
                  obtain ⟨Ao58, co58, eo58⟩ := Kd.R_slice HO540.out
                  (first | subst eo58 | (injection eo58 with f1_ f2_ f3_; have f4_ := f1_.symm; have f5_ := f3_.symm; clear f1_ f2_ f3_; subst f4_; subst f5_))
                  refine hK.out _ _ ⟨c0_ BK536.out, c1_ BK536.out, c2_ BK536.out, c3_ BK536.out, c4_ BK536.out, c5_ BK536.out, c6_ BK536.out, c7_ BK536.out, c8_ BK536.out⟩ (fun hHeld => ?_)
                  clear hK K
                  refine norm_ (a' := ?_) ?_ ?_
                  rotate_left
                  ·show Act.put _ (some 77) _ = _
                   simp only [Act.put, ps_, i64_w, i32_w]
                   rfl
                  refine one_ (i := 4) (N := some 78) #[true, true, true, true, true, false, true, true, true, false, false, false, false, false] rfl rfl (one_of HT_.out (by kernel_rfl)) (by decide) (fun K hK => ?_)
                  refine value_ (w1 := ?_) (v := ?_) (by rfl) rfl ?_ ?_
                  rotate_left 2
                  ·go_simp
                   constructor
                   ·rfl
                   ·rfl
                  refine hK.out _ _ ⟨(blk_cell (blk_alloc BK536.out _) 0).trans rfl, (blk_cell (blk_alloc BK536.out _) 1).trans rfl, (blk_cell (blk_alloc BK536.out _) 2).trans rfl, (blk_cell (blk_alloc BK536.out _) 3).trans rfl, (blk_cell (blk_alloc BK536.out _) 4).trans rfl, (blk_cell (blk_alloc BK536.out _) 5).trans rfl, (blk_cell (blk_alloc BK536.out _) 6).trans rfl, (blk_cell (blk_alloc BK536.out _) 7).trans rfl, (blk_cell (blk_alloc BK536.out _) 8).trans rfl⟩ (fun hHeld => ?_)
                  clear hK K
                  refine norm_ (a' := ?_) ?_ ?_
                  rotate_left
                  ·show Act.put _ (some 78) _ = _
                   simp only [Act.put, ps_, i64_w, i32_w]
                   rfl
                  refine one_ (i := 5) (N := some 79) #[true, true, true, true, true, true, true, true, true, false, false, false, false, false] rfl rfl (one_of HT_.out (by kernel_rfl)) (by decide) (fun K hK => ?_)
                  refine Kd.N_append_step (Kd.slice 21 (Kd.int .i32)) (w0 := w) w.heap.size (by rfl) (.tmp 74) (.tmp 78) 29 22 (.slice none 0 0) 24 rfl Try.underlying29 info22 rfl (by decide) (by omega) u5 x5_3 t538 [.slice Ao58 t538.length co58] (fun k_ => ((P0_4_ k_ ∨ P0_5_ k_) ∨ w.heap.size ≤ k_) ∧ some k_ ≠ (.slice (some ad512) t503.length co22 : Value).ownBlock ∧ some k_ ≠ (u6 : Value).ownBlock ∧ some k_ ≠ (.slice (some ad512) t503.length co22 : Value).ownBlock ∧ some k_ ≠ (.slice Ao44 t530.length co44 : Value).ownBlock ∧ some k_ ≠ (.slice Ao46 t533.length co46 : Value).ownBlock ∧ k_ ≠ gb502 ∧ k_ ≠ gb536) (fun k_ => ((fun k_ => ((P0_4_ k_ ∨ P0_5_ k_) ∨ w.heap.size ≤ k_) ∧ some k_ ≠ (.slice (some ad512) t503.length co22 : Value).ownBlock ∧ some k_ ≠ (u6 : Value).ownBlock ∧ some k_ ≠ (.slice (some ad512) t503.length co22 : Value).ownBlock ∧ some k_ ≠ (.slice Ao44 t530.length co44 : Value).ownBlock ∧ some k_ ≠ (.slice Ao46 t533.length co46 : Value).ownBlock ∧ k_ ≠ gb502 ∧ k_ ≠ gb536)) k_ ∧ some k_ ≠ (u5 : Value).ownBlock) rfl rfl ?aP (fun _ hk => hk) ?aF ?aO ?aB ?aS ?aL ?_
                  (case aP => exact (Kd.FK_slice_mk (Kd.R_reads' (Kd.R_mono (ok' := (fun k_ => ((fun k_ => ((P0_4_ k_ ∨ P0_5_ k_) ∨ w.heap.size ≤ k_) ∧ some k_ ≠ (.slice (some ad512) t503.length co22 : Value).ownBlock ∧ some k_ ≠ (u6 : Value).ownBlock ∧ some k_ ≠ (.slice (some ad512) t503.length co22 : Value).ownBlock ∧ some k_ ≠ (.slice Ao44 t530.length co44 : Value).ownBlock ∧ some k_ ≠ (.slice Ao46 t533.length co46 : Value).ownBlock ∧ k_ ≠ gb502 ∧ k_ ≠ gb536)) k_ ∧ some k_ ≠ (u5 : Value).ownBlock)) (Kd.R_types (Kd.R_types (Kd.R_apart' (Kd.R_apart' (Kd.R_apart' (Kd.R_apart' (Kd.R_apart' (Kd.R_apart' (HO540.out) (Kd.R_typed HO_3.out) (by decide)) (Kd.N_typed HO_6.out) (by decide)) (Kd.R_typed HO_39.out) (by decide)) (Kd.N_typed HO_537007.out) (by decide)) (Kd.N_typed HO_537008.out) (by decide)) (Kd.N_typed HO_5.out) (by decide)) BK502.out (by decide)) BK536.out (by decide)) (fun k_ hk => ⟨⟨(.inr (hk.1.1.1.1.1.1.1.1.1)), ⟨hk.1.1.1.1.1.1.1.2, ⟨hk.1.1.1.1.1.1.2, ⟨hk.1.1.1.1.1.2, ⟨hk.1.1.1.1.2, ⟨hk.1.1.1.2, ⟨hk.1.2, hk.2⟩⟩⟩⟩⟩⟩⟩, hk.1.1.2⟩))).2.1 (Kd.R_F (Kd.R_mono (ok' := (fun k_ => ((fun k_ => ((P0_4_ k_ ∨ P0_5_ k_) ∨ w.heap.size ≤ k_) ∧ some k_ ≠ (.slice (some ad512) t503.length co22 : Value).ownBlock ∧ some k_ ≠ (u6 : Value).ownBlock ∧ some k_ ≠ (.slice (some ad512) t503.length co22 : Value).ownBlock ∧ some k_ ≠ (.slice Ao44 t530.length co44 : Value).ownBlock ∧ some k_ ≠ (.slice Ao46 t533.length co46 : Value).ownBlock ∧ k_ ≠ gb502 ∧ k_ ≠ gb536)) k_ ∧ some k_ ≠ (u5 : Value).ownBlock)) (Kd.R_types (Kd.R_types (Kd.R_apart' (Kd.R_apart' (Kd.R_apart' (Kd.R_apart' (Kd.R_apart' (Kd.R_apart' (HO540.out) (Kd.R_typed HO_3.out) (by decide)) (Kd.N_typed HO_6.out) (by decide)) (Kd.R_typed HO_39.out) (by decide)) (Kd.N_typed HO_537007.out) (by decide)) (Kd.N_typed HO_537008.out) (by decide)) (Kd.N_typed HO_5.out) (by decide)) BK502.out (by decide)) BK536.out (by decide)) (fun k_ hk => ⟨⟨(.inr (hk.1.1.1.1.1.1.1.1.1)), ⟨hk.1.1.1.1.1.1.1.2, ⟨hk.1.1.1.1.1.1.2, ⟨hk.1.1.1.1.1.2, ⟨hk.1.1.1.1.2, ⟨hk.1.1.1.2, ⟨hk.1.2, hk.2⟩⟩⟩⟩⟩⟩⟩, hk.1.1.2⟩)))))
                  (case aB => exact bl_)
                  (case aF => exact (fun k_ hk => ⟨(.inr (Nat.le_trans (below_size bl_) hk)), Kd.fresh' (Kd.R_lt (mv_ HO_3.out)) k_ hk, Kd.fresh' (Kd.N_lt (mv_ HO_6.out)) k_ hk, Kd.fresh' (Kd.R_lt (mv_ HO_39.out)) k_ hk, Kd.fresh' (Kd.N_lt (mv_ HO_537007.out)) k_ hk, Kd.fresh' (Kd.N_lt (mv_ HO_537008.out)) k_ hk, Kd.freshB (g := gb502) (o := .cells #[.slice A0_0 l0_0.length c0_0, .slice (some ad513) l0_1.length c0_1, .slice (some ad521) l0_2.length c0_2, .slice (some ad522) l0_3.length c0_3, .slice A0_4 l0_4.length c0_4, .slice A0_5 l0_5.length c0_5] 41 (0, 0)) (mv_ BK502.out) k_ hk, Kd.freshB (g := gb536) (o := .cells #[.int .i64 t523, .int .i64 t524, .int .i64 t525, .int .i64 t526, .int .i64 t527, .int .i64 t528, .int .i64 t529, .slice Ao44 t530.length co44, .slice Ao46 t533.length co46] 49 (0, 0)) (mv_ BK536.out) k_ hk⟩))
                  (case aO => exact (by (with_reducible repeat (first | apply Kd.N_alloc | apply Kd.N_drewN | apply Kd.N_drew)); exact Kd.N_mono HO_5.out (fun _ hk => ⟨hk.1.1, ⟨hk.1.2.1, ⟨hk.1.2.2.1, ⟨hk.1.2.2.2.1, ⟨hk.1.2.2.2.2.1, ⟨hk.1.2.2.2.2.2.1, ⟨hk.1.2.2.2.2.2.2.1, hk.1.2.2.2.2.2.2.2⟩⟩⟩⟩⟩⟩⟩)))
                  (case aS => exact (below_size bl_))
                  (case aL => have := LMc52.out; omega)
                  intro v542 w57 ho hb hg hat
                  rw [← Ny541.out] at ho
                  replace HO_3 := A_ (Kd.R_over' (mv_ HO_3.out) (Kd.N_typed (mv_ HO_5.out)) (by decide) hg)
                  replace HO_6 := A_ (Kd.N_afterv (ok := (fun k_ => ((P0_4_ k_ ∨ P0_5_ k_) ∨ w.heap.size ≤ k_) ∧ some k_ ≠ (.slice (some ad512) t503.length co22 : Value).ownBlock ∧ some k_ ≠ (.slice (some ad512) t503.length co22 : Value).ownBlock ∧ some k_ ≠ (.slice Ao44 t530.length co44 : Value).ownBlock ∧ some k_ ≠ (.slice Ao46 t533.length co46 : Value).ownBlock ∧ some k_ ≠ (.slice Ao58 t538.length co58 : Value).ownBlock ∧ k_ ≠ gb502 ∧ k_ ≠ gb536)) (by (with_reducible repeat (first | apply Kd.N_alloc | apply Kd.N_drewN | apply Kd.N_drew)); exact Kd.N_mono HO_6.out (fun _ hk => ⟨⟨hk.1.1, ⟨hk.1.2.1, ⟨hk.1.2.2.2.1, ⟨hk.1.2.2.2.2.1, ⟨hk.1.2.2.2.2.2.1, ⟨hk.2, ⟨hk.1.2.2.2.2.2.2.1, hk.1.2.2.2.2.2.2.2⟩⟩⟩⟩⟩⟩⟩, hk.1.2.2.1⟩)) hg hat)
                  replace HO_39 := A_ (Kd.R_over' (mv_ HO_39.out) (Kd.N_typed (mv_ HO_5.out)) (by decide) hg)
                  replace HO_503004 := A_ (Kd.V_afterv (ok := (fun k_ => ((P0_4_ k_ ∨ P0_5_ k_) ∨ w.heap.size ≤ k_) ∧ some k_ ≠ (.slice (some ad512) t503.length co22 : Value).ownBlock ∧ some k_ ≠ (u6 : Value).ownBlock ∧ some k_ ≠ (.slice (some ad512) t503.length co22 : Value).ownBlock ∧ some k_ ≠ (.slice Ao44 t530.length co44 : Value).ownBlock ∧ some k_ ≠ (.slice Ao46 t533.length co46 : Value).ownBlock ∧ some k_ ≠ (.slice Ao58 t538.length co58 : Value).ownBlock ∧ k_ ≠ gb502 ∧ k_ ≠ gb536)) (by (with_reducible repeat (first | apply Kd.V_alloc | apply Kd.V_drewN | apply Kd.V_drew)); exact Kd.V_mono HO_503004.out (fun _ hk => ⟨⟨hk.1.1, ⟨hk.1.2.1, ⟨hk.1.2.2.2.1, ⟨hk.1.2.2.2.2.1, ⟨hk.1.2.2.2.2.2.1, ⟨hk.1.2.2.2.2.2.2.1, ⟨hk.2, ⟨hk.1.2.2.2.2.2.2.2.1, hk.1.2.2.2.2.2.2.2.2⟩⟩⟩⟩⟩⟩⟩⟩, hk.1.2.2.1⟩)) hg hat)
                  replace HO_503005 := A_ (Kd.V_afterv (ok := (fun k_ => ((P0_4_ k_ ∨ P0_5_ k_) ∨ w.heap.size ≤ k_) ∧ some k_ ≠ (.slice (some ad512) t503.length co22 : Value).ownBlock ∧ some k_ ≠ (u6 : Value).ownBlock ∧ some k_ ≠ (.slice (some ad512) t503.length co22 : Value).ownBlock ∧ some k_ ≠ (.slice Ao44 t530.length co44 : Value).ownBlock ∧ some k_ ≠ (.slice Ao46 t533.length co46 : Value).ownBlock ∧ some k_ ≠ (.slice Ao58 t538.length co58 : Value).ownBlock ∧ k_ ≠ gb502 ∧ k_ ≠ gb536)) (by (with_reducible repeat (first | apply Kd.V_alloc | apply Kd.V_drewN | apply Kd.V_drew)); exact Kd.V_mono HO_503005.out (fun _ hk => ⟨⟨hk.1.1, ⟨hk.1.2.1, ⟨hk.1.2.2.2.1, ⟨hk.1.2.2.2.2.1, ⟨hk.1.2.2.2.2.2.1, ⟨hk.1.2.2.2.2.2.2.1, ⟨hk.2, ⟨hk.1.2.2.2.2.2.2.2.1, hk.1.2.2.2.2.2.2.2.2⟩⟩⟩⟩⟩⟩⟩⟩, hk.1.2.2.1⟩)) hg hat)
                  replace HO_537007 := A_ (Kd.N_afterv (ok := (fun k_ => ((P0_4_ k_ ∨ P0_5_ k_) ∨ w.heap.size ≤ k_) ∧ some k_ ≠ (.slice (some ad512) t503.length co22 : Value).ownBlock ∧ some k_ ≠ (u6 : Value).ownBlock ∧ some k_ ≠ (.slice (some ad512) t503.length co22 : Value).ownBlock ∧ some k_ ≠ (.slice Ao46 t533.length co46 : Value).ownBlock ∧ some k_ ≠ (.slice Ao58 t538.length co58 : Value).ownBlock ∧ k_ ≠ gb502 ∧ k_ ≠ gb536)) (by (with_reducible repeat (first | apply Kd.N_alloc | apply Kd.N_drewN | apply Kd.N_drew)); exact Kd.N_mono HO_537007.out (fun _ hk => ⟨⟨hk.1.1, ⟨hk.1.2.1, ⟨hk.1.2.2.2.1, ⟨hk.1.2.2.2.2.1, ⟨hk.1.2.2.2.2.2.1, ⟨hk.2, ⟨hk.1.2.2.2.2.2.2.1, hk.1.2.2.2.2.2.2.2⟩⟩⟩⟩⟩⟩⟩, hk.1.2.2.1⟩)) hg hat)
                  replace HO_537008 := A_ (Kd.N_afterv (ok := (fun k_ => ((P0_4_ k_ ∨ P0_5_ k_) ∨ w.heap.size ≤ k_) ∧ some k_ ≠ (.slice (some ad512) t503.length co22 : Value).ownBlock ∧ some k_ ≠ (u6 : Value).ownBlock ∧ some k_ ≠ (.slice (some ad512) t503.length co22 : Value).ownBlock ∧ some k_ ≠ (.slice Ao44 t530.length co44 : Value).ownBlock ∧ some k_ ≠ (.slice Ao58 t538.length co58 : Value).ownBlock ∧ k_ ≠ gb502 ∧ k_ ≠ gb536)) (by (with_reducible repeat (first | apply Kd.N_alloc | apply Kd.N_drewN | apply Kd.N_drew)); exact Kd.N_mono HO_537008.out (fun _ hk => ⟨⟨hk.1.1, ⟨hk.1.2.1, ⟨hk.1.2.2.2.1, ⟨hk.1.2.2.2.2.1, ⟨hk.1.2.2.2.2.2.1, ⟨hk.2, ⟨hk.1.2.2.2.2.2.2.1, hk.1.2.2.2.2.2.2.2⟩⟩⟩⟩⟩⟩⟩, hk.1.2.2.1⟩)) hg hat)
                  replace BK502 := A_ (bg_ BK502.out hg (Kd.N_ne HO_5.out BK502.out (by decide)))
                  replace BK536 := A_ (bg_ BK536.out hg (Kd.N_ne HO_5.out BK536.out (by decide)))
                  have HO543 := A_ ho
                  replace HB := A_ hb
                  clear HO_5 HO540 ho hb hg hat
                  refine hK.out _ _ ⟨c0_ BK536.out, c1_ BK536.out, c2_ BK536.out, c3_ BK536.out, c4_ BK536.out, c5_ BK536.out, c6_ BK536.out, c7_ BK536.out, c8_ BK536.out⟩ (fun hHeld => ?_)
                  clear hK K
                  refine norm_ (a' := ?_) ?_ ?_
                  rotate_left
                  ·show Act.put _ (some 79) _ = _
                   simp only [Act.put, ps_, i64_w, i32_w]
                   rfl
                  refine one_ (i := 9) (N := some 83) #[true, true, true, true, true, true, true, true, true, true, false, false, false, false] rfl rfl (one_of HT_.out (by kernel_rfl)) (by decide) (fun K hK => ?_)
                  refine goes_ Try.func21 (by kernel_rfl) rfl #[.agg #[.int .i64 t523, .int .i64 t524, .int .i64 t525, .int .i64 t526, .int .i64 t527, .int .i64 t528, .int .i64 t529, .slice Ao44 t530.length co44, .slice Ao46 t533.length co46], .int .i64 x71_3] (by rfl) rfl rfl ar_ ?_
                  with_reducible refine (credenzaref08_Page_Value.calls k3 t523 t524 t525 t526 t527 t528 t529 _ _ t530 _ _ t533 x71_3 t544 _ ?side1 ?side2 ?side3 ?side4 A53.out).mono ?_
                  (case side1 => exact cb_ (Kd.N_reads' HO_537007.out).2.2)
                  (case side2 => exact (Kd.N_reads' HO_537007.out).2.1)
                  (case side3 => exact cb_ (Kd.N_reads' HO_537008.out).2.2)
                  (case side4 => exact (Kd.N_reads' HO_537008.out).2.1)
                  rintro e w59 ⟨v545, rfl, ho0, hb⟩
                  refine ⟨_, rfl, ?_⟩
                  replace HO_3 := A_ (Kd.R_below (mv_ HO_3.out) hb)
                  replace HO_6 := A_ (Kd.N_elder' (mv_ HO_6.out) (Kd.R_base ho0) hb)
                  replace HO_39 := A_ (Kd.R_below (mv_ HO_39.out) hb)
                  replace HO_503004 := A_ (Kd.V_elder' (mv_ HO_503004.out) (Kd.R_base ho0) hb)
                  replace HO_503005 := A_ (Kd.V_elder' (mv_ HO_503005.out) (Kd.R_base ho0) hb)
                  replace HO_537007 := A_ (Kd.N_elder' (mv_ HO_537007.out) (Kd.R_base ho0) hb)
                  replace HO_537008 := A_ (Kd.N_elder' (mv_ HO_537008.out) (Kd.R_base ho0) hb)
                  replace HO543 := A_ (Kd.N_elder' (mv_ HO543.out) (Kd.R_base ho0) hb)
                  have HO546 := A_ (Kd.R_lower (Kd.R_newM (M := fun k_ => (w.heap.size ≤ k_)) ho0 (below_size bl_) (fun k_ h_ => h_)) (below_size bl_))
                  replace BK502 := A_ (bb_ BK502.out hb)
                  replace BK536 := A_ (bb_ BK536.out hb)
                  replace HB := A_ (below_step bl_ hb)
                  obtain ⟨Ao61, co61, eo61⟩ := Kd.R_slice HO546.out
                  (first | subst eo61 | (injection eo61 with f1_ f2_ f3_; have f4_ := f1_.symm; have f5_ := f3_.symm; clear f1_ f2_ f3_; subst f4_; subst f5_))
                  refine hK.out _ _ ⟨c0_ BK536.out, c1_ BK536.out, c2_ BK536.out, c3_ BK536.out, c4_ BK536.out, c5_ BK536.out, c6_ BK536.out, c7_ BK536.out, c8_ BK536.out⟩ (fun hHeld => ?_)
                  clear hK K
                  refine norm_ (a' := ?_) ?_ ?_
                  rotate_left
                  ·show Act.put _ (some 83) _ = _
                   simp only [Act.put, ps_, i64_w, i32_w]
                   rfl
                  refine one_ (i := 10) (N := some 84) #[true, true, true, true, true, true, true, true, true, true, true, false, false, false] rfl rfl (one_of HT_.out (by kernel_rfl)) (by decide) (fun K hK => ?_)
                  refine value_ (w1 := ?_) (v := ?_) (by rfl) rfl ?_ ?_
                  rotate_left 2
                  ·go_simp
                   constructor
                   ·rfl
                   ·rfl
                  refine hK.out _ _ ⟨(blk_cell (blk_alloc BK536.out _) 0).trans rfl, (blk_cell (blk_alloc BK536.out _) 1).trans rfl, (blk_cell (blk_alloc BK536.out _) 2).trans rfl, (blk_cell (blk_alloc BK536.out _) 3).trans rfl, (blk_cell (blk_alloc BK536.out _) 4).trans rfl, (blk_cell (blk_alloc BK536.out _) 5).trans rfl, (blk_cell (blk_alloc BK536.out _) 6).trans rfl, (blk_cell (blk_alloc BK536.out _) 7).trans rfl, (blk_cell (blk_alloc BK536.out _) 8).trans rfl⟩ (fun hHeld => ?_)
                  clear hK K
                  refine norm_ (a' := ?_) ?_ ?_
                  rotate_left
                  ·show Act.put _ (some 84) _ = _
                   simp only [Act.put, ps_, i64_w, i32_w]
                   rfl
                  refine one_ (i := 11) (N := some 85) #[true, true, true, true, true, true, true, true, true, true, true, true, false, false] rfl rfl (one_of HT_.out (by kernel_rfl)) (by decide) (fun K hK => ?_)
                  refine Kd.N_append_step (Kd.slice 21 (Kd.int .i32)) (w0 := w) w.heap.size (by rfl) (.tmp 80) (.tmp 84) 29 22 (.slice none 0 0) 24 rfl Try.underlying29 info22 rfl (by decide) (by omega) u6 x6_3 t544 [.slice Ao61 t544.length co61] (fun k_ => ((P0_4_ k_ ∨ P0_5_ k_) ∨ w.heap.size ≤ k_) ∧ some k_ ≠ (.slice (some ad512) t503.length co22 : Value).ownBlock ∧ some k_ ≠ (.slice (some ad512) t503.length co22 : Value).ownBlock ∧ some k_ ≠ (.slice Ao44 t530.length co44 : Value).ownBlock ∧ some k_ ≠ (.slice Ao46 t533.length co46 : Value).ownBlock ∧ some k_ ≠ (v542 : Value).ownBlock ∧ k_ ≠ gb502 ∧ k_ ≠ gb536) (fun k_ => ((fun k_ => ((P0_4_ k_ ∨ P0_5_ k_) ∨ w.heap.size ≤ k_) ∧ some k_ ≠ (.slice (some ad512) t503.length co22 : Value).ownBlock ∧ some k_ ≠ (.slice (some ad512) t503.length co22 : Value).ownBlock ∧ some k_ ≠ (.slice Ao44 t530.length co44 : Value).ownBlock ∧ some k_ ≠ (.slice Ao46 t533.length co46 : Value).ownBlock ∧ some k_ ≠ (v542 : Value).ownBlock ∧ k_ ≠ gb502 ∧ k_ ≠ gb536)) k_ ∧ some k_ ≠ (u6 : Value).ownBlock) rfl rfl ?aP (fun _ hk => hk) ?aF ?aO ?aB ?aS ?aL ?_
                  (case aP => exact (Kd.FK_slice_mk (Kd.R_reads' (Kd.R_mono (ok' := (fun k_ => ((fun k_ => ((P0_4_ k_ ∨ P0_5_ k_) ∨ w.heap.size ≤ k_) ∧ some k_ ≠ (.slice (some ad512) t503.length co22 : Value).ownBlock ∧ some k_ ≠ (.slice (some ad512) t503.length co22 : Value).ownBlock ∧ some k_ ≠ (.slice Ao44 t530.length co44 : Value).ownBlock ∧ some k_ ≠ (.slice Ao46 t533.length co46 : Value).ownBlock ∧ some k_ ≠ (v542 : Value).ownBlock ∧ k_ ≠ gb502 ∧ k_ ≠ gb536)) k_ ∧ some k_ ≠ (u6 : Value).ownBlock)) (Kd.R_types (Kd.R_types (Kd.R_apart' (Kd.R_apart' (Kd.R_apart' (Kd.R_apart' (Kd.R_apart' (Kd.R_apart' (HO546.out) (Kd.R_typed HO_3.out) (by decide)) (Kd.R_typed HO_39.out) (by decide)) (Kd.N_typed HO_537007.out) (by decide)) (Kd.N_typed HO_537008.out) (by decide)) (Kd.N_typed HO543.out) (by decide)) (Kd.N_typed HO_6.out) (by decide)) BK502.out (by decide)) BK536.out (by decide)) (fun k_ hk => ⟨⟨(.inr (hk.1.1.1.1.1.1.1.1.1)), ⟨hk.1.1.1.1.1.1.1.2, ⟨hk.1.1.1.1.1.1.2, ⟨hk.1.1.1.1.1.2, ⟨hk.1.1.1.1.2, ⟨hk.1.1.1.2, ⟨hk.1.2, hk.2⟩⟩⟩⟩⟩⟩⟩, hk.1.1.2⟩))).2.1 (Kd.R_F (Kd.R_mono (ok' := (fun k_ => ((fun k_ => ((P0_4_ k_ ∨ P0_5_ k_) ∨ w.heap.size ≤ k_) ∧ some k_ ≠ (.slice (some ad512) t503.length co22 : Value).ownBlock ∧ some k_ ≠ (.slice (some ad512) t503.length co22 : Value).ownBlock ∧ some k_ ≠ (.slice Ao44 t530.length co44 : Value).ownBlock ∧ some k_ ≠ (.slice Ao46 t533.length co46 : Value).ownBlock ∧ some k_ ≠ (v542 : Value).ownBlock ∧ k_ ≠ gb502 ∧ k_ ≠ gb536)) k_ ∧ some k_ ≠ (u6 : Value).ownBlock)) (Kd.R_types (Kd.R_types (Kd.R_apart' (Kd.R_apart' (Kd.R_apart' (Kd.R_apart' (Kd.R_apart' (Kd.R_apart' (HO546.out) (Kd.R_typed HO_3.out) (by decide)) (Kd.R_typed HO_39.out) (by decide)) (Kd.N_typed HO_537007.out) (by decide)) (Kd.N_typed HO_537008.out) (by decide)) (Kd.N_typed HO543.out) (by decide)) (Kd.N_typed HO_6.out) (by decide)) BK502.out (by decide)) BK536.out (by decide)) (fun k_ hk => ⟨⟨(.inr (hk.1.1.1.1.1.1.1.1.1)), ⟨hk.1.1.1.1.1.1.1.2, ⟨hk.1.1.1.1.1.1.2, ⟨hk.1.1.1.1.1.2, ⟨hk.1.1.1.1.2, ⟨hk.1.1.1.2, ⟨hk.1.2, hk.2⟩⟩⟩⟩⟩⟩⟩, hk.1.1.2⟩)))))
                  (case aB => exact bl_)
                  (case aF => exact (fun k_ hk => ⟨(.inr (Nat.le_trans (below_size bl_) hk)), Kd.fresh' (Kd.R_lt (mv_ HO_3.out)) k_ hk, Kd.fresh' (Kd.R_lt (mv_ HO_39.out)) k_ hk, Kd.fresh' (Kd.N_lt (mv_ HO_537007.out)) k_ hk, Kd.fresh' (Kd.N_lt (mv_ HO_537008.out)) k_ hk, Kd.fresh' (Kd.N_lt (mv_ HO543.out)) k_ hk, Kd.freshB (g := gb502) (o := .cells #[.slice A0_0 l0_0.length c0_0, .slice (some ad513) l0_1.length c0_1, .slice (some ad521) l0_2.length c0_2, .slice (some ad522) l0_3.length c0_3, .slice A0_4 l0_4.length c0_4, .slice A0_5 l0_5.length c0_5] 41 (0, 0)) (mv_ BK502.out) k_ hk, Kd.freshB (g := gb536) (o := .cells #[.int .i64 t523, .int .i64 t524, .int .i64 t525, .int .i64 t526, .int .i64 t527, .int .i64 t528, .int .i64 t529, .slice Ao44 t530.length co44, .slice Ao46 t533.length co46] 49 (0, 0)) (mv_ BK536.out) k_ hk⟩))
                  (case aO => exact (by (with_reducible repeat (first | apply Kd.N_alloc | apply Kd.N_drewN | apply Kd.N_drew)); exact Kd.N_mono HO_6.out (fun _ hk => ⟨hk.1.1.1, ⟨hk.1.1.2.1, ⟨hk.1.1.2.2.1, ⟨hk.1.1.2.2.2.1, ⟨hk.1.1.2.2.2.2.1, ⟨hk.1.2, ⟨hk.1.1.2.2.2.2.2.2.1, hk.1.1.2.2.2.2.2.2.2⟩⟩⟩⟩⟩⟩⟩)))
                  (case aS => exact (below_size bl_))
                  (case aL => have := LMc54.out; omega)
                  intro v548 w60 ho hb hg hat
                  rw [← Ny547.out] at ho
                  replace HO_3 := A_ (Kd.R_over' (mv_ HO_3.out) (Kd.N_typed (mv_ HO_6.out)) (by decide) hg)
                  replace HO_39 := A_ (Kd.R_over' (mv_ HO_39.out) (Kd.N_typed (mv_ HO_6.out)) (by decide) hg)
                  replace HO_503004 := A_ (Kd.V_afterv (ok := (fun k_ => ((P0_4_ k_ ∨ P0_5_ k_) ∨ w.heap.size ≤ k_) ∧ some k_ ≠ (.slice (some ad512) t503.length co22 : Value).ownBlock ∧ some k_ ≠ (.slice (some ad512) t503.length co22 : Value).ownBlock ∧ some k_ ≠ (.slice Ao44 t530.length co44 : Value).ownBlock ∧ some k_ ≠ (.slice Ao46 t533.length co46 : Value).ownBlock ∧ some k_ ≠ (v542 : Value).ownBlock ∧ some k_ ≠ (.slice Ao61 t544.length co61 : Value).ownBlock ∧ k_ ≠ gb502 ∧ k_ ≠ gb536)) (by (with_reducible repeat (first | apply Kd.V_alloc | apply Kd.V_drewN | apply Kd.V_drew)); exact Kd.V_mono HO_503004.out (fun _ hk => ⟨⟨hk.1.1.1, ⟨hk.1.1.2.1, ⟨hk.1.1.2.2.2.1, ⟨hk.1.1.2.2.2.2.1, ⟨hk.1.1.2.2.2.2.2.1, ⟨hk.1.2, ⟨hk.2, ⟨hk.1.1.2.2.2.2.2.2.2.1, hk.1.1.2.2.2.2.2.2.2.2⟩⟩⟩⟩⟩⟩⟩⟩, hk.1.1.2.2.1⟩)) hg hat)
                  replace HO_503005 := A_ (Kd.V_afterv (ok := (fun k_ => ((P0_4_ k_ ∨ P0_5_ k_) ∨ w.heap.size ≤ k_) ∧ some k_ ≠ (.slice (some ad512) t503.length co22 : Value).ownBlock ∧ some k_ ≠ (.slice (some ad512) t503.length co22 : Value).ownBlock ∧ some k_ ≠ (.slice Ao44 t530.length co44 : Value).ownBlock ∧ some k_ ≠ (.slice Ao46 t533.length co46 : Value).ownBlock ∧ some k_ ≠ (v542 : Value).ownBlock ∧ some k_ ≠ (.slice Ao61 t544.length co61 : Value).ownBlock ∧ k_ ≠ gb502 ∧ k_ ≠ gb536)) (by (with_reducible repeat (first | apply Kd.V_alloc | apply Kd.V_drewN | apply Kd.V_drew)); exact Kd.V_mono HO_503005.out (fun _ hk => ⟨⟨hk.1.1.1, ⟨hk.1.1.2.1, ⟨hk.1.1.2.2.2.1, ⟨hk.1.1.2.2.2.2.1, ⟨hk.1.1.2.2.2.2.2.1, ⟨hk.1.2, ⟨hk.2, ⟨hk.1.1.2.2.2.2.2.2.2.1, hk.1.1.2.2.2.2.2.2.2.2⟩⟩⟩⟩⟩⟩⟩⟩, hk.1.1.2.2.1⟩)) hg hat)
                  replace HO_537007 := A_ (Kd.N_afterv (ok := (fun k_ => ((P0_4_ k_ ∨ P0_5_ k_) ∨ w.heap.size ≤ k_) ∧ some k_ ≠ (.slice (some ad512) t503.length co22 : Value).ownBlock ∧ some k_ ≠ (.slice (some ad512) t503.length co22 : Value).ownBlock ∧ some k_ ≠ (.slice Ao46 t533.length co46 : Value).ownBlock ∧ some k_ ≠ (v542 : Value).ownBlock ∧ some k_ ≠ (.slice Ao61 t544.length co61 : Value).ownBlock ∧ k_ ≠ gb502 ∧ k_ ≠ gb536)) (by (with_reducible repeat (first | apply Kd.N_alloc | apply Kd.N_drewN | apply Kd.N_drew)); exact Kd.N_mono HO_537007.out (fun _ hk => ⟨⟨hk.1.1.1, ⟨hk.1.1.2.1, ⟨hk.1.1.2.2.2.1, ⟨hk.1.1.2.2.2.2.1, ⟨hk.1.2, ⟨hk.2, ⟨hk.1.1.2.2.2.2.2.2.1, hk.1.1.2.2.2.2.2.2.2⟩⟩⟩⟩⟩⟩⟩, hk.1.1.2.2.1⟩)) hg hat)
                  replace HO_537008 := A_ (Kd.N_afterv (ok := (fun k_ => ((P0_4_ k_ ∨ P0_5_ k_) ∨ w.heap.size ≤ k_) ∧ some k_ ≠ (.slice (some ad512) t503.length co22 : Value).ownBlock ∧ some k_ ≠ (.slice (some ad512) t503.length co22 : Value).ownBlock ∧ some k_ ≠ (.slice Ao44 t530.length co44 : Value).ownBlock ∧ some k_ ≠ (v542 : Value).ownBlock ∧ some k_ ≠ (.slice Ao61 t544.length co61 : Value).ownBlock ∧ k_ ≠ gb502 ∧ k_ ≠ gb536)) (by (with_reducible repeat (first | apply Kd.N_alloc | apply Kd.N_drewN | apply Kd.N_drew)); exact Kd.N_mono HO_537008.out (fun _ hk => ⟨⟨hk.1.1.1, ⟨hk.1.1.2.1, ⟨hk.1.1.2.2.2.1, ⟨hk.1.1.2.2.2.2.1, ⟨hk.1.2, ⟨hk.2, ⟨hk.1.1.2.2.2.2.2.2.1, hk.1.1.2.2.2.2.2.2.2⟩⟩⟩⟩⟩⟩⟩, hk.1.1.2.2.1⟩)) hg hat)
                  replace BK502 := A_ (bg_ BK502.out hg (Kd.N_ne HO_6.out BK502.out (by decide)))
                  replace BK536 := A_ (bg_ BK536.out hg (Kd.N_ne HO_6.out BK536.out (by decide)))
                  replace HO543 := A_ (Kd.N_afterv (ok := (fun k_ => ((P0_4_ k_ ∨ P0_5_ k_) ∨ w.heap.size ≤ k_) ∧ some k_ ≠ (.slice (some ad512) t503.length co22 : Value).ownBlock ∧ some k_ ≠ (.slice (some ad512) t503.length co22 : Value).ownBlock ∧ some k_ ≠ (.slice Ao44 t530.length co44 : Value).ownBlock ∧ some k_ ≠ (.slice Ao46 t533.length co46 : Value).ownBlock ∧ some k_ ≠ (.slice Ao61 t544.length co61 : Value).ownBlock ∧ k_ ≠ gb502 ∧ k_ ≠ gb536)) (by (with_reducible repeat (first | apply Kd.N_alloc | apply Kd.N_drewN | apply Kd.N_drew)); exact Kd.N_mono HO543.out (fun _ hk => ⟨⟨hk.1.1, ⟨hk.1.2.1, ⟨hk.1.2.2.2.1, ⟨hk.1.2.2.2.2.1, ⟨hk.1.2.2.2.2.2.1, ⟨hk.2, ⟨hk.1.2.2.2.2.2.2.1, hk.1.2.2.2.2.2.2.2⟩⟩⟩⟩⟩⟩⟩, hk.1.2.2.1⟩)) hg hat)
                  have HO549 := A_ ho
                  replace HB := A_ hb
                  clear HO_6 HO546 ho hb hg hat
                  refine hK.out _ _ ⟨c0_ BK536.out, c1_ BK536.out, c2_ BK536.out, c3_ BK536.out, c4_ BK536.out, c5_ BK536.out, c6_ BK536.out, c7_ BK536.out, c8_ BK536.out⟩ (fun hHeld => ?_)
                  clear hK K
                  refine norm_ (a' := ?_) ?_ ?_
                  rotate_left
                  ·show Act.put _ (some 85) _ = _
                   simp only [Act.put, ps_, i64_w, i32_w]
                   rfl
                  refine pure_ (i := 12) (N := some 5) (v := ?_) (a' := ?_) #[true, true, true, true, true, true, true, true, true, true, true, true, true, false] rfl rfl (any_of HT_.out (by kernel_rfl)) (fun _ _ _ h => h) (Or.inl ⟨by rfl, ?_⟩) ?_ ?_
                  rotate_left
                  ·intro w'
                   go_simp
                   with_reducible rfl
                  rotate_left
                  ·simp only [Act.put, ps_, i64_w, i32_w]
                   rfl
                  refine pure_ (i := 13) (N := some 6) (v := ?_) (a' := ?_) #[true, true, true, true, true, true, true, true, true, true, true, true, true, true] rfl rfl (any_of HT_.out (by kernel_rfl)) (fun _ _ _ h => h) (Or.inl ⟨by rfl, ?_⟩) ?_ ?_
                  rotate_left
                  ·intro w'
                   go_simp
                   with_reducible rfl
                  rotate_left
                  ·simp only [Act.put, ps_, i64_w, i32_w]
                   rfl
                  refine done_ (done_of HT_.out (by kernel_rfl)) ?_
                  try go_wp2
                  go_roundg k3
                  case measure => have := HJ2.out; have := HK2.out; have := HK3.out; omega
                  case rel => exact ⟨(y541), (y547), (wrap64 (x71_3 + 1)), rs_, H', ⟨by have := HJ2.out; have := HK2.out; have := HK3.out; omega⟩, ⟨mv_ HO_3.out⟩, ⟨by (with_reducible repeat (first | apply Kd.N_alloc | apply Kd.N_drewN | apply Kd.N_drew)); exact Kd.N_mono HO543.out (fun _ hk => ⟨hk.1.1, ⟨hk.1.2.1, ⟨hk.2, ⟨hk.1.2.2.1, ⟨hk.1.2.2.2.1, ⟨hk.1.2.2.2.2.1, ⟨hk.1.2.2.2.2.2.2.1, hk.1.2.2.2.2.2.2.2⟩⟩⟩⟩⟩⟩⟩)⟩, ⟨by (with_reducible repeat (first | apply Kd.N_alloc | apply Kd.N_drewN | apply Kd.N_drew)); exact Kd.N_mono HO549.out (fun _ hk => ⟨hk.1, ⟨hk.2.1, ⟨hk.2.2.2.2.2.1, ⟨hk.2.2.1, ⟨hk.2.2.2.1, ⟨hk.2.2.2.2.1, ⟨hk.2.2.2.2.2.2.1, hk.2.2.2.2.2.2.2⟩⟩⟩⟩⟩⟩⟩)⟩, ⟨mv_ HO_39.out⟩, ⟨by (with_reducible repeat (first | apply Kd.V_alloc | apply Kd.V_drewN | apply Kd.V_drew)); exact Kd.V_mono HO_503004.out (fun _ hk => ⟨hk.1.1, ⟨hk.1.2.1, ⟨hk.1.2.2.2.2.2.1, ⟨hk.2, ⟨hk.1.2.2.1, ⟨hk.1.2.2.2.1, ⟨hk.1.2.2.2.2.1, ⟨hk.1.2.2.2.2.2.2.2.1, hk.1.2.2.2.2.2.2.2.2⟩⟩⟩⟩⟩⟩⟩⟩)⟩, ⟨by (with_reducible repeat (first | apply Kd.V_alloc | apply Kd.V_drewN | apply Kd.V_drew)); exact Kd.V_mono HO_503005.out (fun _ hk => ⟨hk.1.1, ⟨hk.1.2.1, ⟨hk.1.2.2.2.2.2.1, ⟨hk.2, ⟨hk.1.2.2.1, ⟨hk.1.2.2.2.1, ⟨hk.1.2.2.2.2.1, ⟨hk.1.2.2.2.2.2.2.2.1, hk.1.2.2.2.2.2.2.2.2⟩⟩⟩⟩⟩⟩⟩⟩)⟩, ⟨by (with_reducible repeat (first | apply Kd.N_alloc | apply Kd.N_drewN | apply Kd.N_drew)); exact Kd.N_mono HO_537007.out (fun _ hk => ⟨hk.1.1, ⟨hk.1.2.1, ⟨hk.1.2.2.2.2.1, ⟨hk.2, ⟨hk.1.2.2.1, ⟨hk.1.2.2.2.1, ⟨hk.1.2.2.2.2.2.2.1, hk.1.2.2.2.2.2.2.2⟩⟩⟩⟩⟩⟩⟩)⟩, ⟨by (with_reducible repeat (first | apply Kd.N_alloc | apply Kd.N_drewN | apply Kd.N_drew)); exact Kd.N_mono HO_537008.out (fun _ hk => ⟨hk.1.1, ⟨hk.1.2.1, ⟨hk.1.2.2.2.2.1, ⟨hk.2, ⟨hk.1.2.2.1, ⟨hk.1.2.2.2.1, ⟨hk.1.2.2.2.2.2.2.1, hk.1.2.2.2.2.2.2.2⟩⟩⟩⟩⟩⟩⟩)⟩, ⟨mv_ BK502.out⟩, ⟨mv_ BK536.out⟩, ⟨bl_⟩⟩
                 ·rw [if_neg c54] at H
                  exact absurd H (by simp)
                ·rw [if_neg c52] at H
                 exact absurd H (by simp)
               ·rw [if_neg c50] at H
                have c50b0 : decide (x71_3 < ((rd_T53 l0_1 x41_2).f2)) = false := decide_eq_false c50
                clear c50
                have H' := A_ H
                clear H
                go_wp2
                go_roundg k3
                case measure => have := HJ2.out; have := HK2.out; have := HK3.out; omega
                case rel => exact ⟨(x5_3), (x6_3), (wrap64 (x41_2 + 1)), rs_, H', ⟨by have := HJ2.out; have := HK2.out; have := HK3.out; omega⟩, ⟨mv_ HO_3.out⟩, ⟨by (with_reducible repeat (first | apply Kd.N_alloc | apply Kd.N_drewN | apply Kd.N_drew)); exact Kd.N_mono HO_5.out (fun _ hk => ⟨hk.1, ⟨hk.2.1, ⟨hk.2.2.1, ⟨hk.2.2.2.1, hk.2.2.2.2.2.2.1⟩⟩⟩⟩)⟩, ⟨by (with_reducible repeat (first | apply Kd.N_alloc | apply Kd.N_drewN | apply Kd.N_drew)); exact Kd.N_mono HO_6.out (fun _ hk => ⟨hk.1, ⟨hk.2.1, ⟨hk.2.2.1, ⟨hk.2.2.2.1, hk.2.2.2.2.2.2.1⟩⟩⟩⟩)⟩, ⟨mv_ HO_39.out⟩, ⟨by (with_reducible repeat (first | apply Kd.V_alloc | apply Kd.V_drewN | apply Kd.V_drew)); exact Kd.V_mono HO_503004.out (fun _ hk => ⟨hk.1, ⟨hk.2.1, ⟨hk.2.2.1, ⟨hk.2.2.2.1, ⟨hk.2.2.2.2.1, hk.2.2.2.2.2.2.2.1⟩⟩⟩⟩⟩)⟩, ⟨by (with_reducible repeat (first | apply Kd.V_alloc | apply Kd.V_drewN | apply Kd.V_drew)); exact Kd.V_mono HO_503005.out (fun _ hk => ⟨hk.1, ⟨hk.2.1, ⟨hk.2.2.1, ⟨hk.2.2.2.1, ⟨hk.2.2.2.2.1, hk.2.2.2.2.2.2.2.1⟩⟩⟩⟩⟩)⟩, ⟨mv_ BK502.out⟩, ⟨bl_⟩⟩
            ·rw [if_neg c30] at H
             exact absurd H (by simp)
           ·rw [if_neg c29] at H
            exact absurd H (by simp)
          ·rw [if_neg c27] at H
           exact absurd H (by simp)
        ·rw [if_neg c25] at H
         exact absurd H (by simp)
       ·rw [if_neg c24] at H
        exact absurd H (by simp)
      ·rw [if_neg c23] at H
       have c23b0 : decide (x41_2 < (t503.length : Int)) = false := decide_eq_false c23
       clear c23
       by_cases c62 : x5_2.length + l0_4.length < 5864062014805
       ·rw [if_pos c62] at H
        have LMc62 := A_ c62
        clear c62
        obtain ⟨y550, hy550⟩ : ∃ y_ : List (List Int), y_ = (x5_2 ++ l0_4) := ⟨_, rfl⟩
        replace H : (if x6_2.length + l0_5.length < 5864062014805 then ((some (x6_2 ++ l0_5 : List (List Int))).bind fun y553 => ((attn_FusedP.f k2 l0_0 t503 l0_4 l0_5).bind fun bt556 => ((credenzaref14_Right.f k2 l0_0 y550 y553).bind fun t560 => (if t560 = 0 then ((attn_Gather.f k2 l0_0 y550 y553).bind fun bt562 => (if bt556.2 = 0 then (if bt562.2 = 0 then ((credenzaref03_Same.f k2 bt556.1 bt562.1).bind fun t566 => (if t566 = true then ((credenzaref14_Gather.f k2 l0_0 y550 y553).bind fun t567 => ((credenzaref03_Same.f k2 bt556.1 t567).bind fun t570 => (if t570 = true then ((credenzalaw14_awake.f k2).bind fun t571 => (some t571)) else (some false)))) else (some false))) else (some false)) else (some false))) else (if bt556.2 = t560 then (if (bt556.1.length : Int) = 0 then ((credenzalaw14_awake.f k2).bind fun t561 => (some t561)) else (some false)) else (some false)))))) else (none)) = some r := hy_ hy550 H
        have Ny550 := A_ hy550
        clear hy550
        by_cases c63 : x6_2.length + l0_5.length < 5864062014805
        ·rw [if_pos c63] at H
         have LMc63 := A_ c63
         clear c63
         obtain ⟨y553, hy553⟩ : ∃ y_ : List (List Int), y_ = (x6_2 ++ l0_5) := ⟨_, rfl⟩
         replace H : ((attn_FusedP.f k2 l0_0 t503 l0_4 l0_5).bind fun bt556 => ((credenzaref14_Right.f k2 l0_0 y550 y553).bind fun t560 => (if t560 = 0 then ((attn_Gather.f k2 l0_0 y550 y553).bind fun bt562 => (if bt556.2 = 0 then (if bt562.2 = 0 then ((credenzaref03_Same.f k2 bt556.1 bt562.1).bind fun t566 => (if t566 = true then ((credenzaref14_Gather.f k2 l0_0 y550 y553).bind fun t567 => ((credenzaref03_Same.f k2 bt556.1 t567).bind fun t570 => (if t570 = true then ((credenzalaw14_awake.f k2).bind fun t571 => (some t571)) else (some false)))) else (some false))) else (some false)) else (some false))) else (if bt556.2 = t560 then (if (bt556.1.length : Int) = 0 then ((credenzalaw14_awake.f k2).bind fun t561 => (some t561)) else (some false)) else (some false))))) = some r := hy_ hy553 H
         have Ny553 := A_ hy553
         clear hy553
         replace H := ob_ H
         obtain ⟨⟨t556, t557⟩, A64, H⟩ := H
         try dsimp only at H
         replace H := ob_ H
         obtain ⟨t560, A65, H⟩ := H
         try dsimp only at H
         by_cases c66 : t560 = 0
         ·rw [if_pos c66] at H
          have c66b0 : (t560 == 0) = true := beq_iff_eq.mpr c66
          have c66b1 : (t560 != 0) = false := bne_eq_false_iff_eq.mpr c66
          clear c66
          replace H := ob_ H
          obtain ⟨⟨t562, t563⟩, A67, H⟩ := H
          try dsimp only at H
          by_cases c68 : t557 = 0
          ·rw [if_pos c68] at H
           have c68b0 : (t557 == 0) = true := beq_iff_eq.mpr c68
           have c68b1 : (t557 != 0) = false := bne_eq_false_iff_eq.mpr c68
           clear c68
           by_cases c69 : t563 = 0
           ·rw [if_pos c69] at H
            have c69b0 : (t563 == 0) = true := beq_iff_eq.mpr c69
            have c69b1 : (t563 != 0) = false := bne_eq_false_iff_eq.mpr c69
            clear c69
            replace H := ob_ H
            obtain ⟨t566, A70, H⟩ := H
            try dsimp only at H
            by_cases c71 : t566 = true
            ·subst c71
             replace H : ((credenzaref14_Gather.f k2 l0_0 y550 y553).bind fun t567 => ((credenzaref03_Same.f k2 t556 t567).bind fun t570 => (if t570 = true then ((credenzalaw14_awake.f k2).bind fun t571 => (some t571)) else (some false)))) = some r := by rw [if_pos rfl] at H; exact H
             replace H := ob_ H
             obtain ⟨t567, A72, H⟩ := H
             try dsimp only at H
             replace H := ob_ H
             obtain ⟨t570, A73, H⟩ := H
             try dsimp only at H
             by_cases c74 : t570 = true
             ·subst c74
              replace H : ((credenzalaw14_awake.f k2).bind fun t571 => (some t571)) = some r := by rw [if_pos rfl] at H; exact H
              replace H := ob_ H
              obtain ⟨t571, A75, H⟩ := H
              try dsimp only at H
              obtain rfl := Option.some.inj H
              try go_wp2
              replace HO_3 := A_ (Kd.R_drew HO_3.out)
              replace HO_5 := A_ (Kd.N_drew HO_5.out)
              replace HO_6 := A_ (Kd.N_drew HO_6.out)
              replace HO_39 := A_ (Kd.R_drew HO_39.out)
              replace HO_503004 := A_ (Kd.V_drew HO_503004.out)
              replace HO_503005 := A_ (Kd.V_drew HO_503005.out)
              replace BK502 := A_ (blk_drew BK502.out)
              replace HB := A_ (below_drew1 HB.out)
              refine start_ (n := 10) (S := fun w' => w'.cell? ⟨gb502, 0, none⟩ = some (.slice A0_0 l0_0.length c0_0) ∧ w'.cell? ⟨gb502, 1, none⟩ = some (.slice A0_1 l0_1.length c0_1) ∧ w'.cell? ⟨gb502, 2, none⟩ = some (.slice A0_2 l0_2.length c0_2) ∧ w'.cell? ⟨gb502, 3, none⟩ = some (.slice A0_3 l0_3.length c0_3) ∧ w'.cell? ⟨gb502, 4, none⟩ = some (.slice A0_4 l0_4.length c0_4) ∧ w'.cell? ⟨gb502, 5, none⟩ = some (.slice A0_5 l0_5.length c0_5)) (ds := []) #[false, false, false, false, false, false, false, false, false, false] (by kernel_rfl) rfl rfl ⟨c0_ BK502.out, c1_ BK502.out, c2_ BK502.out, c3_ BK502.out, c4_ BK502.out, c5_ BK502.out⟩ (fun hHeld => ?_); refine with_tabW credenzalaw14_AttnFused.tab17 credenzalaw14_AttnFused.bits17 (fun HT_ HW_ => ?_)
              generalize wr.drew = w76 at HO_3 HO_5 HO_6 HO_39 HO_503004 HO_503005 BK502 HB hHeld ⊢
              refine pure_ (i := 0) (N := some 88) (v := ?_) (a' := ?_) #[true, false, false, false, false, false, false, false, false, false] rfl rfl (any_of HT_.out (by kernel_rfl)) (fun _ _ _ h => h) (Or.inl ⟨by rfl, ?_⟩) ?_ ?_
              rotate_left
              ·intro w'
               go_simp
               with_reducible rfl
              rotate_left
              ·simp only [Act.put, ps_, i64_w, i32_w]
               rfl
              refine pure_ (i := 1) (N := some 89) (v := ?_) (a' := ?_) #[true, true, false, false, false, false, false, false, false, false] rfl rfl (any_of HT_.out (by kernel_rfl)) (fun _ _ _ h => h) (Or.inl ⟨by rfl, ?_⟩) ?_ ?_
              rotate_left
              ·intro w'
               go_simp
               with_reducible rfl
              rotate_left
              ·simp only [Act.put, ps_, i64_w, i32_w]
               rfl
              refine pure_ (i := 4) (N := some 92) (v := ?_) (a' := ?_) #[true, true, false, false, true, false, false, false, false, false] rfl rfl (any_of HT_.out (by kernel_rfl)) (fun _ _ _ h => h) (Or.inl ⟨by rfl, ?_⟩) ?_ ?_
              rotate_left
              ·intro w'
               go_simp
               with_reducible rfl
              rotate_left
              ·simp only [Act.put, ps_, i64_w, i32_w]
               rfl
              refine pure_ (i := 5) (N := some 93) (v := ?_) (a' := ?_) #[true, true, false, false, true, true, false, false, false, false] rfl rfl (any_of HT_.out (by kernel_rfl)) (fun _ _ _ h => h) (Or.inl ⟨by rfl, ?_⟩) ?_ ?_
              rotate_left
              ·intro w'
               go_simp
               with_reducible rfl
              rotate_left
              ·simp only [Act.put, ps_, i64_w, i32_w]
               rfl
              refine take_ (i := 2) (N := some 90) (v := ?_) (a' := ?_) #[true, true, true, false, true, true, false, false, false, false] rfl rfl (take_ofW HT_.out HW_.out (by kernel_rfl)) (fun _ _ _ h => h) (Or.inl ⟨by rfl, ?_⟩) hHeld ?_ ?_
              rotate_left
              ·rintro w' ⟨s0, s1, s2, s3, s4, s5⟩
               go_simp
               with_reducible rfl
              rotate_left
              ·simp only [Act.put, ps_, i64_w, i32_w]
               rfl
              refine take_ (i := 6) (N := some 94) (v := ?_) (a' := ?_) #[true, true, true, false, true, true, true, false, false, false] rfl rfl (take_ofW HT_.out HW_.out (by kernel_rfl)) (fun _ _ _ h => h) (Or.inl ⟨by rfl, ?_⟩) hHeld ?_ ?_
              rotate_left
              ·rintro w' ⟨s0, s1, s2, s3, s4, s5⟩
               go_simp
               with_reducible rfl
              rotate_left
              ·simp only [Act.put, ps_, i64_w, i32_w]
               rfl
              refine one_ (i := 3) (N := some 91) #[true, true, true, true, true, true, true, false, false, false] rfl rfl (one_of HT_.out (by kernel_rfl)) (by decide) (fun K hK => ?_)
              refine Kd.N_append_rows_step (Kd.slice 21 (Kd.int .i32)) (w0 := w) w.heap.size (by rfl) (.tmp 88) (.tmp 90) 29 22 (.slice none 0 0) 24 rfl Try.underlying29 info22 rfl (by decide) (by omega) u5 x5_2 l0_4 _ _ _ (fun k_ => ((P0_4_ k_ ∨ P0_5_ k_) ∨ w.heap.size ≤ k_) ∧ some k_ ≠ (.slice Ao22 t503.length co22 : Value).ownBlock ∧ some k_ ≠ (u6 : Value).ownBlock ∧ some k_ ≠ (.slice Ao22 t503.length co22 : Value).ownBlock ∧ k_ ≠ gb502) (fun k_ => ((fun k_ => ((P0_4_ k_ ∨ P0_5_ k_) ∨ w.heap.size ≤ k_) ∧ some k_ ≠ (.slice Ao22 t503.length co22 : Value).ownBlock ∧ some k_ ≠ (u6 : Value).ownBlock ∧ some k_ ≠ (.slice Ao22 t503.length co22 : Value).ownBlock ∧ k_ ≠ gb502)) k_ ∧ some k_ ≠ (u5 : Value).ownBlock) rfl rfl ?aO ?aR (fun _ hk => hk) ?aF ?aB ?aS ?aL ?_
              (case aR => exact (by skip; exact Kd.V_F (Kd.V_mono (ok' := (fun k_ => ((fun k_ => ((P0_4_ k_ ∨ P0_5_ k_) ∨ w.heap.size ≤ k_) ∧ some k_ ≠ (.slice Ao22 t503.length co22 : Value).ownBlock ∧ some k_ ≠ (u6 : Value).ownBlock ∧ some k_ ≠ (.slice Ao22 t503.length co22 : Value).ownBlock ∧ k_ ≠ gb502)) k_ ∧ some k_ ≠ (u5 : Value).ownBlock)) (HO_503004.out) (fun k_ hk => ⟨⟨hk.1, ⟨hk.2.1, ⟨hk.2.2.2.1, ⟨hk.2.2.2.2.1, hk.2.2.2.2.2⟩⟩⟩⟩, hk.2.2.1⟩))))
              (case aB => exact bl_)
              (case aF => exact (fun k_ hk => ⟨(.inr (Nat.le_trans (below_size bl_) hk)), Kd.fresh' (Kd.R_lt (mv_ HO_3.out)) k_ hk, Kd.fresh' (Kd.N_lt (mv_ HO_6.out)) k_ hk, Kd.fresh' (Kd.R_lt (mv_ HO_39.out)) k_ hk, Kd.freshB (g := gb502) (o := .cells #[.slice A0_0 l0_0.length c0_0, .slice A0_1 l0_1.length c0_1, .slice A0_2 l0_2.length c0_2, .slice A0_3 l0_3.length c0_3, .slice A0_4 l0_4.length c0_4, .slice A0_5 l0_5.length c0_5] 41 (0, 0)) (mv_ BK502.out) k_ hk⟩))
              (case aO => exact (mv_ HO_5.out))
              (case aS => exact (below_size bl_))
              (case aL => have := LMc62.out; omega)
              intro v551 w77 ho hb hg hat
              rw [← Ny550.out] at ho
              replace HO_3 := A_ (Kd.R_over' (mv_ HO_3.out) (Kd.N_typed (mv_ HO_5.out)) (by decide) hg)
              replace HO_6 := A_ (Kd.N_afterv (ok := (fun k_ => ((P0_4_ k_ ∨ P0_5_ k_) ∨ w.heap.size ≤ k_) ∧ some k_ ≠ (.slice Ao22 t503.length co22 : Value).ownBlock ∧ some k_ ≠ (.slice Ao22 t503.length co22 : Value).ownBlock ∧ k_ ≠ gb502)) (by (with_reducible repeat (first | apply Kd.N_alloc | apply Kd.N_drewN | apply Kd.N_drew)); exact Kd.N_mono HO_6.out (fun _ hk => ⟨⟨hk.1, ⟨hk.2.1, ⟨hk.2.2.2.1, hk.2.2.2.2⟩⟩⟩, hk.2.2.1⟩)) hg hat)
              replace HO_39 := A_ (Kd.R_over' (mv_ HO_39.out) (Kd.N_typed (mv_ HO_5.out)) (by decide) hg)
              replace HO_503004 := A_ (Kd.V_afterv (ok := (fun k_ => ((P0_4_ k_ ∨ P0_5_ k_) ∨ w.heap.size ≤ k_) ∧ some k_ ≠ (.slice Ao22 t503.length co22 : Value).ownBlock ∧ some k_ ≠ (u6 : Value).ownBlock ∧ some k_ ≠ (.slice Ao22 t503.length co22 : Value).ownBlock ∧ k_ ≠ gb502)) (by (with_reducible repeat (first | apply Kd.V_alloc | apply Kd.V_drewN | apply Kd.V_drew)); exact Kd.V_mono HO_503004.out (fun _ hk => ⟨⟨hk.1, ⟨hk.2.1, ⟨hk.2.2.2.1, ⟨hk.2.2.2.2.1, hk.2.2.2.2.2⟩⟩⟩⟩, hk.2.2.1⟩)) hg hat)
              replace HO_503005 := A_ (Kd.V_afterv (ok := (fun k_ => ((P0_4_ k_ ∨ P0_5_ k_) ∨ w.heap.size ≤ k_) ∧ some k_ ≠ (.slice Ao22 t503.length co22 : Value).ownBlock ∧ some k_ ≠ (u6 : Value).ownBlock ∧ some k_ ≠ (.slice Ao22 t503.length co22 : Value).ownBlock ∧ k_ ≠ gb502)) (by (with_reducible repeat (first | apply Kd.V_alloc | apply Kd.V_drewN | apply Kd.V_drew)); exact Kd.V_mono HO_503005.out (fun _ hk => ⟨⟨hk.1, ⟨hk.2.1, ⟨hk.2.2.2.1, ⟨hk.2.2.2.2.1, hk.2.2.2.2.2⟩⟩⟩⟩, hk.2.2.1⟩)) hg hat)
              replace BK502 := A_ (bg_ BK502.out hg (Kd.N_ne HO_5.out BK502.out (by decide)))
              have HO552 := A_ ho
              replace HB := A_ hb
              clear HO_5 ho hb hg hat
              refine hK.out _ _ ⟨c0_ BK502.out, c1_ BK502.out, c2_ BK502.out, c3_ BK502.out, c4_ BK502.out, c5_ BK502.out⟩ (fun hHeld => ?_)
              clear hK K
              refine norm_ (a' := ?_) ?_ ?_
              rotate_left
              ·show Act.put _ (some 91) _ = _
               simp only [Act.put, ps_, i64_w, i32_w]
               rfl
              refine one_ (i := 7) (N := some 95) #[true, true, true, true, true, true, true, true, false, false] rfl rfl (one_of HT_.out (by kernel_rfl)) (by decide) (fun K hK => ?_)
              refine Kd.N_append_rows_step (Kd.slice 21 (Kd.int .i32)) (w0 := w) w.heap.size (by rfl) (.tmp 92) (.tmp 94) 29 22 (.slice none 0 0) 24 rfl Try.underlying29 info22 rfl (by decide) (by omega) u6 x6_2 l0_5 _ _ _ (fun k_ => ((P0_4_ k_ ∨ P0_5_ k_) ∨ w.heap.size ≤ k_) ∧ some k_ ≠ (.slice Ao22 t503.length co22 : Value).ownBlock ∧ some k_ ≠ (.slice Ao22 t503.length co22 : Value).ownBlock ∧ some k_ ≠ (v551 : Value).ownBlock ∧ k_ ≠ gb502) (fun k_ => ((fun k_ => ((P0_4_ k_ ∨ P0_5_ k_) ∨ w.heap.size ≤ k_) ∧ some k_ ≠ (.slice Ao22 t503.length co22 : Value).ownBlock ∧ some k_ ≠ (.slice Ao22 t503.length co22 : Value).ownBlock ∧ some k_ ≠ (v551 : Value).ownBlock ∧ k_ ≠ gb502)) k_ ∧ some k_ ≠ (u6 : Value).ownBlock) rfl rfl ?aO ?aR (fun _ hk => hk) ?aF ?aB ?aS ?aL ?_
              (case aR => exact (by skip; exact Kd.V_F (Kd.V_mono (ok' := (fun k_ => ((fun k_ => ((P0_4_ k_ ∨ P0_5_ k_) ∨ w.heap.size ≤ k_) ∧ some k_ ≠ (.slice Ao22 t503.length co22 : Value).ownBlock ∧ some k_ ≠ (.slice Ao22 t503.length co22 : Value).ownBlock ∧ some k_ ≠ (v551 : Value).ownBlock ∧ k_ ≠ gb502)) k_ ∧ some k_ ≠ (u6 : Value).ownBlock)) (HO_503005.out) (fun k_ hk => ⟨⟨hk.1.1, ⟨hk.1.2.1, ⟨hk.1.2.2.2.1, ⟨hk.2, hk.1.2.2.2.2⟩⟩⟩⟩, hk.1.2.2.1⟩))))
              (case aB => exact bl_)
              (case aF => exact (fun k_ hk => ⟨(.inr (Nat.le_trans (below_size bl_) hk)), Kd.fresh' (Kd.R_lt (mv_ HO_3.out)) k_ hk, Kd.fresh' (Kd.R_lt (mv_ HO_39.out)) k_ hk, Kd.fresh' (Kd.N_lt (mv_ HO552.out)) k_ hk, Kd.freshB (g := gb502) (o := .cells #[.slice A0_0 l0_0.length c0_0, .slice A0_1 l0_1.length c0_1, .slice A0_2 l0_2.length c0_2, .slice A0_3 l0_3.length c0_3, .slice A0_4 l0_4.length c0_4, .slice A0_5 l0_5.length c0_5] 41 (0, 0)) (mv_ BK502.out) k_ hk⟩))
              (case aO => exact (by (with_reducible repeat (first | apply Kd.N_alloc | apply Kd.N_drewN | apply Kd.N_drew)); exact Kd.N_mono HO_6.out (fun _ hk => ⟨hk.1.1, ⟨hk.1.2.1, ⟨hk.1.2.2.1, ⟨hk.2, hk.1.2.2.2⟩⟩⟩⟩)))
              (case aS => exact (below_size bl_))
              (case aL => have := LMc63.out; omega)
              intro v554 w78 ho hb hg hat
              rw [← Ny553.out] at ho
              replace HO_3 := A_ (Kd.R_over' (mv_ HO_3.out) (Kd.N_typed (mv_ HO_6.out)) (by decide) hg)
              replace HO_39 := A_ (Kd.R_over' (mv_ HO_39.out) (Kd.N_typed (mv_ HO_6.out)) (by decide) hg)
              replace HO_503004 := A_ (Kd.V_afterv (ok := (fun k_ => ((P0_4_ k_ ∨ P0_5_ k_) ∨ w.heap.size ≤ k_) ∧ some k_ ≠ (.slice Ao22 t503.length co22 : Value).ownBlock ∧ some k_ ≠ (.slice Ao22 t503.length co22 : Value).ownBlock ∧ some k_ ≠ (v551 : Value).ownBlock ∧ k_ ≠ gb502)) (by (with_reducible repeat (first | apply Kd.V_alloc | apply Kd.V_drewN | apply Kd.V_drew)); exact Kd.V_mono HO_503004.out (fun _ hk => ⟨⟨hk.1.1, ⟨hk.1.2.1, ⟨hk.1.2.2.2.1, ⟨hk.2, hk.1.2.2.2.2⟩⟩⟩⟩, hk.1.2.2.1⟩)) hg hat)
              replace HO_503005 := A_ (Kd.V_afterv (ok := (fun k_ => ((P0_4_ k_ ∨ P0_5_ k_) ∨ w.heap.size ≤ k_) ∧ some k_ ≠ (.slice Ao22 t503.length co22 : Value).ownBlock ∧ some k_ ≠ (.slice Ao22 t503.length co22 : Value).ownBlock ∧ some k_ ≠ (v551 : Value).ownBlock ∧ k_ ≠ gb502)) (by (with_reducible repeat (first | apply Kd.V_alloc | apply Kd.V_drewN | apply Kd.V_drew)); exact Kd.V_mono HO_503005.out (fun _ hk => ⟨⟨hk.1.1, ⟨hk.1.2.1, ⟨hk.1.2.2.2.1, ⟨hk.2, hk.1.2.2.2.2⟩⟩⟩⟩, hk.1.2.2.1⟩)) hg hat)
              replace BK502 := A_ (bg_ BK502.out hg (Kd.N_ne HO_6.out BK502.out (by decide)))
              replace HO552 := A_ (Kd.N_afterv (ok := (fun k_ => ((P0_4_ k_ ∨ P0_5_ k_) ∨ w.heap.size ≤ k_) ∧ some k_ ≠ (.slice Ao22 t503.length co22 : Value).ownBlock ∧ some k_ ≠ (.slice Ao22 t503.length co22 : Value).ownBlock ∧ k_ ≠ gb502)) (by (with_reducible repeat (first | apply Kd.N_alloc | apply Kd.N_drewN | apply Kd.N_drew)); exact Kd.N_mono HO552.out (fun _ hk => ⟨⟨hk.1, ⟨hk.2.1, ⟨hk.2.2.2.1, hk.2.2.2.2⟩⟩⟩, hk.2.2.1⟩)) hg hat)
              have HO555 := A_ ho
              replace HB := A_ hb
              clear HO_6 ho hb hg hat
              refine hK.out _ _ ⟨c0_ BK502.out, c1_ BK502.out, c2_ BK502.out, c3_ BK502.out, c4_ BK502.out, c5_ BK502.out⟩ (fun hHeld => ?_)
              clear hK K
              refine norm_ (a' := ?_) ?_ ?_
              rotate_left
              ·show Act.put _ (some 95) _ = _
               simp only [Act.put, ps_, i64_w, i32_w]
               rfl
              refine pure_ (i := 8) (N := some 5) (v := ?_) (a' := ?_) #[true, true, true, true, true, true, true, true, true, false] rfl rfl (any_of HT_.out (by kernel_rfl)) (fun _ _ _ h => h) (Or.inl ⟨by rfl, ?_⟩) ?_ ?_
              rotate_left
              ·intro w'
               go_simp
               with_reducible rfl
              rotate_left
              ·simp only [Act.put, ps_, i64_w, i32_w]
               rfl
              refine pure_ (i := 9) (N := some 6) (v := ?_) (a' := ?_) #[true, true, true, true, true, true, true, true, true, true] rfl rfl (any_of HT_.out (by kernel_rfl)) (fun _ _ _ h => h) (Or.inl ⟨by rfl, ?_⟩) ?_ ?_
              rotate_left
              ·intro w'
               go_simp
               with_reducible rfl
              rotate_left
              ·simp only [Act.put, ps_, i64_w, i32_w]
               rfl
              refine done_ (done_of HT_.out (by kernel_rfl)) ?_
              have ⟨_, _, _, _, _, _, _, _, _, _, _, _⟩ := k6_ BK502.out
              try go_wp2_with (first | (refine goesL_ (some 104) rfl rfl Try.func22 (by kernel_rfl) rfl #[.slice A0_0 l0_0.length c0_0, .slice Ao22 t503.length co22, .slice A0_4 l0_4.length c0_4, .slice A0_5 l0_5.length c0_5] rfl ar_ ?_; (with_reducible refine (attn_FusedP.calls k2 _ _ l0_0 _ _ t503 _ _ l0_4 _ _ l0_5 t556 t557 _ ?side1 ?side2 ?side3 ?side4 ?side5 ?side6 ?side7 ?side8 A64.out).mono ?_); (case side1 => exact cb_ (Kd.C_below HR0_0.out HB.out)); (case side2 => exact HC0_0.out); (case side3 => exact cb_ (Kd.R_reads' HO_3.out).2.2); (case side4 => exact (Kd.R_reads' HO_3.out).2.1); (case side5 => exact cb_ (Kd.V_reads' HO_503004.out).2.2); (case side6 => exact (Kd.V_reads' HO_503004.out).2.1); (case side7 => exact cb_ (Kd.V_reads' HO_503005.out).2.2); (case side8 => exact (Kd.V_reads' HO_503005.out).2.1); rintro e w80 ⟨v558, rfl, ho0, hb⟩; refine ⟨_, rfl, ?_⟩; replace HO_3 := A_ (Kd.R_below (mv_ HO_3.out) hb); replace HO_39 := A_ (Kd.R_below (mv_ HO_39.out) hb); replace HO_503004 := A_ (Kd.V_elder' (mv_ HO_503004.out) (Kd.R_base ho0) hb); replace HO_503005 := A_ (Kd.V_elder' (mv_ HO_503005.out) (Kd.R_base ho0) hb); replace HO552 := A_ (Kd.N_elder' (mv_ HO552.out) (Kd.R_base ho0) hb); replace HO555 := A_ (Kd.N_elder' (mv_ HO555.out) (Kd.R_base ho0) hb); have HO559 := A_ (Kd.R_lower (Kd.R_newM (M := fun k_ => (w.heap.size ≤ k_)) ho0 (below_size bl_) (fun k_ h_ => h_)) (below_size bl_)); replace BK502 := A_ (bb_ BK502.out hb); replace HB := A_ (below_step bl_ hb); have ⟨_, _, _, _, _, _, _, _, _, _, _, _⟩ := k6_ BK502.out; obtain ⟨Ao82, co82, eo82⟩ := Kd.N_slice HO552.out; subst eo82; obtain ⟨Ao83, co83, eo83⟩ := Kd.N_slice HO555.out; subst eo83) | (refine goesL_ (some 111) rfl rfl Try.func13 (by kernel_rfl) rfl #[.slice A0_0 l0_0.length c0_0, .slice Ao82 y550.length co82, .slice Ao83 y553.length co83] rfl ar_ ?_; (with_reducible refine (credenzaref14_Right.calls k2 _ _ l0_0 _ _ y550 _ _ y553 t560 _ ?side1 ?side2 ?side3 ?side4 ?side5 ?side6 A65.out).mono ?_); (case side1 => exact cb_ (Kd.C_below HR0_0.out HB.out)); (case side2 => exact HC0_0.out); (case side3 => exact cb_ (Kd.N_reads' HO552.out).2.2); (case side4 => exact (Kd.N_reads' HO552.out).2.1); (case side5 => exact cb_ (Kd.N_reads' HO555.out).2.2); (case side6 => exact (Kd.N_reads' HO555.out).2.1); rintro e w' ⟨rfl, ⟨nd, rfl⟩⟩; refine ⟨_, rfl, ?_⟩) | (refine goesL_ (some 130) rfl rfl Try.func12 (by kernel_rfl) rfl #[.slice A0_0 l0_0.length c0_0, .slice Ao82 y550.length co82, .slice Ao83 y553.length co83] rfl ar_ ?_; (with_reducible refine (attn_Gather.calls k2 _ _ l0_0 _ _ y550 _ _ y553 t562 t563 _ ?side1 ?side2 ?side3 ?side4 ?side5 ?side6 A67.out).mono ?_); (case side1 => repeat (first | exact (Kd.C_below HR0_0.out bl_) | (with_reducible refine Kd.C_alloc ?_ _) | (with_reducible refine Kd.C_drewN ?_ _) | (with_reducible refine Kd.C_drew ?_))); (case side2 => exact HC0_0.out); (case side3 => exact cb_ (Kd.N_reads' HO552.out).2.2); (case side4 => exact (Kd.N_reads' HO552.out).2.1); (case side5 => exact cb_ (Kd.N_reads' HO555.out).2.2); (case side6 => exact (Kd.N_reads' HO555.out).2.1); rintro e w84 ⟨v564, rfl, ho0, hb⟩; refine ⟨_, rfl, ?_⟩; replace HO_3 := A_ (Kd.R_below (mv_ HO_3.out) hb); replace HO_39 := A_ (Kd.R_below (mv_ HO_39.out) hb); replace HO_503004 := A_ (Kd.V_elder' (mv_ HO_503004.out) (Kd.R_base ho0) hb); replace HO_503005 := A_ (Kd.V_elder' (mv_ HO_503005.out) (Kd.R_base ho0) hb); replace HO552 := A_ (Kd.N_elder' (mv_ HO552.out) (Kd.R_base ho0) hb); replace HO555 := A_ (Kd.N_elder' (mv_ HO555.out) (Kd.R_base ho0) hb); have HO565 := A_ (Kd.R_lower (Kd.R_new' (Kd.R_newM (M := fun k_ => (w.heap.size ≤ k_)) ho0 (below_size bl_) (fun k_ h_ => h_)) (Kd.R_lt (mv_ HO559.out))) (below_size bl_)); replace HO559 := A_ (Kd.R_elder' (mv_ HO559.out) (Kd.R_base ho0) hb); replace BK502 := A_ (bb_ BK502.out hb); replace HB := A_ (below_step bl_ hb); obtain ⟨Ao85, co85, eo85⟩ := Kd.R_slice HO559.out; subst eo85; obtain ⟨Ao86, co86, eo86⟩ := Kd.R_slice HO565.out; subst eo86) | (go_at_call 14; (with_reducible refine (credenzaref03_Same.calls k2 _ _ t556 _ _ t562 true _ ?side1 ?side2 ?side3 ?side4 A70.out).mono ?_); (case side1 => exact cb_ (Kd.R_reads' HO559.out).2.2); (case side2 => exact (Kd.R_reads' HO559.out).2.1); (case side3 => exact cb_ (Kd.R_reads' HO565.out).2.2); (case side4 => exact (Kd.R_reads' HO565.out).2.1); rintro e w' ⟨rfl, ⟨nd, rfl⟩⟩; have ⟨_, _, _, _, _, _, _, _, _, _, _, _⟩ := k6_ BK502.out) | (go_at_call 15; (with_reducible refine (credenzaref14_Gather.calls k2 _ _ l0_0 _ _ y550 _ _ y553 t567 _ ?side1 ?side2 ?side3 ?side4 ?side5 ?side6 A72.out).mono ?_); (case side1 => repeat (first | exact (Kd.C_below HR0_0.out bl_) | (with_reducible refine Kd.C_alloc ?_ _) | (with_reducible refine Kd.C_drewN ?_ _) | (with_reducible refine Kd.C_drew ?_))); (case side2 => exact HC0_0.out); (case side3 => exact cb_ (Kd.N_reads' HO552.out).2.2); (case side4 => exact (Kd.N_reads' HO552.out).2.1); (case side5 => exact cb_ (Kd.N_reads' HO555.out).2.2); (case side6 => exact (Kd.N_reads' HO555.out).2.1); rintro e w88 ⟨v568, rfl, ho0, hb⟩; replace HO_3 := A_ (Kd.R_below (mv_ HO_3.out) hb); replace HO_39 := A_ (Kd.R_below (mv_ HO_39.out) hb); replace HO_503004 := A_ (Kd.V_elder' (mv_ HO_503004.out) (Kd.R_base ho0) hb); replace HO_503005 := A_ (Kd.V_elder' (mv_ HO_503005.out) (Kd.R_base ho0) hb); replace HO552 := A_ (Kd.N_elder' (mv_ HO552.out) (Kd.R_base ho0) hb); replace HO555 := A_ (Kd.N_elder' (mv_ HO555.out) (Kd.R_base ho0) hb); have HO569 := A_ (Kd.R_lower (Kd.R_new' (Kd.R_new' (Kd.R_newM (M := fun k_ => (w.heap.size ≤ k_)) ho0 (below_size bl_) (fun k_ h_ => h_)) (Kd.R_lt (mv_ HO559.out))) (Kd.R_lt (mv_ HO565.out))) (below_size bl_)); replace HO559 := A_ (Kd.R_elder' (mv_ HO559.out) (Kd.R_base ho0) hb); replace HO565 := A_ (Kd.R_elder' (mv_ HO565.out) (Kd.R_base ho0) hb); replace BK502 := A_ (bb_ BK502.out hb); replace HB := A_ (below_step bl_ hb); obtain ⟨Ao89, co89, eo89⟩ := Kd.R_slice HO569.out; subst eo89) | (go_at_call 14; (with_reducible refine (credenzaref03_Same.calls k2 _ _ t556 _ _ t567 true _ ?side1 ?side2 ?side3 ?side4 A73.out).mono ?_); (case side1 => exact cb_ (Kd.R_reads' HO559.out).2.2); (case side2 => exact (Kd.R_reads' HO559.out).2.1); (case side3 => exact cb_ (Kd.R_reads' HO569.out).2.2); (case side4 => exact (Kd.R_reads' HO569.out).2.1); rintro e w' ⟨rfl, ⟨nd, rfl⟩⟩) | (go_at_call 8; (with_reducible refine (credenzalaw14_awake.calls k2  t571 _ A75.out).mono ?_); rintro e w90 ⟨rfl, hb⟩; replace HO_3 := A_ (Kd.R_below (mv_ HO_3.out) hb); replace HO_39 := A_ (Kd.R_below (mv_ HO_39.out) hb); replace HO_503004 := A_ (Kd.V_below (mv_ HO_503004.out) hb); replace HO_503005 := A_ (Kd.V_below (mv_ HO_503005.out) hb); replace HO552 := A_ (Kd.N_below (mv_ HO552.out) hb); replace HO555 := A_ (Kd.N_below (mv_ HO555.out) hb); replace HO559 := A_ (Kd.R_below (mv_ HO559.out) hb); replace HO565 := A_ (Kd.R_below (mv_ HO565.out) hb); replace HO569 := A_ (Kd.R_below (mv_ HO569.out) hb); replace BK502 := A_ (bb_ BK502.out hb); replace HB := A_ (below_step bl_ hb)))
              go_ret
              exact ⟨ew_, bl_⟩
             ·replace c74 := Bool.eq_false_iff.mpr c74
              subst c74
              replace H : (some false) = some r := by rw [if_neg (show ¬ (false = true) by decide)] at H; exact H
              exact absurd H (by rw [HR_.out]; simp)
            ·replace c71 := Bool.eq_false_iff.mpr c71
             subst c71
             replace H : (some false) = some r := by rw [if_neg (show ¬ (false = true) by decide)] at H; exact H
             exact absurd H (by rw [HR_.out]; simp)
           ·rw [if_neg c69] at H
            have c69b0 : (t563 == 0) = false := beq_eq_false_iff_ne.mpr c69
            have c69b1 : (t563 != 0) = true := bne_iff_ne.mpr c69
            exact absurd H (by rw [HR_.out]; simp)
          ·rw [if_neg c68] at H
           have c68b0 : (t557 == 0) = false := beq_eq_false_iff_ne.mpr c68
           have c68b1 : (t557 != 0) = true := bne_iff_ne.mpr c68
           exact absurd H (by rw [HR_.out]; simp)
         ·rw [if_neg c66] at H
          have c66b0 : (t560 == 0) = false := beq_eq_false_iff_ne.mpr c66
          have c66b1 : (t560 != 0) = true := bne_iff_ne.mpr c66
          by_cases c134 : t557 = t560
          ·rw [if_pos c134] at H
           have c134b0 : (t557 == t560) = true := beq_iff_eq.mpr c134
           have c134b1 : (t557 != t560) = false := bne_eq_false_iff_eq.mpr c134
           clear c134
           by_cases c135 : (t556.length : Int) = 0
           ·rw [if_pos c135] at H
            have c135b0 : ((t556.length : Int) == 0) = true := beq_iff_eq.mpr c135
            have c135b1 : ((t556.length : Int) != 0) = false := bne_eq_false_iff_eq.mpr c135
            clear c135
            replace H := ob_ H
            obtain ⟨t561, A136, H⟩ := H
            try dsimp only at H
            obtain rfl := Option.some.inj H
            try go_wp2
            replace HO_3 := A_ (Kd.R_drew HO_3.out)
            replace HO_5 := A_ (Kd.N_drew HO_5.out)
            replace HO_6 := A_ (Kd.N_drew HO_6.out)
            replace HO_39 := A_ (Kd.R_drew HO_39.out)
            replace HO_503004 := A_ (Kd.V_drew HO_503004.out)
            replace HO_503005 := A_ (Kd.V_drew HO_503005.out)
            replace BK502 := A_ (blk_drew BK502.out)
            replace HB := A_ (below_drew1 HB.out)
            refine start_ (n := 10) (S := fun w' => w'.cell? ⟨gb502, 0, none⟩ = some (.slice A0_0 l0_0.length c0_0) ∧ w'.cell? ⟨gb502, 1, none⟩ = some (.slice A0_1 l0_1.length c0_1) ∧ w'.cell? ⟨gb502, 2, none⟩ = some (.slice A0_2 l0_2.length c0_2) ∧ w'.cell? ⟨gb502, 3, none⟩ = some (.slice A0_3 l0_3.length c0_3) ∧ w'.cell? ⟨gb502, 4, none⟩ = some (.slice A0_4 l0_4.length c0_4) ∧ w'.cell? ⟨gb502, 5, none⟩ = some (.slice A0_5 l0_5.length c0_5)) (ds := []) #[false, false, false, false, false, false, false, false, false, false] (by kernel_rfl) rfl rfl ⟨c0_ BK502.out, c1_ BK502.out, c2_ BK502.out, c3_ BK502.out, c4_ BK502.out, c5_ BK502.out⟩ (fun hHeld => ?_); refine with_tabW credenzalaw14_AttnFused.tab17 credenzalaw14_AttnFused.bits17 (fun HT_ HW_ => ?_)
            generalize wr.drew = w137 at HO_3 HO_5 HO_6 HO_39 HO_503004 HO_503005 BK502 HB hHeld ⊢
            refine pure_ (i := 0) (N := some 88) (v := ?_) (a' := ?_) #[true, false, false, false, false, false, false, false, false, false] rfl rfl (any_of HT_.out (by kernel_rfl)) (fun _ _ _ h => h) (Or.inl ⟨by rfl, ?_⟩) ?_ ?_
            rotate_left
            ·intro w'
             go_simp
             with_reducible rfl
            rotate_left
            ·simp only [Act.put, ps_, i64_w, i32_w]
             rfl
            refine pure_ (i := 1) (N := some 89) (v := ?_) (a' := ?_) #[true, true, false, false, false, false, false, false, false, false] rfl rfl (any_of HT_.out (by kernel_rfl)) (fun _ _ _ h => h) (Or.inl ⟨by rfl, ?_⟩) ?_ ?_
            rotate_left
            ·intro w'
             go_simp
             with_reducible rfl
            rotate_left
            ·simp only [Act.put, ps_, i64_w, i32_w]
             rfl
            refine pure_ (i := 4) (N := some 92) (v := ?_) (a' := ?_) #[true, true, false, false, true, false, false, false, false, false] rfl rfl (any_of HT_.out (by kernel_rfl)) (fun _ _ _ h => h) (Or.inl ⟨by rfl, ?_⟩) ?_ ?_
            rotate_left
            ·intro w'
             go_simp
             with_reducible rfl
            rotate_left
            ·simp only [Act.put, ps_, i64_w, i32_w]
             rfl
            refine pure_ (i := 5) (N := some 93) (v := ?_) (a' := ?_) #[true, true, false, false, true, true, false, false, false, false] rfl rfl (any_of HT_.out (by kernel_rfl)) (fun _ _ _ h => h) (Or.inl ⟨by rfl, ?_⟩) ?_ ?_
            rotate_left
            ·intro w'
             go_simp
             with_reducible rfl
            rotate_left
            ·simp only [Act.put, ps_, i64_w, i32_w]
             rfl
            refine take_ (i := 2) (N := some 90) (v := ?_) (a' := ?_) #[true, true, true, false, true, true, false, false, false, false] rfl rfl (take_ofW HT_.out HW_.out (by kernel_rfl)) (fun _ _ _ h => h) (Or.inl ⟨by rfl, ?_⟩) hHeld ?_ ?_
            rotate_left
            ·rintro w' ⟨s0, s1, s2, s3, s4, s5⟩
             go_simp
             with_reducible rfl
            rotate_left
            ·simp only [Act.put, ps_, i64_w, i32_w]
             rfl
            refine take_ (i := 6) (N := some 94) (v := ?_) (a' := ?_) #[true, true, true, false, true, true, true, false, false, false] rfl rfl (take_ofW HT_.out HW_.out (by kernel_rfl)) (fun _ _ _ h => h) (Or.inl ⟨by rfl, ?_⟩) hHeld ?_ ?_
            rotate_left
            ·rintro w' ⟨s0, s1, s2, s3, s4, s5⟩
             go_simp
             with_reducible rfl
            rotate_left
            ·simp only [Act.put, ps_, i64_w, i32_w]
             rfl
            refine one_ (i := 3) (N := some 91) #[true, true, true, true, true, true, true, false, false, false] rfl rfl (one_of HT_.out (by kernel_rfl)) (by decide) (fun K hK => ?_)
            refine Kd.N_append_rows_step (Kd.slice 21 (Kd.int .i32)) (w0 := w) w.heap.size (by rfl) (.tmp 88) (.tmp 90) 29 22 (.slice none 0 0) 24 rfl Try.underlying29 info22 rfl (by decide) (by omega) u5 x5_2 l0_4 _ _ _ (fun k_ => ((P0_4_ k_ ∨ P0_5_ k_) ∨ w.heap.size ≤ k_) ∧ some k_ ≠ (.slice Ao22 t503.length co22 : Value).ownBlock ∧ some k_ ≠ (u6 : Value).ownBlock ∧ some k_ ≠ (.slice Ao22 t503.length co22 : Value).ownBlock ∧ k_ ≠ gb502) (fun k_ => ((fun k_ => ((P0_4_ k_ ∨ P0_5_ k_) ∨ w.heap.size ≤ k_) ∧ some k_ ≠ (.slice Ao22 t503.length co22 : Value).ownBlock ∧ some k_ ≠ (u6 : Value).ownBlock ∧ some k_ ≠ (.slice Ao22 t503.length co22 : Value).ownBlock ∧ k_ ≠ gb502)) k_ ∧ some k_ ≠ (u5 : Value).ownBlock) rfl rfl ?aO ?aR (fun _ hk => hk) ?aF ?aB ?aS ?aL ?_
            (case aR => exact (by skip; exact Kd.V_F (Kd.V_mono (ok' := (fun k_ => ((fun k_ => ((P0_4_ k_ ∨ P0_5_ k_) ∨ w.heap.size ≤ k_) ∧ some k_ ≠ (.slice Ao22 t503.length co22 : Value).ownBlock ∧ some k_ ≠ (u6 : Value).ownBlock ∧ some k_ ≠ (.slice Ao22 t503.length co22 : Value).ownBlock ∧ k_ ≠ gb502)) k_ ∧ some k_ ≠ (u5 : Value).ownBlock)) (HO_503004.out) (fun k_ hk => ⟨⟨hk.1, ⟨hk.2.1, ⟨hk.2.2.2.1, ⟨hk.2.2.2.2.1, hk.2.2.2.2.2⟩⟩⟩⟩, hk.2.2.1⟩))))
            (case aB => exact bl_)
            (case aF => exact (fun k_ hk => ⟨(.inr (Nat.le_trans (below_size bl_) hk)), Kd.fresh' (Kd.R_lt (mv_ HO_3.out)) k_ hk, Kd.fresh' (Kd.N_lt (mv_ HO_6.out)) k_ hk, Kd.fresh' (Kd.R_lt (mv_ HO_39.out)) k_ hk, Kd.freshB (g := gb502) (o := .cells #[.slice A0_0 l0_0.length c0_0, .slice A0_1 l0_1.length c0_1, .slice A0_2 l0_2.length c0_2, .slice A0_3 l0_3.length c0_3, .slice A0_4 l0_4.length c0_4, .slice A0_5 l0_5.length c0_5] 41 (0, 0)) (mv_ BK502.out) k_ hk⟩))
            (case aO => exact (mv_ HO_5.out))
            (case aS => exact (below_size bl_))
            (case aL => have := LMc62.out; omega)
            intro v551 w138 ho hb hg hat
            rw [← Ny550.out] at ho
            replace HO_3 := A_ (Kd.R_over' (mv_ HO_3.out) (Kd.N_typed (mv_ HO_5.out)) (by decide) hg)
            replace HO_6 := A_ (Kd.N_afterv (ok := (fun k_ => ((P0_4_ k_ ∨ P0_5_ k_) ∨ w.heap.size ≤ k_) ∧ some k_ ≠ (.slice Ao22 t503.length co22 : Value).ownBlock ∧ some k_ ≠ (.slice Ao22 t503.length co22 : Value).ownBlock ∧ k_ ≠ gb502)) (by (with_reducible repeat (first | apply Kd.N_alloc | apply Kd.N_drewN | apply Kd.N_drew)); exact Kd.N_mono HO_6.out (fun _ hk => ⟨⟨hk.1, ⟨hk.2.1, ⟨hk.2.2.2.1, hk.2.2.2.2⟩⟩⟩, hk.2.2.1⟩)) hg hat)
            replace HO_39 := A_ (Kd.R_over' (mv_ HO_39.out) (Kd.N_typed (mv_ HO_5.out)) (by decide) hg)
            replace HO_503004 := A_ (Kd.V_afterv (ok := (fun k_ => ((P0_4_ k_ ∨ P0_5_ k_) ∨ w.heap.size ≤ k_) ∧ some k_ ≠ (.slice Ao22 t503.length co22 : Value).ownBlock ∧ some k_ ≠ (u6 : Value).ownBlock ∧ some k_ ≠ (.slice Ao22 t503.length co22 : Value).ownBlock ∧ k_ ≠ gb502)) (by (with_reducible repeat (first | apply Kd.V_alloc | apply Kd.V_drewN | apply Kd.V_drew)); exact Kd.V_mono HO_503004.out (fun _ hk => ⟨⟨hk.1, ⟨hk.2.1, ⟨hk.2.2.2.1, ⟨hk.2.2.2.2.1, hk.2.2.2.2.2⟩⟩⟩⟩, hk.2.2.1⟩)) hg hat)
            replace HO_503005 := A_ (Kd.V_afterv (ok := (fun k_ => ((P0_4_ k_ ∨ P0_5_ k_) ∨ w.heap.size ≤ k_) ∧ some k_ ≠ (.slice Ao22 t503.length co22 : Value).ownBlock ∧ some k_ ≠ (u6 : Value).ownBlock ∧ some k_ ≠ (.slice Ao22 t503.length co22 : Value).ownBlock ∧ k_ ≠ gb502)) (by (with_reducible repeat (first | apply Kd.V_alloc | apply Kd.V_drewN | apply Kd.V_drew)); exact Kd.V_mono HO_503005.out (fun _ hk => ⟨⟨hk.1, ⟨hk.2.1, ⟨hk.2.2.2.1, ⟨hk.2.2.2.2.1, hk.2.2.2.2.2⟩⟩⟩⟩, hk.2.2.1⟩)) hg hat)
            replace BK502 := A_ (bg_ BK502.out hg (Kd.N_ne HO_5.out BK502.out (by decide)))
            have HO552 := A_ ho
            replace HB := A_ hb
            clear HO_5 ho hb hg hat
            refine hK.out _ _ ⟨c0_ BK502.out, c1_ BK502.out, c2_ BK502.out, c3_ BK502.out, c4_ BK502.out, c5_ BK502.out⟩ (fun hHeld => ?_)
            clear hK K
            refine norm_ (a' := ?_) ?_ ?_
            rotate_left
            ·show Act.put _ (some 91) _ = _
             simp only [Act.put, ps_, i64_w, i32_w]
             rfl
            refine one_ (i := 7) (N := some 95) #[true, true, true, true, true, true, true, true, false, false] rfl rfl (one_of HT_.out (by kernel_rfl)) (by decide) (fun K hK => ?_)
            refine Kd.N_append_rows_step (Kd.slice 21 (Kd.int .i32)) (w0 := w) w.heap.size (by rfl) (.tmp 92) (.tmp 94) 29 22 (.slice none 0 0) 24 rfl Try.underlying29 info22 rfl (by decide) (by omega) u6 x6_2 l0_5 _ _ _ (fun k_ => ((P0_4_ k_ ∨ P0_5_ k_) ∨ w.heap.size ≤ k_) ∧ some k_ ≠ (.slice Ao22 t503.length co22 : Value).ownBlock ∧ some k_ ≠ (.slice Ao22 t503.length co22 : Value).ownBlock ∧ some k_ ≠ (v551 : Value).ownBlock ∧ k_ ≠ gb502) (fun k_ => ((fun k_ => ((P0_4_ k_ ∨ P0_5_ k_) ∨ w.heap.size ≤ k_) ∧ some k_ ≠ (.slice Ao22 t503.length co22 : Value).ownBlock ∧ some k_ ≠ (.slice Ao22 t503.length co22 : Value).ownBlock ∧ some k_ ≠ (v551 : Value).ownBlock ∧ k_ ≠ gb502)) k_ ∧ some k_ ≠ (u6 : Value).ownBlock) rfl rfl ?aO ?aR (fun _ hk => hk) ?aF ?aB ?aS ?aL ?_
            (case aR => exact (by skip; exact Kd.V_F (Kd.V_mono (ok' := (fun k_ => ((fun k_ => ((P0_4_ k_ ∨ P0_5_ k_) ∨ w.heap.size ≤ k_) ∧ some k_ ≠ (.slice Ao22 t503.length co22 : Value).ownBlock ∧ some k_ ≠ (.slice Ao22 t503.length co22 : Value).ownBlock ∧ some k_ ≠ (v551 : Value).ownBlock ∧ k_ ≠ gb502)) k_ ∧ some k_ ≠ (u6 : Value).ownBlock)) (HO_503005.out) (fun k_ hk => ⟨⟨hk.1.1, ⟨hk.1.2.1, ⟨hk.1.2.2.2.1, ⟨hk.2, hk.1.2.2.2.2⟩⟩⟩⟩, hk.1.2.2.1⟩))))
            (case aB => exact bl_)
            (case aF => exact (fun k_ hk => ⟨(.inr (Nat.le_trans (below_size bl_) hk)), Kd.fresh' (Kd.R_lt (mv_ HO_3.out)) k_ hk, Kd.fresh' (Kd.R_lt (mv_ HO_39.out)) k_ hk, Kd.fresh' (Kd.N_lt (mv_ HO552.out)) k_ hk, Kd.freshB (g := gb502) (o := .cells #[.slice A0_0 l0_0.length c0_0, .slice A0_1 l0_1.length c0_1, .slice A0_2 l0_2.length c0_2, .slice A0_3 l0_3.length c0_3, .slice A0_4 l0_4.length c0_4, .slice A0_5 l0_5.length c0_5] 41 (0, 0)) (mv_ BK502.out) k_ hk⟩))
            (case aO => exact (by (with_reducible repeat (first | apply Kd.N_alloc | apply Kd.N_drewN | apply Kd.N_drew)); exact Kd.N_mono HO_6.out (fun _ hk => ⟨hk.1.1, ⟨hk.1.2.1, ⟨hk.1.2.2.1, ⟨hk.2, hk.1.2.2.2⟩⟩⟩⟩)))
            (case aS => exact (below_size bl_))
            (case aL => have := LMc63.out; omega)
            intro v554 w139 ho hb hg hat
            rw [← Ny553.out] at ho
            replace HO_3 := A_ (Kd.R_over' (mv_ HO_3.out) (Kd.N_typed (mv_ HO_6.out)) (by decide) hg)
            replace HO_39 := A_ (Kd.R_over' (mv_ HO_39.out) (Kd.N_typed (mv_ HO_6.out)) (by decide) hg)
            replace HO_503004 := A_ (Kd.V_afterv (ok := (fun k_ => ((P0_4_ k_ ∨ P0_5_ k_) ∨ w.heap.size ≤ k_) ∧ some k_ ≠ (.slice Ao22 t503.length co22 : Value).ownBlock ∧ some k_ ≠ (.slice Ao22 t503.length co22 : Value).ownBlock ∧ some k_ ≠ (v551 : Value).ownBlock ∧ k_ ≠ gb502)) (by (with_reducible repeat (first | apply Kd.V_alloc | apply Kd.V_drewN | apply Kd.V_drew)); exact Kd.V_mono HO_503004.out (fun _ hk => ⟨⟨hk.1.1, ⟨hk.1.2.1, ⟨hk.1.2.2.2.1, ⟨hk.2, hk.1.2.2.2.2⟩⟩⟩⟩, hk.1.2.2.1⟩)) hg hat)
            replace HO_503005 := A_ (Kd.V_afterv (ok := (fun k_ => ((P0_4_ k_ ∨ P0_5_ k_) ∨ w.heap.size ≤ k_) ∧ some k_ ≠ (.slice Ao22 t503.length co22 : Value).ownBlock ∧ some k_ ≠ (.slice Ao22 t503.length co22 : Value).ownBlock ∧ some k_ ≠ (v551 : Value).ownBlock ∧ k_ ≠ gb502)) (by (with_reducible repeat (first | apply Kd.V_alloc | apply Kd.V_drewN | apply Kd.V_drew)); exact Kd.V_mono HO_503005.out (fun _ hk => ⟨⟨hk.1.1, ⟨hk.1.2.1, ⟨hk.1.2.2.2.1, ⟨hk.2, hk.1.2.2.2.2⟩⟩⟩⟩, hk.1.2.2.1⟩)) hg hat)
            replace BK502 := A_ (bg_ BK502.out hg (Kd.N_ne HO_6.out BK502.out (by decide)))
            replace HO552 := A_ (Kd.N_afterv (ok := (fun k_ => ((P0_4_ k_ ∨ P0_5_ k_) ∨ w.heap.size ≤ k_) ∧ some k_ ≠ (.slice Ao22 t503.length co22 : Value).ownBlock ∧ some k_ ≠ (.slice Ao22 t503.length co22 : Value).ownBlock ∧ k_ ≠ gb502)) (by (with_reducible repeat (first | apply Kd.N_alloc | apply Kd.N_drewN | apply Kd.N_drew)); exact Kd.N_mono HO552.out (fun _ hk => ⟨⟨hk.1, ⟨hk.2.1, ⟨hk.2.2.2.1, hk.2.2.2.2⟩⟩⟩, hk.2.2.1⟩)) hg hat)
            have HO555 := A_ ho
            replace HB := A_ hb
            clear HO_6 ho hb hg hat
            refine hK.out _ _ ⟨c0_ BK502.out, c1_ BK502.out, c2_ BK502.out, c3_ BK502.out, c4_ BK502.out, c5_ BK502.out⟩ (fun hHeld => ?_)
            clear hK K
            refine norm_ (a' := ?_) ?_ ?_
            rotate_left
            ·show Act.put _ (some 95) _ = _
             simp only [Act.put, ps_, i64_w, i32_w]
             rfl
            refine pure_ (i := 8) (N := some 5) (v := ?_) (a' := ?_) #[true, true, true, true, true, true, true, true, true, false] rfl rfl (any_of HT_.out (by kernel_rfl)) (fun _ _ _ h => h) (Or.inl ⟨by rfl, ?_⟩) ?_ ?_
            rotate_left
            ·intro w'
             go_simp
             with_reducible rfl
            rotate_left
            ·simp only [Act.put, ps_, i64_w, i32_w]
             rfl
            refine pure_ (i := 9) (N := some 6) (v := ?_) (a' := ?_) #[true, true, true, true, true, true, true, true, true, true] rfl rfl (any_of HT_.out (by kernel_rfl)) (fun _ _ _ h => h) (Or.inl ⟨by rfl, ?_⟩) ?_ ?_
            rotate_left
            ·intro w'
             go_simp
             with_reducible rfl
            rotate_left
            ·simp only [Act.put, ps_, i64_w, i32_w]
             rfl
            refine done_ (done_of HT_.out (by kernel_rfl)) ?_
            have ⟨_, _, _, _, _, _, _, _, _, _, _, _⟩ := k6_ BK502.out
            try go_wp2_with (first | (refine goesL_ (some 104) rfl rfl Try.func22 (by kernel_rfl) rfl #[.slice A0_0 l0_0.length c0_0, .slice Ao22 t503.length co22, .slice A0_4 l0_4.length c0_4, .slice A0_5 l0_5.length c0_5] rfl ar_ ?_; (with_reducible refine (attn_FusedP.calls k2 _ _ l0_0 _ _ t503 _ _ l0_4 _ _ l0_5 t556 t557 _ ?side1 ?side2 ?side3 ?side4 ?side5 ?side6 ?side7 ?side8 A64.out).mono ?_); (case side1 => exact cb_ (Kd.C_below HR0_0.out HB.out)); (case side2 => exact HC0_0.out); (case side3 => exact cb_ (Kd.R_reads' HO_3.out).2.2); (case side4 => exact (Kd.R_reads' HO_3.out).2.1); (case side5 => exact cb_ (Kd.V_reads' HO_503004.out).2.2); (case side6 => exact (Kd.V_reads' HO_503004.out).2.1); (case side7 => exact cb_ (Kd.V_reads' HO_503005.out).2.2); (case side8 => exact (Kd.V_reads' HO_503005.out).2.1); rintro e w141 ⟨v558, rfl, ho0, hb⟩; refine ⟨_, rfl, ?_⟩; replace HO_3 := A_ (Kd.R_below (mv_ HO_3.out) hb); replace HO_39 := A_ (Kd.R_below (mv_ HO_39.out) hb); replace HO_503004 := A_ (Kd.V_elder' (mv_ HO_503004.out) (Kd.R_base ho0) hb); replace HO_503005 := A_ (Kd.V_elder' (mv_ HO_503005.out) (Kd.R_base ho0) hb); replace HO552 := A_ (Kd.N_elder' (mv_ HO552.out) (Kd.R_base ho0) hb); replace HO555 := A_ (Kd.N_elder' (mv_ HO555.out) (Kd.R_base ho0) hb); have HO559 := A_ (Kd.R_lower (Kd.R_newM (M := fun k_ => (w.heap.size ≤ k_)) ho0 (below_size bl_) (fun k_ h_ => h_)) (below_size bl_)); replace BK502 := A_ (bb_ BK502.out hb); replace HB := A_ (below_step bl_ hb); have ⟨_, _, _, _, _, _, _, _, _, _, _, _⟩ := k6_ BK502.out; obtain ⟨Ao143, co143, eo143⟩ := Kd.N_slice HO552.out; subst eo143; obtain ⟨Ao144, co144, eo144⟩ := Kd.N_slice HO555.out; subst eo144) | (refine goesL_ (some 111) rfl rfl Try.func13 (by kernel_rfl) rfl #[.slice A0_0 l0_0.length c0_0, .slice Ao143 y550.length co143, .slice Ao144 y553.length co144] rfl ar_ ?_; (with_reducible refine (credenzaref14_Right.calls k2 _ _ l0_0 _ _ y550 _ _ y553 t560 _ ?side1 ?side2 ?side3 ?side4 ?side5 ?side6 A65.out).mono ?_); (case side1 => exact cb_ (Kd.C_below HR0_0.out HB.out)); (case side2 => exact HC0_0.out); (case side3 => exact cb_ (Kd.N_reads' HO552.out).2.2); (case side4 => exact (Kd.N_reads' HO552.out).2.1); (case side5 => exact cb_ (Kd.N_reads' HO555.out).2.2); (case side6 => exact (Kd.N_reads' HO555.out).2.1); rintro e w' ⟨rfl, ⟨nd, rfl⟩⟩; refine ⟨_, rfl, ?_⟩; obtain ⟨Ao145, co145, eo145⟩ := Kd.R_slice HO559.out; subst eo145) | (go_at_call 8; (with_reducible refine (credenzalaw14_awake.calls k2  t561 _ A136.out).mono ?_); rintro e w146 ⟨rfl, hb⟩; replace HO_3 := A_ (Kd.R_below (mv_ HO_3.out) hb); replace HO_39 := A_ (Kd.R_below (mv_ HO_39.out) hb); replace HO_503004 := A_ (Kd.V_below (mv_ HO_503004.out) hb); replace HO_503005 := A_ (Kd.V_below (mv_ HO_503005.out) hb); replace HO552 := A_ (Kd.N_below (mv_ HO552.out) hb); replace HO555 := A_ (Kd.N_below (mv_ HO555.out) hb); replace HO559 := A_ (Kd.R_below (mv_ HO559.out) hb); replace BK502 := A_ (bb_ BK502.out hb); replace HB := A_ (below_step bl_ hb)))
            go_ret
            exact ⟨ew_, bl_⟩
           ·rw [if_neg c135] at H
            have c135b0 : ((t556.length : Int) == 0) = false := beq_eq_false_iff_ne.mpr c135
            have c135b1 : ((t556.length : Int) != 0) = true := bne_iff_ne.mpr c135
            have c135b2 : ¬ (t556 = []) := fun h_ => c135 (by rw [h_]; rfl)
            exact absurd H (by rw [HR_.out]; simp)
          ·rw [if_neg c134] at H
           have c134b0 : (t557 == t560) = false := beq_eq_false_iff_ne.mpr c134
           have c134b1 : (t557 != t560) = true := bne_iff_ne.mpr c134
           exact absurd H (by rw [HR_.out]; simp)
        ·rw [if_neg c63] at H
         exact absurd H (by simp)
       ·rw [if_neg c62] at H
        exact absurd H (by simp)
end Go.Proofs.Yteflolamihhmdaa.Q
