/- credenza/credenzalaw28.ScriptSays holds, tied to the program's text. (part 10: functions of the program as plain functions, and what is shown of them.) Conditions: as each theorem states; the last one has none. -/
import Derived.Test.YtcaiakbaklopmaaGreatDoorCScriptSaysCard1
import Derived.Test.YtcaiakbaklopmaaGreatDoorCScriptSaysCard2
import Derived.Test.YtcaiakbaklopmaaGreatDoorCScriptSaysCard3
import Derived.Test.YtcaiakbaklopmaaGreatDoorCScriptSaysCard4
import Derived.Test.YtcaiakbaklopmaaGreatDoorCScriptSaysCard5
import Derived.Test.YtcaiakbaklopmaaGreatDoorCScriptSaysCard6
import Derived.Test.YtcaiakbaklopmaaGreatDoorCScriptSaysCard7
import Derived.Test.YtcaiakbaklopmaaGreatDoorCScriptSaysCard8
import Derived.Test.YtcaiakbaklopmaaGreatDoorCScriptSaysCard9
namespace Go.Proofs.YtcaiakbaklopmaaGreatDoor.Q
open Go.RowKit Go.Proofs.YtcaiakbaklopmaaGreatDoorW.PrintWords Go.Proofs.YtcaiakbaklopmaaGreatDoorW.PrintLast Go.Proofs.YtcaiakbaklopmaaGreatDoorW.PrintMore
attribute [local go_sem] max2_int min2_int max_two min_two max_three min_three max_four min_four   -- for this text's walks alone
set_option linter.unusedVariables false
set_option linter.unusedSimpArgs false

attribute [local go_sem high] eqA34
def credenzalaw28_ScriptSays.j0 : Nat → Bool → Int → Int → Int → Int → Int → Int → Int → Int → Int → Int → Int → Int → Int → Int → Int → Int → Int → Int → Int → Int → Option (Bool)
 | 0, _, _, _, _, _, _, _, _, _, _, _, _, _, _, _, _, _, _, _, _, _ => none
 | k + 1, x18, x608000, x608001, x608002, x608003, x608004, x609000, x609001, x609002, x609003, x609004, x620000, x620001, x620002, x620003, x620004, x621000, x621001, x621002, x621003, x621004 => if x18 = true then ((credenzalaw28_awake.f).bind fun t623 => (some t623)) else ((script_Say.f k x608000 x608001 x608002 x608003 x608004).bind fun t624 => ((credenzaref28_Say.f k x620000 x620001 x620002 x620003 x620004).bind fun t625 => (if t624.toList = t625.toList then ((script_Say.f k x608000 x608001 x608002 x608003 x608004).bind fun t626 => ((script_Say.f k x609000 x609001 x609002 x609003 x609004).bind fun t627 => (if ((t626.toList == t627.toList) == (x620000 == x621000 && (x620001 == x621001 && (x620002 == x621002 && (x620003 == x621003 && (x620004 == x621004)))))) = true then ((credenzalaw28_awake.f).bind fun t628 => (some t628)) else (some false)))) else (some false))))
def credenzalaw28_ScriptSays.f (k : Nat) (a0_0 : Int) (a0_1 : Int) (a0_2 : Int) (a0_3 : Int) (a0_4 : Int) (a1_0 : Int) (a1_1 : Int) (a1_2 : Int) (a1_3 : Int) (a1_4 : Int) : Option (Bool) := (credenzalaw28_event.f a0_0 a0_1 a0_2 a0_3 a0_4).bind fun bt609 => ((credenzalaw28_event.f a1_0 a1_1 a1_2 a1_3 a1_4).bind fun bt614 => ((credenzaref23_Right.f k bt609.1 bt609.2.1 bt609.2.2.1 bt609.2.2.2.1 bt609.2.2.2.2).bind fun t621 => (if t621 = 0 then ((credenzaref23_Right.f k bt614.1 bt614.2.1 bt614.2.2.1 bt614.2.2.2.1 bt614.2.2.2.2).bind fun t622 => (credenzalaw28_ScriptSays.j0 k (t622 != 0) a0_0 a0_1 a0_2 a0_3 a0_4 a1_0 a1_1 a1_2 a1_3 a1_4 bt609.1 bt609.2.1 bt609.2.2.1 bt609.2.2.2.1 bt609.2.2.2.2 bt614.1 bt614.2.1 bt614.2.2.1 bt614.2.2.2.1 bt614.2.2.2.2)) else (credenzalaw28_ScriptSays.j0 k true a0_0 a0_1 a0_2 a0_3 a0_4 a1_0 a1_1 a1_2 a1_3 a1_4 bt609.1 bt609.2.1 bt609.2.2.1 bt609.2.2.2.1 bt609.2.2.2.2 bt614.1 bt614.2.1 bt614.2.2.1 bt614.2.2.2.1 bt614.2.2.2.2))))
def credenzalaw28_ScriptSays.T1 : Bool × List (List Nat × List Nat) := (true, [([], []), ([0], [0]), ([], []), ([2, 1], [2]), ([], []), ([], []), ([4, 1, 3, 0, 1, 4, 5], [1, 4]), ([5, 3, 6, 0, 1, 2, 3, 4, 5, 6], [3, 5])])
def credenzalaw28_ScriptSays.B1 : List Nat := [0, 1, 0, 7, 0, 0, 63, 127]
theorem credenzalaw28_ScriptSays.tab1 : rtab .any (opsOf Tryz.f4 1) = credenzalaw28_ScriptSays.T1 := by kernel_rfl
theorem credenzalaw28_ScriptSays.bits1 : waitsOk credenzalaw28_ScriptSays.T1.2 credenzalaw28_ScriptSays.B1 = true := by kernel_rfl
def credenzalaw28_ScriptSays.T4 : Bool × List (List Nat × List Nat) := (true, [([], []), ([0], [0]), ([], []), ([2, 1], [2]), ([1, 3], [1, 3]), ([4, 3], [4]), ([5], [5]), ([6, 5, 5], [5, 6]), ([5], [5]), ([8, 7, 5], [5, 8]), ([7, 9, 5], [5, 7, 9]), ([5], [5]), ([5], [5]), ([11, 12, 5], [5, 11, 12]), ([10, 13, 5], [5, 10, 13]), ([5, 14], [5, 14]), ([15, 9], [15]), ([16, 16], [16]), ([16, 17], [16, 17]), ([18, 17, 0, 1, 2, 3, 4, 5, 6, 7, 8, 9, 10, 11, 12, 13, 14, 15, 16, 17, 18], [18])])
def credenzalaw28_ScriptSays.B4 : List Nat := [0, 1, 0, 7, 15, 31, 63, 127, 63, 511, 1023, 63, 63, 6207, 16383, 32767, 65535, 131071, 262143, 524287]
theorem credenzalaw28_ScriptSays.tab4 : rtab .any (opsOf Tryz.f4 4) = credenzalaw28_ScriptSays.T4 := by kernel_rfl
theorem credenzalaw28_ScriptSays.bits4 : waitsOk credenzalaw28_ScriptSays.T4.2 credenzalaw28_ScriptSays.B4 = true := by kernel_rfl
set_option maxHeartbeats 8000000 in
set_option maxRecDepth 100000 in
theorem credenzalaw28_ScriptSays.calls (k : Nat) (a0_0 : Int) (a0_1 : Int) (a0_2 : Int) (a0_3 : Int) (a0_4 : Int) (a1_0 : Int) (a1_1 : Int) (a1_2 : Int) (a1_3 : Int) (a1_4 : Int) (r : Bool) (w : World) (hG : Gl w) (h : credenzalaw28_ScriptSays.f k a0_0 a0_1 a0_2 a0_3 a0_4 a1_0 a1_1 a1_2 a1_3 a1_4 = some r) :
  Calls Tryz.prog 4 #[.agg #[.int .i64 a0_0, .int .u32 a0_1, .int .i64 a0_2, .int .i64 a0_3, .int .i64 a0_4], .agg #[.int .i64 a1_0, .int .u32 a1_1, .int .i64 a1_2, .int .i64 a1_3, .int .i64 a1_4]] w fun e w' => e = .returned (.bool r) ∧ Below w.heap.size w w' := by
 have hu32 := Tryz.underlying32
 have hu34 := Tryz.underlying34
 have HB := Aside0.mk (Below.refl w.heap.size w)
 have H : ((credenzalaw28_event.f a0_0 a0_1 a0_2 a0_3 a0_4).bind fun bt609 => ((credenzalaw28_event.f a1_0 a1_1 a1_2 a1_3 a1_4).bind fun bt614 => ((credenzaref23_Right.f k bt609.1 bt609.2.1 bt609.2.2.1 bt609.2.2.2.1 bt609.2.2.2.2).bind fun t621 => (if t621 = 0 then ((credenzaref23_Right.f k bt614.1 bt614.2.1 bt614.2.2.1 bt614.2.2.2.1 bt614.2.2.2.2).bind fun t622 => (credenzalaw28_ScriptSays.j0 k (t622 != 0) a0_0 a0_1 a0_2 a0_3 a0_4 a1_0 a1_1 a1_2 a1_3 a1_4 bt609.1 bt609.2.1 bt609.2.2.1 bt609.2.2.2.1 bt609.2.2.2.2 bt614.1 bt614.2.1 bt614.2.2.1 bt614.2.2.2.1 bt614.2.2.2.2)) else (credenzalaw28_ScriptSays.j0 k true a0_0 a0_1 a0_2 a0_3 a0_4 a1_0 a1_1 a1_2 a1_3 a1_4 bt609.1 bt609.2.1 bt609.2.2.1 bt609.2.2.2.1 bt609.2.2.2.2 bt614.1 bt614.2.1 bt614.2.2.1 bt614.2.2.2.1 bt614.2.2.2.2))))) = some r := h
 clear h
 replace H := Option.bind_eq_some_iff.mp H
 obtain ⟨⟨t609, t610, t611, t612, t613⟩, A30, H⟩ := H
 replace H : ((credenzalaw28_event.f a1_0 a1_1 a1_2 a1_3 a1_4).bind fun bt614 => ((credenzaref23_Right.f k t609 t610 t611 t612 t613).bind fun t621 => (if t621 = 0 then ((credenzaref23_Right.f k bt614.1 bt614.2.1 bt614.2.2.1 bt614.2.2.2.1 bt614.2.2.2.2).bind fun t622 => (credenzalaw28_ScriptSays.j0 k (t622 != 0) a0_0 a0_1 a0_2 a0_3 a0_4 a1_0 a1_1 a1_2 a1_3 a1_4 t609 t610 t611 t612 t613 bt614.1 bt614.2.1 bt614.2.2.1 bt614.2.2.2.1 bt614.2.2.2.2)) else (credenzalaw28_ScriptSays.j0 k true a0_0 a0_1 a0_2 a0_3 a0_4 a1_0 a1_1 a1_2 a1_3 a1_4 t609 t610 t611 t612 t613 bt614.1 bt614.2.1 bt614.2.2.1 bt614.2.2.2.1 bt614.2.2.2.2)))) = some r := H
 have A3 := Aside0.mk A30
 clear A30
 replace H := Option.bind_eq_some_iff.mp H
 obtain ⟨⟨t614, t615, t616, t617, t618⟩, A40, H⟩ := H
 replace H : ((credenzaref23_Right.f k t609 t610 t611 t612 t613).bind fun t621 => (if t621 = 0 then ((credenzaref23_Right.f k t614 t615 t616 t617 t618).bind fun t622 => (credenzalaw28_ScriptSays.j0 k (t622 != 0) a0_0 a0_1 a0_2 a0_3 a0_4 a1_0 a1_1 a1_2 a1_3 a1_4 t609 t610 t611 t612 t613 t614 t615 t616 t617 t618)) else (credenzalaw28_ScriptSays.j0 k true a0_0 a0_1 a0_2 a0_3 a0_4 a1_0 a1_1 a1_2 a1_3 a1_4 t609 t610 t611 t612 t613 t614 t615 t616 t617 t618))) = some r := H
 have A4 := Aside0.mk A40
 clear A40
 have HC5 := Aside0.mk H
 clear H
 go_enter Tryz.func4, Tryz.ntmps4
 try go_wp2_with (first | ((with_reducible refine gate_dst (N := 2) rfl ?_); refine box_event ?hg (N := 2) ?hd (cs := #[.int .i64 a0_0, .int .u32 a0_1, .int .i64 a0_2, .int .i64 a0_3, .int .i64 a0_4]) (t := 32) ?hr ?_; (case hd => rfl); (case hg => rfl); (case hr => first | (go_simp; done) | (go_simp; rfl)); intro gb607 hg w6 hbox hb; have n0_ := Aside0.mk (below_step (by repeat (first | (with_reducible first | exact HB.out | apply below_alloc | apply pw_below_drewN | apply below_drew1) | exact HB.out)) hb); have n1_ := Aside0.mk (hbox); have n2_ := Aside0.mk ((by rw [hg]; exact (below_size (by repeat (first | (with_reducible first | exact HB.out | apply below_alloc | apply pw_below_drewN | apply below_drew1) | exact HB.out))) : w.heap.size ≤ gb607)); have n3_ := Aside0.mk ((by rw [hg]; exact (below_size (by repeat (first | (with_reducible first | exact HB.out | apply below_alloc | apply pw_below_drewN | apply below_drew1) | exact HB.out))) : w.heap.size ≤ gb607)); clear HB; have HB := n0_; have BK607 := n1_; have GW607 := n2_; have GE607 := n3_; clear n0_ n1_ n2_ n3_; clear hb hbox hg) | ((with_reducible refine gate_dst (N := 3) rfl ?_); refine box_event ?hg (N := 3) ?hd (cs := #[.int .i64 a1_0, .int .u32 a1_1, .int .i64 a1_2, .int .i64 a1_3, .int .i64 a1_4]) (t := 32) ?hr ?_; (case hd => rfl); (case hg => rfl); (case hr => first | (go_simp; done) | (go_simp; rfl)); intro gb608 hg w7 hbox hb; have n0_ := Aside0.mk (blk_below (g := gb607) (o := .cells #[.int .i64 a0_0, .int .u32 a0_1, .int .i64 a0_2, .int .i64 a0_3, .int .i64 a0_4] 32 (0, 0)) (by (with_reducible repeat (first | refine blk_drewN ?_ _ | refine blk_drew ?_ | refine blk_alloc ?_ _)); exact BK607.out) hb); have n1_ := Aside0.mk (below_step (by repeat (first | (with_reducible first | exact HB.out | apply below_alloc | apply pw_below_drewN | apply below_drew1 | refine below_set ?_ GE607.out) | exact HB.out)) hb); have n2_ := Aside0.mk (hbox); have n3_ := Aside0.mk ((by rw [hg]; exact (below_size (by repeat (first | (with_reducible first | exact HB.out | apply below_alloc | apply pw_below_drewN | apply below_drew1 | refine below_set ?_ GE607.out) | exact HB.out))) : w.heap.size ≤ gb608)); have n4_ := Aside0.mk ((by rw [hg]; exact (below_size (by repeat (first | (with_reducible first | exact HB.out | apply below_alloc | apply pw_below_drewN | apply below_drew1 | refine below_set ?_ GE607.out) | exact HB.out))) : w.heap.size ≤ gb608)); have n5_ := Aside0.mk ((by rw [hg]; exact Nat.ne_of_lt (blk_lt (g := gb607) (o := .cells #[.int .i64 a0_0, .int .u32 a0_1, .int .i64 a0_2, .int .i64 a0_3, .int .i64 a0_4] 32 (0, 0)) (by (with_reducible repeat (first | refine blk_drewN ?_ _ | refine blk_drew ?_ | refine blk_alloc ?_ _)); exact BK607.out)) : gb607 ≠ gb608)); have n6_ := Aside0.mk ((by rw [hg]; exact Nat.ne_of_gt (blk_lt (g := gb607) (o := .cells #[.int .i64 a0_0, .int .u32 a0_1, .int .i64 a0_2, .int .i64 a0_3, .int .i64 a0_4] 32 (0, 0)) (by (with_reducible repeat (first | refine blk_drewN ?_ _ | refine blk_drew ?_ | refine blk_alloc ?_ _)); exact BK607.out)) : gb608 ≠ gb607)); clear BK607; clear HB; have BK607 := n0_; have HB := n1_; have BK608 := n2_; have GW608 := n3_; have GE608 := n4_; have NB607_608 := n5_; have NB608_607 := n6_; clear n0_ n1_ n2_ n3_ n4_ n5_ n6_; clear hb hbox hg))
 have n0_ := Aside0.mk (blk_drew BK607.out)
 have n1_ := Aside0.mk (blk_drew BK608.out)
 have n2_ := Aside0.mk (below_drew1 HB.out)
 clear BK607
 clear BK608
 clear HB
 have BK607 := n0_
 have BK608 := n1_
 have HB := n2_
 clear n0_ n1_ n2_
 refine start_ (n := 8) (S := fun w' => w'.cell? ⟨gb607, 0, none⟩ = some (.int .i64 a0_0) ∧ w'.cell? ⟨gb607, 1, none⟩ = some (.int .u32 a0_1) ∧ w'.cell? ⟨gb607, 2, none⟩ = some (.int .i64 a0_2) ∧ w'.cell? ⟨gb607, 3, none⟩ = some (.int .i64 a0_3) ∧ w'.cell? ⟨gb607, 4, none⟩ = some (.int .i64 a0_4) ∧ w'.cell? ⟨gb608, 0, none⟩ = some (.int .i64 a1_0) ∧ w'.cell? ⟨gb608, 1, none⟩ = some (.int .u32 a1_1) ∧ w'.cell? ⟨gb608, 2, none⟩ = some (.int .i64 a1_2) ∧ w'.cell? ⟨gb608, 3, none⟩ = some (.int .i64 a1_3) ∧ w'.cell? ⟨gb608, 4, none⟩ = some (.int .i64 a1_4)) (ds := []) #[false, false, false, false, false, false, false, false] (by kernel_rfl) rfl rfl ⟨(blk_cell BK607.out 0).trans rfl, (blk_cell BK607.out 1).trans rfl, (blk_cell BK607.out 2).trans rfl, (blk_cell BK607.out 3).trans rfl, (blk_cell BK607.out 4).trans rfl, (blk_cell BK608.out 0).trans rfl, (blk_cell BK608.out 1).trans rfl, (blk_cell BK608.out 2).trans rfl, (blk_cell BK608.out 3).trans rfl, (blk_cell BK608.out 4).trans rfl⟩ (fun hHeld => ?_); refine with_tabW credenzalaw28_ScriptSays.tab1 credenzalaw28_ScriptSays.bits1 (fun HT_ HW_ => ?_)
 generalize w7.drew = w8 at BK607 BK608 HB hHeld ⊢
 refine take_ (i := 0) (N := some 7) (v := ?_) (a' := ?_) #[true, false, false, false, false, false, false, false] rfl rfl (take_ofW HT_.out HW_.out (by kernel_rfl)) (fun _ _ _ h => h) (Or.inl ⟨by rfl, ?_⟩) hHeld ?_ ?_
 rotate_left
 ·rintro w' ⟨s0, s1, s2, s3, s4, s5, s6, s7, s8, s9⟩
  go_simp
  with_reducible rfl
 rotate_left
 ·simp only [Act.put, List.setIfInBounds_toArray, List.set_cons_zero, List.set_cons_succ, i64_w, i32_w]
  rfl
 refine take_ (i := 2) (N := some 9) (v := ?_) (a' := ?_) #[true, false, true, false, false, false, false, false] rfl rfl (take_ofW HT_.out HW_.out (by kernel_rfl)) (fun _ _ _ h => h) (Or.inl ⟨by rfl, ?_⟩) hHeld ?_ ?_
 rotate_left
 ·rintro w' ⟨s0, s1, s2, s3, s4, s5, s6, s7, s8, s9⟩
  go_simp
  with_reducible rfl
 rotate_left
 ·simp only [Act.put, List.setIfInBounds_toArray, List.set_cons_zero, List.set_cons_succ, i64_w, i32_w]
  rfl
 refine join_ (σ := Nat × Nat) 2 #[true, true, true, true, true, true, false, false] (fun s_ => [(8, .agg #[.int .i64 t609, .int .u32 t610, .int .i64 t611, .int .i64 t612, .int .i64 t613]), (10, .agg #[.int .i64 t614, .int .u32 t615, .int .i64 t616, .int .i64 t617, .int .i64 t618]), (5, .pointer (some ⟨s_.1, 0, none⟩)), (6, .pointer (some ⟨s_.2, 0, none⟩))]) (fun s_ w' => (w'.cell? ⟨gb607, 0, none⟩ = some (.int .i64 a0_0) ∧ w'.cell? ⟨gb607, 1, none⟩ = some (.int .u32 a0_1) ∧ w'.cell? ⟨gb607, 2, none⟩ = some (.int .i64 a0_2) ∧ w'.cell? ⟨gb607, 3, none⟩ = some (.int .i64 a0_3) ∧ w'.cell? ⟨gb607, 4, none⟩ = some (.int .i64 a0_4) ∧ w'.cell? ⟨gb608, 0, none⟩ = some (.int .i64 a1_0) ∧ w'.cell? ⟨gb608, 1, none⟩ = some (.int .u32 a1_1) ∧ w'.cell? ⟨gb608, 2, none⟩ = some (.int .i64 a1_2) ∧ w'.cell? ⟨gb608, 3, none⟩ = some (.int .i64 a1_3) ∧ w'.cell? ⟨gb608, 4, none⟩ = some (.int .i64 a1_4)) ∧ (w'.heap[gb607]? = some (.cells #[.int .i64 a0_0, .int .u32 a0_1, .int .i64 a0_2, .int .i64 a0_3, .int .i64 a0_4] 32 (0, 0))) ∧ (w'.heap[gb608]? = some (.cells #[.int .i64 a1_0, .int .u32 a1_1, .int .i64 a1_2, .int .i64 a1_3, .int .i64 a1_4] 32 (0, 0))) ∧ (w'.heap[s_.1]? = some (.cells #[.int .i64 0, .int .u32 0, .int .i64 0, .int .i64 0, .int .i64 0] 34 (0, 0))) ∧ (w'.heap[s_.2]? = some (.cells #[.int .i64 0, .int .u32 0, .int .i64 0, .int .i64 0, .int .i64 0] 34 (0, 0))) ∧ (w.heap.size ≤ s_.1) ∧ (w.heap.size ≤ s_.1) ∧ (gb607 ≠ s_.1) ∧ (s_.1 ≠ gb607) ∧ (gb608 ≠ s_.1) ∧ (s_.1 ≠ gb608) ∧ (s_.2 ≠ s_.1) ∧ (s_.1 ≠ s_.2) ∧ (w.heap.size ≤ s_.2) ∧ (w.heap.size ≤ s_.2) ∧ (gb607 ≠ s_.2) ∧ (s_.2 ≠ gb607) ∧ (gb608 ≠ s_.2) ∧ (s_.2 ≠ gb608) ∧ (Below w.heap.size w w')) ?_ ?_
 rotate_left
 ·intro hJ1_3_4_5
  refine join_ (σ := Nat) 3 #[true, true, true, true, true, false, false, false] (fun s_ => [(8, .agg #[.int .i64 t609, .int .u32 t610, .int .i64 t611, .int .i64 t612, .int .i64 t613]), (10, .agg #[.int .i64 t614, .int .u32 t615, .int .i64 t616, .int .i64 t617, .int .i64 t618]), (5, .pointer (some ⟨s_, 0, none⟩))]) (fun s_ w' => (w'.cell? ⟨gb607, 0, none⟩ = some (.int .i64 a0_0) ∧ w'.cell? ⟨gb607, 1, none⟩ = some (.int .u32 a0_1) ∧ w'.cell? ⟨gb607, 2, none⟩ = some (.int .i64 a0_2) ∧ w'.cell? ⟨gb607, 3, none⟩ = some (.int .i64 a0_3) ∧ w'.cell? ⟨gb607, 4, none⟩ = some (.int .i64 a0_4) ∧ w'.cell? ⟨gb608, 0, none⟩ = some (.int .i64 a1_0) ∧ w'.cell? ⟨gb608, 1, none⟩ = some (.int .u32 a1_1) ∧ w'.cell? ⟨gb608, 2, none⟩ = some (.int .i64 a1_2) ∧ w'.cell? ⟨gb608, 3, none⟩ = some (.int .i64 a1_3) ∧ w'.cell? ⟨gb608, 4, none⟩ = some (.int .i64 a1_4)) ∧ (w'.heap[gb607]? = some (.cells #[.int .i64 a0_0, .int .u32 a0_1, .int .i64 a0_2, .int .i64 a0_3, .int .i64 a0_4] 32 (0, 0))) ∧ (w'.heap[gb608]? = some (.cells #[.int .i64 a1_0, .int .u32 a1_1, .int .i64 a1_2, .int .i64 a1_3, .int .i64 a1_4] 32 (0, 0))) ∧ (w'.heap[s_]? = some (.cells #[.int .i64 0, .int .u32 0, .int .i64 0, .int .i64 0, .int .i64 0] 34 (0, 0))) ∧ (w.heap.size ≤ s_) ∧ (w.heap.size ≤ s_) ∧ (gb607 ≠ s_) ∧ (s_ ≠ gb607) ∧ (gb608 ≠ s_) ∧ (s_ ≠ gb608) ∧ (Below w.heap.size w w')) ?_ ?_
  rotate_left
  ·intro hJ1_3_4
   refine join_ (σ := Nat) 3 #[true, true, true, true, false, true, false, false] (fun s_ => [(8, .agg #[.int .i64 t609, .int .u32 t610, .int .i64 t611, .int .i64 t612, .int .i64 t613]), (10, .agg #[.int .i64 t614, .int .u32 t615, .int .i64 t616, .int .i64 t617, .int .i64 t618]), (6, .pointer (some ⟨s_, 0, none⟩))]) (fun s_ w' => (w'.cell? ⟨gb607, 0, none⟩ = some (.int .i64 a0_0) ∧ w'.cell? ⟨gb607, 1, none⟩ = some (.int .u32 a0_1) ∧ w'.cell? ⟨gb607, 2, none⟩ = some (.int .i64 a0_2) ∧ w'.cell? ⟨gb607, 3, none⟩ = some (.int .i64 a0_3) ∧ w'.cell? ⟨gb607, 4, none⟩ = some (.int .i64 a0_4) ∧ w'.cell? ⟨gb608, 0, none⟩ = some (.int .i64 a1_0) ∧ w'.cell? ⟨gb608, 1, none⟩ = some (.int .u32 a1_1) ∧ w'.cell? ⟨gb608, 2, none⟩ = some (.int .i64 a1_2) ∧ w'.cell? ⟨gb608, 3, none⟩ = some (.int .i64 a1_3) ∧ w'.cell? ⟨gb608, 4, none⟩ = some (.int .i64 a1_4)) ∧ (w'.heap[gb607]? = some (.cells #[.int .i64 a0_0, .int .u32 a0_1, .int .i64 a0_2, .int .i64 a0_3, .int .i64 a0_4] 32 (0, 0))) ∧ (w'.heap[gb608]? = some (.cells #[.int .i64 a1_0, .int .u32 a1_1, .int .i64 a1_2, .int .i64 a1_3, .int .i64 a1_4] 32 (0, 0))) ∧ (w'.heap[s_]? = some (.cells #[.int .i64 0, .int .u32 0, .int .i64 0, .int .i64 0, .int .i64 0] 34 (0, 0))) ∧ (w.heap.size ≤ s_) ∧ (w.heap.size ≤ s_) ∧ (gb607 ≠ s_) ∧ (s_ ≠ gb607) ∧ (gb608 ≠ s_) ∧ (s_ ≠ gb608) ∧ (Below w.heap.size w w')) ?_ ?_
   rotate_left
   ·intro hJ1_3_5
    refine join_ (σ := Nat × Nat) 3 #[true, true, true, false, true, true, false, false] (fun s_ => [(8, .agg #[.int .i64 t609, .int .u32 t610, .int .i64 t611, .int .i64 t612, .int .i64 t613]), (5, .pointer (some ⟨s_.1, 0, none⟩)), (6, .pointer (some ⟨s_.2, 0, none⟩))]) (fun s_ w' => (w'.cell? ⟨gb607, 0, none⟩ = some (.int .i64 a0_0) ∧ w'.cell? ⟨gb607, 1, none⟩ = some (.int .u32 a0_1) ∧ w'.cell? ⟨gb607, 2, none⟩ = some (.int .i64 a0_2) ∧ w'.cell? ⟨gb607, 3, none⟩ = some (.int .i64 a0_3) ∧ w'.cell? ⟨gb607, 4, none⟩ = some (.int .i64 a0_4) ∧ w'.cell? ⟨gb608, 0, none⟩ = some (.int .i64 a1_0) ∧ w'.cell? ⟨gb608, 1, none⟩ = some (.int .u32 a1_1) ∧ w'.cell? ⟨gb608, 2, none⟩ = some (.int .i64 a1_2) ∧ w'.cell? ⟨gb608, 3, none⟩ = some (.int .i64 a1_3) ∧ w'.cell? ⟨gb608, 4, none⟩ = some (.int .i64 a1_4)) ∧ (w'.heap[gb607]? = some (.cells #[.int .i64 a0_0, .int .u32 a0_1, .int .i64 a0_2, .int .i64 a0_3, .int .i64 a0_4] 32 (0, 0))) ∧ (w'.heap[gb608]? = some (.cells #[.int .i64 a1_0, .int .u32 a1_1, .int .i64 a1_2, .int .i64 a1_3, .int .i64 a1_4] 32 (0, 0))) ∧ (w'.heap[s_.1]? = some (.cells #[.int .i64 0, .int .u32 0, .int .i64 0, .int .i64 0, .int .i64 0] 34 (0, 0))) ∧ (w'.heap[s_.2]? = some (.cells #[.int .i64 0, .int .u32 0, .int .i64 0, .int .i64 0, .int .i64 0] 34 (0, 0))) ∧ (w.heap.size ≤ s_.1) ∧ (w.heap.size ≤ s_.1) ∧ (gb607 ≠ s_.1) ∧ (s_.1 ≠ gb607) ∧ (gb608 ≠ s_.1) ∧ (s_.1 ≠ gb608) ∧ (s_.2 ≠ s_.1) ∧ (s_.1 ≠ s_.2) ∧ (w.heap.size ≤ s_.2) ∧ (w.heap.size ≤ s_.2) ∧ (gb607 ≠ s_.2) ∧ (s_.2 ≠ gb607) ∧ (gb608 ≠ s_.2) ∧ (s_.2 ≠ gb608) ∧ (Below w.heap.size w w')) ?_ ?_
    rotate_left
    ·intro hJ1_4_5
     refine join_ (σ := Unit) 4 #[true, true, true, true, false, false, false, false] (fun s_ => [(8, .agg #[.int .i64 t609, .int .u32 t610, .int .i64 t611, .int .i64 t612, .int .i64 t613]), (10, .agg #[.int .i64 t614, .int .u32 t615, .int .i64 t616, .int .i64 t617, .int .i64 t618])]) (fun s_ w' => (w'.cell? ⟨gb607, 0, none⟩ = some (.int .i64 a0_0) ∧ w'.cell? ⟨gb607, 1, none⟩ = some (.int .u32 a0_1) ∧ w'.cell? ⟨gb607, 2, none⟩ = some (.int .i64 a0_2) ∧ w'.cell? ⟨gb607, 3, none⟩ = some (.int .i64 a0_3) ∧ w'.cell? ⟨gb607, 4, none⟩ = some (.int .i64 a0_4) ∧ w'.cell? ⟨gb608, 0, none⟩ = some (.int .i64 a1_0) ∧ w'.cell? ⟨gb608, 1, none⟩ = some (.int .u32 a1_1) ∧ w'.cell? ⟨gb608, 2, none⟩ = some (.int .i64 a1_2) ∧ w'.cell? ⟨gb608, 3, none⟩ = some (.int .i64 a1_3) ∧ w'.cell? ⟨gb608, 4, none⟩ = some (.int .i64 a1_4)) ∧ (w'.heap[gb607]? = some (.cells #[.int .i64 a0_0, .int .u32 a0_1, .int .i64 a0_2, .int .i64 a0_3, .int .i64 a0_4] 32 (0, 0))) ∧ (w'.heap[gb608]? = some (.cells #[.int .i64 a1_0, .int .u32 a1_1, .int .i64 a1_2, .int .i64 a1_3, .int .i64 a1_4] 32 (0, 0))) ∧ (Below w.heap.size w w')) ?_ ?_
     rotate_left
     ·intro hJ1_3
      refine join_ (σ := Nat) 4 #[true, true, true, false, true, false, false, false] (fun s_ => [(8, .agg #[.int .i64 t609, .int .u32 t610, .int .i64 t611, .int .i64 t612, .int .i64 t613]), (5, .pointer (some ⟨s_, 0, none⟩))]) (fun s_ w' => (w'.cell? ⟨gb607, 0, none⟩ = some (.int .i64 a0_0) ∧ w'.cell? ⟨gb607, 1, none⟩ = some (.int .u32 a0_1) ∧ w'.cell? ⟨gb607, 2, none⟩ = some (.int .i64 a0_2) ∧ w'.cell? ⟨gb607, 3, none⟩ = some (.int .i64 a0_3) ∧ w'.cell? ⟨gb607, 4, none⟩ = some (.int .i64 a0_4) ∧ w'.cell? ⟨gb608, 0, none⟩ = some (.int .i64 a1_0) ∧ w'.cell? ⟨gb608, 1, none⟩ = some (.int .u32 a1_1) ∧ w'.cell? ⟨gb608, 2, none⟩ = some (.int .i64 a1_2) ∧ w'.cell? ⟨gb608, 3, none⟩ = some (.int .i64 a1_3) ∧ w'.cell? ⟨gb608, 4, none⟩ = some (.int .i64 a1_4)) ∧ (w'.heap[gb607]? = some (.cells #[.int .i64 a0_0, .int .u32 a0_1, .int .i64 a0_2, .int .i64 a0_3, .int .i64 a0_4] 32 (0, 0))) ∧ (w'.heap[gb608]? = some (.cells #[.int .i64 a1_0, .int .u32 a1_1, .int .i64 a1_2, .int .i64 a1_3, .int .i64 a1_4] 32 (0, 0))) ∧ (w'.heap[s_]? = some (.cells #[.int .i64 0, .int .u32 0, .int .i64 0, .int .i64 0, .int .i64 0] 34 (0, 0))) ∧ (w.heap.size ≤ s_) ∧ (w.heap.size ≤ s_) ∧ (gb607 ≠ s_) ∧ (s_ ≠ gb607) ∧ (gb608 ≠ s_) ∧ (s_ ≠ gb608) ∧ (Below w.heap.size w w')) ?_ ?_
      rotate_left
      ·intro hJ1_4
       refine join_ (σ := Nat) 4 #[true, true, true, false, false, true, false, false] (fun s_ => [(8, .agg #[.int .i64 t609, .int .u32 t610, .int .i64 t611, .int .i64 t612, .int .i64 t613]), (6, .pointer (some ⟨s_, 0, none⟩))]) (fun s_ w' => (w'.cell? ⟨gb607, 0, none⟩ = some (.int .i64 a0_0) ∧ w'.cell? ⟨gb607, 1, none⟩ = some (.int .u32 a0_1) ∧ w'.cell? ⟨gb607, 2, none⟩ = some (.int .i64 a0_2) ∧ w'.cell? ⟨gb607, 3, none⟩ = some (.int .i64 a0_3) ∧ w'.cell? ⟨gb607, 4, none⟩ = some (.int .i64 a0_4) ∧ w'.cell? ⟨gb608, 0, none⟩ = some (.int .i64 a1_0) ∧ w'.cell? ⟨gb608, 1, none⟩ = some (.int .u32 a1_1) ∧ w'.cell? ⟨gb608, 2, none⟩ = some (.int .i64 a1_2) ∧ w'.cell? ⟨gb608, 3, none⟩ = some (.int .i64 a1_3) ∧ w'.cell? ⟨gb608, 4, none⟩ = some (.int .i64 a1_4)) ∧ (w'.heap[gb607]? = some (.cells #[.int .i64 a0_0, .int .u32 a0_1, .int .i64 a0_2, .int .i64 a0_3, .int .i64 a0_4] 32 (0, 0))) ∧ (w'.heap[gb608]? = some (.cells #[.int .i64 a1_0, .int .u32 a1_1, .int .i64 a1_2, .int .i64 a1_3, .int .i64 a1_4] 32 (0, 0))) ∧ (w'.heap[s_]? = some (.cells #[.int .i64 0, .int .u32 0, .int .i64 0, .int .i64 0, .int .i64 0] 34 (0, 0))) ∧ (w.heap.size ≤ s_) ∧ (w.heap.size ≤ s_) ∧ (gb607 ≠ s_) ∧ (s_ ≠ gb607) ∧ (gb608 ≠ s_) ∧ (s_ ≠ gb608) ∧ (Below w.heap.size w w')) ?_ ?_
       rotate_left
       ·intro hJ1_5
        refine join_ (σ := Nat × Nat) 4 #[true, false, true, false, true, true, false, false] (fun s_ => [(5, .pointer (some ⟨s_.1, 0, none⟩)), (6, .pointer (some ⟨s_.2, 0, none⟩))]) (fun s_ w' => (w'.cell? ⟨gb607, 0, none⟩ = some (.int .i64 a0_0) ∧ w'.cell? ⟨gb607, 1, none⟩ = some (.int .u32 a0_1) ∧ w'.cell? ⟨gb607, 2, none⟩ = some (.int .i64 a0_2) ∧ w'.cell? ⟨gb607, 3, none⟩ = some (.int .i64 a0_3) ∧ w'.cell? ⟨gb607, 4, none⟩ = some (.int .i64 a0_4) ∧ w'.cell? ⟨gb608, 0, none⟩ = some (.int .i64 a1_0) ∧ w'.cell? ⟨gb608, 1, none⟩ = some (.int .u32 a1_1) ∧ w'.cell? ⟨gb608, 2, none⟩ = some (.int .i64 a1_2) ∧ w'.cell? ⟨gb608, 3, none⟩ = some (.int .i64 a1_3) ∧ w'.cell? ⟨gb608, 4, none⟩ = some (.int .i64 a1_4)) ∧ (w'.heap[gb607]? = some (.cells #[.int .i64 a0_0, .int .u32 a0_1, .int .i64 a0_2, .int .i64 a0_3, .int .i64 a0_4] 32 (0, 0))) ∧ (w'.heap[gb608]? = some (.cells #[.int .i64 a1_0, .int .u32 a1_1, .int .i64 a1_2, .int .i64 a1_3, .int .i64 a1_4] 32 (0, 0))) ∧ (w'.heap[s_.1]? = some (.cells #[.int .i64 0, .int .u32 0, .int .i64 0, .int .i64 0, .int .i64 0] 34 (0, 0))) ∧ (w'.heap[s_.2]? = some (.cells #[.int .i64 0, .int .u32 0, .int .i64 0, .int .i64 0, .int .i64 0] 34 (0, 0))) ∧ (w.heap.size ≤ s_.1) ∧ (w.heap.size ≤ s_.1) ∧ (gb607 ≠ s_.1) ∧ (s_.1 ≠ gb607) ∧ (gb608 ≠ s_.1) ∧ (s_.1 ≠ gb608) ∧ (s_.2 ≠ s_.1) ∧ (s_.1 ≠ s_.2) ∧ (w.heap.size ≤ s_.2) ∧ (w.heap.size ≤ s_.2) ∧ (gb607 ≠ s_.2) ∧ (s_.2 ≠ gb607) ∧ (gb608 ≠ s_.2) ∧ (s_.2 ≠ gb608) ∧ (Below w.heap.size w w')) ?_ ?_
        rotate_left
        ·intro hJ4_5
         refine join_ (σ := Unit) 5 #[true, true, true, false, false, false, false, false] (fun s_ => [(8, .agg #[.int .i64 t609, .int .u32 t610, .int .i64 t611, .int .i64 t612, .int .i64 t613])]) (fun s_ w' => (w'.cell? ⟨gb607, 0, none⟩ = some (.int .i64 a0_0) ∧ w'.cell? ⟨gb607, 1, none⟩ = some (.int .u32 a0_1) ∧ w'.cell? ⟨gb607, 2, none⟩ = some (.int .i64 a0_2) ∧ w'.cell? ⟨gb607, 3, none⟩ = some (.int .i64 a0_3) ∧ w'.cell? ⟨gb607, 4, none⟩ = some (.int .i64 a0_4) ∧ w'.cell? ⟨gb608, 0, none⟩ = some (.int .i64 a1_0) ∧ w'.cell? ⟨gb608, 1, none⟩ = some (.int .u32 a1_1) ∧ w'.cell? ⟨gb608, 2, none⟩ = some (.int .i64 a1_2) ∧ w'.cell? ⟨gb608, 3, none⟩ = some (.int .i64 a1_3) ∧ w'.cell? ⟨gb608, 4, none⟩ = some (.int .i64 a1_4)) ∧ (w'.heap[gb607]? = some (.cells #[.int .i64 a0_0, .int .u32 a0_1, .int .i64 a0_2, .int .i64 a0_3, .int .i64 a0_4] 32 (0, 0))) ∧ (w'.heap[gb608]? = some (.cells #[.int .i64 a1_0, .int .u32 a1_1, .int .i64 a1_2, .int .i64 a1_3, .int .i64 a1_4] 32 (0, 0))) ∧ (Below w.heap.size w w')) ?_ ?_
         rotate_left
         ·intro hJ1
          refine join_ (σ := Nat) 5 #[true, false, true, false, true, false, false, false] (fun s_ => [(5, .pointer (some ⟨s_, 0, none⟩))]) (fun s_ w' => (w'.cell? ⟨gb607, 0, none⟩ = some (.int .i64 a0_0) ∧ w'.cell? ⟨gb607, 1, none⟩ = some (.int .u32 a0_1) ∧ w'.cell? ⟨gb607, 2, none⟩ = some (.int .i64 a0_2) ∧ w'.cell? ⟨gb607, 3, none⟩ = some (.int .i64 a0_3) ∧ w'.cell? ⟨gb607, 4, none⟩ = some (.int .i64 a0_4) ∧ w'.cell? ⟨gb608, 0, none⟩ = some (.int .i64 a1_0) ∧ w'.cell? ⟨gb608, 1, none⟩ = some (.int .u32 a1_1) ∧ w'.cell? ⟨gb608, 2, none⟩ = some (.int .i64 a1_2) ∧ w'.cell? ⟨gb608, 3, none⟩ = some (.int .i64 a1_3) ∧ w'.cell? ⟨gb608, 4, none⟩ = some (.int .i64 a1_4)) ∧ (w'.heap[gb607]? = some (.cells #[.int .i64 a0_0, .int .u32 a0_1, .int .i64 a0_2, .int .i64 a0_3, .int .i64 a0_4] 32 (0, 0))) ∧ (w'.heap[gb608]? = some (.cells #[.int .i64 a1_0, .int .u32 a1_1, .int .i64 a1_2, .int .i64 a1_3, .int .i64 a1_4] 32 (0, 0))) ∧ (w'.heap[s_]? = some (.cells #[.int .i64 0, .int .u32 0, .int .i64 0, .int .i64 0, .int .i64 0] 34 (0, 0))) ∧ (w.heap.size ≤ s_) ∧ (w.heap.size ≤ s_) ∧ (gb607 ≠ s_) ∧ (s_ ≠ gb607) ∧ (gb608 ≠ s_) ∧ (s_ ≠ gb608) ∧ (Below w.heap.size w w')) ?_ ?_
          rotate_left
          ·intro hJ4
           refine join_ (σ := Nat) 5 #[true, false, true, false, false, true, false, false] (fun s_ => [(6, .pointer (some ⟨s_, 0, none⟩))]) (fun s_ w' => (w'.cell? ⟨gb607, 0, none⟩ = some (.int .i64 a0_0) ∧ w'.cell? ⟨gb607, 1, none⟩ = some (.int .u32 a0_1) ∧ w'.cell? ⟨gb607, 2, none⟩ = some (.int .i64 a0_2) ∧ w'.cell? ⟨gb607, 3, none⟩ = some (.int .i64 a0_3) ∧ w'.cell? ⟨gb607, 4, none⟩ = some (.int .i64 a0_4) ∧ w'.cell? ⟨gb608, 0, none⟩ = some (.int .i64 a1_0) ∧ w'.cell? ⟨gb608, 1, none⟩ = some (.int .u32 a1_1) ∧ w'.cell? ⟨gb608, 2, none⟩ = some (.int .i64 a1_2) ∧ w'.cell? ⟨gb608, 3, none⟩ = some (.int .i64 a1_3) ∧ w'.cell? ⟨gb608, 4, none⟩ = some (.int .i64 a1_4)) ∧ (w'.heap[gb607]? = some (.cells #[.int .i64 a0_0, .int .u32 a0_1, .int .i64 a0_2, .int .i64 a0_3, .int .i64 a0_4] 32 (0, 0))) ∧ (w'.heap[gb608]? = some (.cells #[.int .i64 a1_0, .int .u32 a1_1, .int .i64 a1_2, .int .i64 a1_3, .int .i64 a1_4] 32 (0, 0))) ∧ (w'.heap[s_]? = some (.cells #[.int .i64 0, .int .u32 0, .int .i64 0, .int .i64 0, .int .i64 0] 34 (0, 0))) ∧ (w.heap.size ≤ s_) ∧ (w.heap.size ≤ s_) ∧ (gb607 ≠ s_) ∧ (s_ ≠ gb607) ∧ (gb608 ≠ s_) ∧ (s_ ≠ gb608) ∧ (Below w.heap.size w w')) ?_ ?_
           rotate_left
           ·intro hJ5
            refine three_ (i := 1) (j := 4) (k := 5) (Ni := some 8) (Nj := some 5) (Nk := some 6) #[true, true, true, false, false, false, false, false] #[true, false, true, false, true, false, false, false] #[true, false, true, false, false, true, false, false] rfl rfl rfl rfl rfl rfl (three_of HT_.out (by kernel_rfl)) (by decide) (by decide) (by decide) (fun K hK => ?_) (fun K hK => ?_) (fun K hK => ?_)
            ·skip
             refine goes_ Tryz.func9 (by kernel_rfl) rfl #[.agg #[.int .i64 a0_0, .int .u32 a0_1, .int .i64 a0_2, .int .i64 a0_3, .int .i64 a0_4]] (by rfl) rfl rfl (by (try simp only [List.map_toArray, List.map_cons, List.map_nil]); first | done | rfl | (simp only [List.length_drop, List.length_take]; rfl)) ?_
             with_reducible refine (credenzalaw28_event.calls a0_0 a0_1 a0_2 a0_3 a0_4 t609 t610 t611 t612 t613 _ A3.out).mono ?_
             rintro e w9 ⟨rfl, hb⟩
             refine ⟨_, rfl, ?_⟩
             have n0_ := Aside0.mk (blk_below (g := gb607) (o := .cells #[.int .i64 a0_0, .int .u32 a0_1, .int .i64 a0_2, .int .i64 a0_3, .int .i64 a0_4] 32 (0, 0)) (by (with_reducible repeat (first | refine blk_drewN ?_ _ | refine blk_drew ?_ | refine blk_alloc ?_ _)); exact BK607.out) hb)
             have n1_ := Aside0.mk (blk_below (g := gb608) (o := .cells #[.int .i64 a1_0, .int .u32 a1_1, .int .i64 a1_2, .int .i64 a1_3, .int .i64 a1_4] 32 (0, 0)) (by (with_reducible repeat (first | refine blk_drewN ?_ _ | refine blk_drew ?_ | refine blk_alloc ?_ _)); exact BK608.out) hb)
             have n2_ := Aside0.mk (below_step (by repeat (first | (with_reducible first | exact HB.out | apply below_alloc | apply pw_below_drewN | apply below_drew1 | refine below_set ?_ GE607.out | refine below_set ?_ GE608.out) | exact HB.out)) hb)
             clear BK607
             clear BK608
             clear HB
             have BK607 := n0_
             have BK608 := n1_
             have HB := n2_
             clear n0_ n1_ n2_
             (try clear hb)
             (try clear hb2)
             (try clear hk)
             (try clear hi)
             refine hK.out _ _ ⟨(blk_cell BK607.out 0).trans rfl, (blk_cell BK607.out 1).trans rfl, (blk_cell BK607.out 2).trans rfl, (blk_cell BK607.out 3).trans rfl, (blk_cell BK607.out 4).trans rfl, (blk_cell BK608.out 0).trans rfl, (blk_cell BK608.out 1).trans rfl, (blk_cell BK608.out 2).trans rfl, (blk_cell BK608.out 3).trans rfl, (blk_cell BK608.out 4).trans rfl⟩ (fun hHeld => ?_)
             clear hK K
             refine norm_ (a' := ?_) ?_ ?_
             rotate_left
             ·show Act.put _ (some 8) _ = _
              simp only [Act.put, List.setIfInBounds_toArray, List.set_cons_zero, List.set_cons_succ, i64_w, i32_w]
              rfl
             exact norm_ (by first | (simp only [putAll, Act.put, List.setIfInBounds_toArray, List.set_cons_zero, List.set_cons_succ]; done) | (simp only [putAll, Act.put, List.setIfInBounds_toArray, List.set_cons_zero, List.set_cons_succ]; rfl)) (hJ1 () _ ⟨hHeld, (by (with_reducible repeat (first | refine blk_drewN ?_ _ | refine blk_drew ?_ | refine blk_alloc ?_ _)); exact BK607.out), (by (with_reducible repeat (first | refine blk_drewN ?_ _ | refine blk_drew ?_ | refine blk_alloc ?_ _)); exact BK608.out), (by repeat (first | (with_reducible first | exact HB.out | apply below_alloc | apply pw_below_drewN | apply below_drew1 | refine below_set ?_ GE607.out | refine below_set ?_ GE608.out) | exact HB.out))⟩)
            ·skip
             refine box_step ?hg (N := 5) ?hd (cs := #[.int .i64 0, .int .u32 0, .int .i64 0, .int .i64 0, .int .i64 0]) (t := 34) ?hr ?_; (case hd => rfl); (case hg => rfl); (case hr => first | (go_simp; done) | (go_simp; rfl))
             intro gb619 hg w9 hbox hb
             have n0_ := Aside0.mk (blk_below (g := gb607) (o := .cells #[.int .i64 a0_0, .int .u32 a0_1, .int .i64 a0_2, .int .i64 a0_3, .int .i64 a0_4] 32 (0, 0)) (by (with_reducible repeat (first | refine blk_drewN ?_ _ | refine blk_drew ?_ | refine blk_alloc ?_ _)); exact BK607.out) hb)
             have n1_ := Aside0.mk (blk_below (g := gb608) (o := .cells #[.int .i64 a1_0, .int .u32 a1_1, .int .i64 a1_2, .int .i64 a1_3, .int .i64 a1_4] 32 (0, 0)) (by (with_reducible repeat (first | refine blk_drewN ?_ _ | refine blk_drew ?_ | refine blk_alloc ?_ _)); exact BK608.out) hb)
             have n2_ := Aside0.mk (below_step (by repeat (first | (with_reducible first | exact HB.out | apply below_alloc | apply pw_below_drewN | apply below_drew1 | refine below_set ?_ GE607.out | refine below_set ?_ GE608.out) | exact HB.out)) hb)
             have n3_ := Aside0.mk (hbox)
             have n4_ := Aside0.mk ((by rw [hg]; exact (below_size (by repeat (first | (with_reducible first | exact HB.out | apply below_alloc | apply pw_below_drewN | apply below_drew1 | refine below_set ?_ GE607.out | refine below_set ?_ GE608.out) | exact HB.out))) : w.heap.size ≤ gb619))
             have n5_ := Aside0.mk ((by rw [hg]; exact (below_size (by repeat (first | (with_reducible first | exact HB.out | apply below_alloc | apply pw_below_drewN | apply below_drew1 | refine below_set ?_ GE607.out | refine below_set ?_ GE608.out) | exact HB.out))) : w.heap.size ≤ gb619))
             have n6_ := Aside0.mk ((by rw [hg]; exact Nat.ne_of_lt (blk_lt (g := gb607) (o := .cells #[.int .i64 a0_0, .int .u32 a0_1, .int .i64 a0_2, .int .i64 a0_3, .int .i64 a0_4] 32 (0, 0)) (by (with_reducible repeat (first | refine blk_drewN ?_ _ | refine blk_drew ?_ | refine blk_alloc ?_ _)); exact BK607.out)) : gb607 ≠ gb619))
             have n7_ := Aside0.mk ((by rw [hg]; exact Nat.ne_of_gt (blk_lt (g := gb607) (o := .cells #[.int .i64 a0_0, .int .u32 a0_1, .int .i64 a0_2, .int .i64 a0_3, .int .i64 a0_4] 32 (0, 0)) (by (with_reducible repeat (first | refine blk_drewN ?_ _ | refine blk_drew ?_ | refine blk_alloc ?_ _)); exact BK607.out)) : gb619 ≠ gb607))
             have n8_ := Aside0.mk ((by rw [hg]; exact Nat.ne_of_lt (blk_lt (g := gb608) (o := .cells #[.int .i64 a1_0, .int .u32 a1_1, .int .i64 a1_2, .int .i64 a1_3, .int .i64 a1_4] 32 (0, 0)) (by (with_reducible repeat (first | refine blk_drewN ?_ _ | refine blk_drew ?_ | refine blk_alloc ?_ _)); exact BK608.out)) : gb608 ≠ gb619))
             have n9_ := Aside0.mk ((by rw [hg]; exact Nat.ne_of_gt (blk_lt (g := gb608) (o := .cells #[.int .i64 a1_0, .int .u32 a1_1, .int .i64 a1_2, .int .i64 a1_3, .int .i64 a1_4] 32 (0, 0)) (by (with_reducible repeat (first | refine blk_drewN ?_ _ | refine blk_drew ?_ | refine blk_alloc ?_ _)); exact BK608.out)) : gb619 ≠ gb608))
             clear BK607
             clear BK608
             clear HB
             have BK607 := n0_
             have BK608 := n1_
             have HB := n2_
             have BK619 := n3_
             have GW619 := n4_
             have GE619 := n5_
             have NB607_619 := n6_
             have NB619_607 := n7_
             have NB608_619 := n8_
             have NB619_608 := n9_
             clear n0_ n1_ n2_ n3_ n4_ n5_ n6_ n7_ n8_ n9_
             clear hb hbox hg
             refine hK.out _ _ ⟨(blk_cell BK607.out 0).trans rfl, (blk_cell BK607.out 1).trans rfl, (blk_cell BK607.out 2).trans rfl, (blk_cell BK607.out 3).trans rfl, (blk_cell BK607.out 4).trans rfl, (blk_cell BK608.out 0).trans rfl, (blk_cell BK608.out 1).trans rfl, (blk_cell BK608.out 2).trans rfl, (blk_cell BK608.out 3).trans rfl, (blk_cell BK608.out 4).trans rfl⟩ (fun hHeld => ?_)
             clear hK K
             refine norm_ (a' := ?_) ?_ ?_
             rotate_left
             ·show Act.put _ (some 5) _ = _
              simp only [Act.put, List.setIfInBounds_toArray, List.set_cons_zero, List.set_cons_succ, i64_w, i32_w]
              rfl
             exact norm_ (by first | (simp only [putAll, Act.put, List.setIfInBounds_toArray, List.set_cons_zero, List.set_cons_succ]; done) | (simp only [putAll, Act.put, List.setIfInBounds_toArray, List.set_cons_zero, List.set_cons_succ]; rfl)) (hJ4 (gb619) _ ⟨hHeld, (by (with_reducible repeat (first | refine blk_drewN ?_ _ | refine blk_drew ?_ | refine blk_alloc ?_ _)); exact BK607.out), (by (with_reducible repeat (first | refine blk_drewN ?_ _ | refine blk_drew ?_ | refine blk_alloc ?_ _)); exact BK608.out), (by (with_reducible repeat (first | refine blk_drewN ?_ _ | refine blk_drew ?_ | refine blk_alloc ?_ _)); exact BK619.out), GW619.out, GE619.out, NB607_619.out, NB619_607.out, NB608_619.out, NB619_608.out, (by repeat (first | (with_reducible first | exact HB.out | apply below_alloc | apply pw_below_drewN | apply below_drew1 | refine below_set ?_ GE607.out | refine below_set ?_ GE608.out | refine below_set ?_ GE619.out) | exact HB.out))⟩)
            ·skip
             refine box_step ?hg (N := 6) ?hd (cs := #[.int .i64 0, .int .u32 0, .int .i64 0, .int .i64 0, .int .i64 0]) (t := 34) ?hr ?_; (case hd => rfl); (case hg => rfl); (case hr => first | (go_simp; done) | (go_simp; rfl))
             intro gb620 hg w9 hbox hb
             have n0_ := Aside0.mk (blk_below (g := gb607) (o := .cells #[.int .i64 a0_0, .int .u32 a0_1, .int .i64 a0_2, .int .i64 a0_3, .int .i64 a0_4] 32 (0, 0)) (by (with_reducible repeat (first | refine blk_drewN ?_ _ | refine blk_drew ?_ | refine blk_alloc ?_ _)); exact BK607.out) hb)
             have n1_ := Aside0.mk (blk_below (g := gb608) (o := .cells #[.int .i64 a1_0, .int .u32 a1_1, .int .i64 a1_2, .int .i64 a1_3, .int .i64 a1_4] 32 (0, 0)) (by (with_reducible repeat (first | refine blk_drewN ?_ _ | refine blk_drew ?_ | refine blk_alloc ?_ _)); exact BK608.out) hb)
             have n2_ := Aside0.mk (below_step (by repeat (first | (with_reducible first | exact HB.out | apply below_alloc | apply pw_below_drewN | apply below_drew1 | refine below_set ?_ GE607.out | refine below_set ?_ GE608.out) | exact HB.out)) hb)
             have n3_ := Aside0.mk (hbox)
             have n4_ := Aside0.mk ((by rw [hg]; exact (below_size (by repeat (first | (with_reducible first | exact HB.out | apply below_alloc | apply pw_below_drewN | apply below_drew1 | refine below_set ?_ GE607.out | refine below_set ?_ GE608.out) | exact HB.out))) : w.heap.size ≤ gb620))
             have n5_ := Aside0.mk ((by rw [hg]; exact (below_size (by repeat (first | (with_reducible first | exact HB.out | apply below_alloc | apply pw_below_drewN | apply below_drew1 | refine below_set ?_ GE607.out | refine below_set ?_ GE608.out) | exact HB.out))) : w.heap.size ≤ gb620))
             have n6_ := Aside0.mk ((by rw [hg]; exact Nat.ne_of_lt (blk_lt (g := gb607) (o := .cells #[.int .i64 a0_0, .int .u32 a0_1, .int .i64 a0_2, .int .i64 a0_3, .int .i64 a0_4] 32 (0, 0)) (by (with_reducible repeat (first | refine blk_drewN ?_ _ | refine blk_drew ?_ | refine blk_alloc ?_ _)); exact BK607.out)) : gb607 ≠ gb620))
             have n7_ := Aside0.mk ((by rw [hg]; exact Nat.ne_of_gt (blk_lt (g := gb607) (o := .cells #[.int .i64 a0_0, .int .u32 a0_1, .int .i64 a0_2, .int .i64 a0_3, .int .i64 a0_4] 32 (0, 0)) (by (with_reducible repeat (first | refine blk_drewN ?_ _ | refine blk_drew ?_ | refine blk_alloc ?_ _)); exact BK607.out)) : gb620 ≠ gb607))
             have n8_ := Aside0.mk ((by rw [hg]; exact Nat.ne_of_lt (blk_lt (g := gb608) (o := .cells #[.int .i64 a1_0, .int .u32 a1_1, .int .i64 a1_2, .int .i64 a1_3, .int .i64 a1_4] 32 (0, 0)) (by (with_reducible repeat (first | refine blk_drewN ?_ _ | refine blk_drew ?_ | refine blk_alloc ?_ _)); exact BK608.out)) : gb608 ≠ gb620))
             have n9_ := Aside0.mk ((by rw [hg]; exact Nat.ne_of_gt (blk_lt (g := gb608) (o := .cells #[.int .i64 a1_0, .int .u32 a1_1, .int .i64 a1_2, .int .i64 a1_3, .int .i64 a1_4] 32 (0, 0)) (by (with_reducible repeat (first | refine blk_drewN ?_ _ | refine blk_drew ?_ | refine blk_alloc ?_ _)); exact BK608.out)) : gb620 ≠ gb608))
             clear BK607
             clear BK608
             clear HB
             have BK607 := n0_
             have BK608 := n1_
             have HB := n2_
             have BK620 := n3_
             have GW620 := n4_
             have GE620 := n5_
             have NB607_620 := n6_
             have NB620_607 := n7_
             have NB608_620 := n8_
             have NB620_608 := n9_
             clear n0_ n1_ n2_ n3_ n4_ n5_ n6_ n7_ n8_ n9_
             clear hb hbox hg
             refine hK.out _ _ ⟨(blk_cell BK607.out 0).trans rfl, (blk_cell BK607.out 1).trans rfl, (blk_cell BK607.out 2).trans rfl, (blk_cell BK607.out 3).trans rfl, (blk_cell BK607.out 4).trans rfl, (blk_cell BK608.out 0).trans rfl, (blk_cell BK608.out 1).trans rfl, (blk_cell BK608.out 2).trans rfl, (blk_cell BK608.out 3).trans rfl, (blk_cell BK608.out 4).trans rfl⟩ (fun hHeld => ?_)
             clear hK K
             refine norm_ (a' := ?_) ?_ ?_
             rotate_left
             ·show Act.put _ (some 6) _ = _
              simp only [Act.put, List.setIfInBounds_toArray, List.set_cons_zero, List.set_cons_succ, i64_w, i32_w]
              rfl
             exact norm_ (by first | (simp only [putAll, Act.put, List.setIfInBounds_toArray, List.set_cons_zero, List.set_cons_succ]; done) | (simp only [putAll, Act.put, List.setIfInBounds_toArray, List.set_cons_zero, List.set_cons_succ]; rfl)) (hJ5 (gb620) _ ⟨hHeld, (by (with_reducible repeat (first | refine blk_drewN ?_ _ | refine blk_drew ?_ | refine blk_alloc ?_ _)); exact BK607.out), (by (with_reducible repeat (first | refine blk_drewN ?_ _ | refine blk_drew ?_ | refine blk_alloc ?_ _)); exact BK608.out), (by (with_reducible repeat (first | refine blk_drewN ?_ _ | refine blk_drew ?_ | refine blk_alloc ?_ _)); exact BK620.out), GW620.out, GE620.out, NB607_620.out, NB620_607.out, NB608_620.out, NB620_608.out, (by repeat (first | (with_reducible first | exact HB.out | apply below_alloc | apply pw_below_drewN | apply below_drew1 | refine below_set ?_ GE607.out | refine below_set ?_ GE608.out | refine below_set ?_ GE620.out) | exact HB.out))⟩)
           ·skip
            rintro gb620 w10 ⟨hS_, h0_, h1_, h2_, h3_, h4_, h5_, h6_, h7_, h8_, h9_⟩
            have n0_ : Aside0 (w10.heap[gb607]? = some (.cells #[.int .i64 a0_0, .int .u32 a0_1, .int .i64 a0_2, .int .i64 a0_3, .int .i64 a0_4] 32 (0, 0))) := ⟨h0_⟩
            have n1_ : Aside0 (w10.heap[gb608]? = some (.cells #[.int .i64 a1_0, .int .u32 a1_1, .int .i64 a1_2, .int .i64 a1_3, .int .i64 a1_4] 32 (0, 0))) := ⟨h1_⟩
            have n2_ : Aside0 (w10.heap[gb620]? = some (.cells #[.int .i64 0, .int .u32 0, .int .i64 0, .int .i64 0, .int .i64 0] 34 (0, 0))) := ⟨h2_⟩
            have n3_ : Aside0 (w.heap.size ≤ gb620) := ⟨h3_⟩
            have n4_ : Aside0 (w.heap.size ≤ gb620) := ⟨h4_⟩
            have n5_ : Aside0 (gb607 ≠ gb620) := ⟨h5_⟩
            have n6_ : Aside0 (gb620 ≠ gb607) := ⟨h6_⟩
            have n7_ : Aside0 (gb608 ≠ gb620) := ⟨h7_⟩
            have n8_ : Aside0 (gb620 ≠ gb608) := ⟨h8_⟩
            have n9_ : Aside0 (Below w.heap.size w w10) := ⟨h9_⟩
            clear BK607
            clear BK608
            clear HB
            clear h0_ h1_ h2_ h3_ h4_ h5_ h6_ h7_ h8_ h9_
            have BK607 := n0_
            have BK608 := n1_
            have BK620 := n2_
            have GW620 := n3_
            have GE620 := n4_
            have NB607_620 := n5_
            have NB620_607 := n6_
            have NB608_620 := n7_
            have NB620_608 := n8_
            have HB := n9_
            clear n0_ n1_ n2_ n3_ n4_ n5_ n6_ n7_ n8_ n9_
            have hHeld : w10.cell? ⟨gb607, 0, none⟩ = some (.int .i64 a0_0) ∧ w10.cell? ⟨gb607, 1, none⟩ = some (.int .u32 a0_1) ∧ w10.cell? ⟨gb607, 2, none⟩ = some (.int .i64 a0_2) ∧ w10.cell? ⟨gb607, 3, none⟩ = some (.int .i64 a0_3) ∧ w10.cell? ⟨gb607, 4, none⟩ = some (.int .i64 a0_4) ∧ w10.cell? ⟨gb608, 0, none⟩ = some (.int .i64 a1_0) ∧ w10.cell? ⟨gb608, 1, none⟩ = some (.int .u32 a1_1) ∧ w10.cell? ⟨gb608, 2, none⟩ = some (.int .i64 a1_2) ∧ w10.cell? ⟨gb608, 3, none⟩ = some (.int .i64 a1_3) ∧ w10.cell? ⟨gb608, 4, none⟩ = some (.int .i64 a1_4) := hS_
            refine norm_ (a' := ?_) ?_ ?_
            rotate_left
            ·simp only [putAll, Act.put, List.setIfInBounds_toArray, List.set_cons_zero, List.set_cons_succ]
             rfl
            refine two_ (i := 1) (j := 4) (Ni := some 8) (Nj := some 5) #[true, true, true, false, false, true, false, false] #[true, false, true, false, true, true, false, false] rfl rfl rfl rfl (two_of HT_.out (by kernel_rfl)) (by decide) (by decide) (fun K hK => ?_) (fun K hK => ?_)
            ·skip
             refine goes_ Tryz.func9 (by kernel_rfl) rfl #[.agg #[.int .i64 a0_0, .int .u32 a0_1, .int .i64 a0_2, .int .i64 a0_3, .int .i64 a0_4]] (by rfl) rfl rfl (by (try simp only [List.map_toArray, List.map_cons, List.map_nil]); first | done | rfl | (simp only [List.length_drop, List.length_take]; rfl)) ?_
             with_reducible refine (credenzalaw28_event.calls a0_0 a0_1 a0_2 a0_3 a0_4 t609 t610 t611 t612 t613 _ A3.out).mono ?_
             rintro e w11 ⟨rfl, hb⟩
             refine ⟨_, rfl, ?_⟩
             have n0_ := Aside0.mk (blk_below (g := gb607) (o := .cells #[.int .i64 a0_0, .int .u32 a0_1, .int .i64 a0_2, .int .i64 a0_3, .int .i64 a0_4] 32 (0, 0)) (by (with_reducible repeat (first | refine blk_drewN ?_ _ | refine blk_drew ?_ | refine blk_alloc ?_ _)); exact BK607.out) hb)
             have n1_ := Aside0.mk (blk_below (g := gb608) (o := .cells #[.int .i64 a1_0, .int .u32 a1_1, .int .i64 a1_2, .int .i64 a1_3, .int .i64 a1_4] 32 (0, 0)) (by (with_reducible repeat (first | refine blk_drewN ?_ _ | refine blk_drew ?_ | refine blk_alloc ?_ _)); exact BK608.out) hb)
             have n2_ := Aside0.mk (blk_below (g := gb620) (o := .cells #[.int .i64 0, .int .u32 0, .int .i64 0, .int .i64 0, .int .i64 0] 34 (0, 0)) (by (with_reducible repeat (first | refine blk_drewN ?_ _ | refine blk_drew ?_ | refine blk_alloc ?_ _)); exact BK620.out) hb)
             have n3_ := Aside0.mk (below_step (by repeat (first | (with_reducible first | exact HB.out | apply below_alloc | apply pw_below_drewN | apply below_drew1 | refine below_set ?_ GE607.out | refine below_set ?_ GE608.out | refine below_set ?_ GE620.out) | exact HB.out)) hb)
             clear BK607
             clear BK608
             clear BK620
             clear HB
             have BK607 := n0_
             have BK608 := n1_
             have BK620 := n2_
             have HB := n3_
             clear n0_ n1_ n2_ n3_
             (try clear hb)
             (try clear hb2)
             (try clear hk)
             (try clear hi)
             refine hK.out _ _ ⟨(blk_cell BK607.out 0).trans rfl, (blk_cell BK607.out 1).trans rfl, (blk_cell BK607.out 2).trans rfl, (blk_cell BK607.out 3).trans rfl, (blk_cell BK607.out 4).trans rfl, (blk_cell BK608.out 0).trans rfl, (blk_cell BK608.out 1).trans rfl, (blk_cell BK608.out 2).trans rfl, (blk_cell BK608.out 3).trans rfl, (blk_cell BK608.out 4).trans rfl⟩ (fun hHeld => ?_)
             clear hK K
             refine norm_ (a' := ?_) ?_ ?_
             rotate_left
             ·show Act.put _ (some 8) _ = _
              simp only [Act.put, List.setIfInBounds_toArray, List.set_cons_zero, List.set_cons_succ, i64_w, i32_w]
              rfl
             exact norm_ (by first | (simp only [putAll, Act.put, List.setIfInBounds_toArray, List.set_cons_zero, List.set_cons_succ]; done) | (simp only [putAll, Act.put, List.setIfInBounds_toArray, List.set_cons_zero, List.set_cons_succ]; rfl)) (hJ1_5 (gb620) _ ⟨hHeld, (by (with_reducible repeat (first | refine blk_drewN ?_ _ | refine blk_drew ?_ | refine blk_alloc ?_ _)); exact BK607.out), (by (with_reducible repeat (first | refine blk_drewN ?_ _ | refine blk_drew ?_ | refine blk_alloc ?_ _)); exact BK608.out), (by (with_reducible repeat (first | refine blk_drewN ?_ _ | refine blk_drew ?_ | refine blk_alloc ?_ _)); exact BK620.out), GW620.out, GE620.out, NB607_620.out, NB620_607.out, NB608_620.out, NB620_608.out, (by repeat (first | (with_reducible first | exact HB.out | apply below_alloc | apply pw_below_drewN | apply below_drew1 | refine below_set ?_ GE607.out | refine below_set ?_ GE608.out | refine below_set ?_ GE620.out) | exact HB.out))⟩)
            ·skip
             refine box_step ?hg (N := 5) ?hd (cs := #[.int .i64 0, .int .u32 0, .int .i64 0, .int .i64 0, .int .i64 0]) (t := 34) ?hr ?_; (case hd => rfl); (case hg => rfl); (case hr => first | (go_simp; done) | (go_simp; rfl))
             intro gb619 hg w11 hbox hb
             have n0_ := Aside0.mk (blk_below (g := gb607) (o := .cells #[.int .i64 a0_0, .int .u32 a0_1, .int .i64 a0_2, .int .i64 a0_3, .int .i64 a0_4] 32 (0, 0)) (by (with_reducible repeat (first | refine blk_drewN ?_ _ | refine blk_drew ?_ | refine blk_alloc ?_ _)); exact BK607.out) hb)
             have n1_ := Aside0.mk (blk_below (g := gb608) (o := .cells #[.int .i64 a1_0, .int .u32 a1_1, .int .i64 a1_2, .int .i64 a1_3, .int .i64 a1_4] 32 (0, 0)) (by (with_reducible repeat (first | refine blk_drewN ?_ _ | refine blk_drew ?_ | refine blk_alloc ?_ _)); exact BK608.out) hb)
             have n2_ := Aside0.mk (blk_below (g := gb620) (o := .cells #[.int .i64 0, .int .u32 0, .int .i64 0, .int .i64 0, .int .i64 0] 34 (0, 0)) (by (with_reducible repeat (first | refine blk_drewN ?_ _ | refine blk_drew ?_ | refine blk_alloc ?_ _)); exact BK620.out) hb)
             have n3_ := Aside0.mk (below_step (by repeat (first | (with_reducible first | exact HB.out | apply below_alloc | apply pw_below_drewN | apply below_drew1 | refine below_set ?_ GE607.out | refine below_set ?_ GE608.out | refine below_set ?_ GE620.out) | exact HB.out)) hb)
             have n4_ := Aside0.mk (hbox)
             have n5_ := Aside0.mk ((by rw [hg]; exact (below_size (by repeat (first | (with_reducible first | exact HB.out | apply below_alloc | apply pw_below_drewN | apply below_drew1 | refine below_set ?_ GE607.out | refine below_set ?_ GE608.out | refine below_set ?_ GE620.out) | exact HB.out))) : w.heap.size ≤ gb619))
             have n6_ := Aside0.mk ((by rw [hg]; exact (below_size (by repeat (first | (with_reducible first | exact HB.out | apply below_alloc | apply pw_below_drewN | apply below_drew1 | refine below_set ?_ GE607.out | refine below_set ?_ GE608.out | refine below_set ?_ GE620.out) | exact HB.out))) : w.heap.size ≤ gb619))
             have n7_ := Aside0.mk ((by rw [hg]; exact Nat.ne_of_lt (blk_lt (g := gb607) (o := .cells #[.int .i64 a0_0, .int .u32 a0_1, .int .i64 a0_2, .int .i64 a0_3, .int .i64 a0_4] 32 (0, 0)) (by (with_reducible repeat (first | refine blk_drewN ?_ _ | refine blk_drew ?_ | refine blk_alloc ?_ _)); exact BK607.out)) : gb607 ≠ gb619))
             have n8_ := Aside0.mk ((by rw [hg]; exact Nat.ne_of_gt (blk_lt (g := gb607) (o := .cells #[.int .i64 a0_0, .int .u32 a0_1, .int .i64 a0_2, .int .i64 a0_3, .int .i64 a0_4] 32 (0, 0)) (by (with_reducible repeat (first | refine blk_drewN ?_ _ | refine blk_drew ?_ | refine blk_alloc ?_ _)); exact BK607.out)) : gb619 ≠ gb607))
             have n9_ := Aside0.mk ((by rw [hg]; exact Nat.ne_of_lt (blk_lt (g := gb608) (o := .cells #[.int .i64 a1_0, .int .u32 a1_1, .int .i64 a1_2, .int .i64 a1_3, .int .i64 a1_4] 32 (0, 0)) (by (with_reducible repeat (first | refine blk_drewN ?_ _ | refine blk_drew ?_ | refine blk_alloc ?_ _)); exact BK608.out)) : gb608 ≠ gb619))
             have n10_ := Aside0.mk ((by rw [hg]; exact Nat.ne_of_gt (blk_lt (g := gb608) (o := .cells #[.int .i64 a1_0, .int .u32 a1_1, .int .i64 a1_2, .int .i64 a1_3, .int .i64 a1_4] 32 (0, 0)) (by (with_reducible repeat (first | refine blk_drewN ?_ _ | refine blk_drew ?_ | refine blk_alloc ?_ _)); exact BK608.out)) : gb619 ≠ gb608))
             have n11_ := Aside0.mk ((by rw [hg]; exact Nat.ne_of_lt (blk_lt (g := gb620) (o := .cells #[.int .i64 0, .int .u32 0, .int .i64 0, .int .i64 0, .int .i64 0] 34 (0, 0)) (by (with_reducible repeat (first | refine blk_drewN ?_ _ | refine blk_drew ?_ | refine blk_alloc ?_ _)); exact BK620.out)) : gb620 ≠ gb619))
             have n12_ := Aside0.mk ((by rw [hg]; exact Nat.ne_of_gt (blk_lt (g := gb620) (o := .cells #[.int .i64 0, .int .u32 0, .int .i64 0, .int .i64 0, .int .i64 0] 34 (0, 0)) (by (with_reducible repeat (first | refine blk_drewN ?_ _ | refine blk_drew ?_ | refine blk_alloc ?_ _)); exact BK620.out)) : gb619 ≠ gb620))
             clear BK607
             clear BK608
             clear BK620
             clear HB
             have BK607 := n0_
             have BK608 := n1_
             have BK620 := n2_
             have HB := n3_
             have BK619 := n4_
             have GW619 := n5_
             have GE619 := n6_
             have NB607_619 := n7_
             have NB619_607 := n8_
             have NB608_619 := n9_
             have NB619_608 := n10_
             have NB620_619 := n11_
             have NB619_620 := n12_
             clear n0_ n1_ n2_ n3_ n4_ n5_ n6_ n7_ n8_ n9_ n10_ n11_ n12_
             clear hb hbox hg
             refine hK.out _ _ ⟨(blk_cell BK607.out 0).trans rfl, (blk_cell BK607.out 1).trans rfl, (blk_cell BK607.out 2).trans rfl, (blk_cell BK607.out 3).trans rfl, (blk_cell BK607.out 4).trans rfl, (blk_cell BK608.out 0).trans rfl, (blk_cell BK608.out 1).trans rfl, (blk_cell BK608.out 2).trans rfl, (blk_cell BK608.out 3).trans rfl, (blk_cell BK608.out 4).trans rfl⟩ (fun hHeld => ?_)
             clear hK K
             refine norm_ (a' := ?_) ?_ ?_
             rotate_left
             ·show Act.put _ (some 5) _ = _
              simp only [Act.put, List.setIfInBounds_toArray, List.set_cons_zero, List.set_cons_succ, i64_w, i32_w]
              rfl
             exact norm_ (by first | (simp only [putAll, Act.put, List.setIfInBounds_toArray, List.set_cons_zero, List.set_cons_succ]; done) | (simp only [putAll, Act.put, List.setIfInBounds_toArray, List.set_cons_zero, List.set_cons_succ]; rfl)) (hJ4_5 (gb619, gb620) _ ⟨hHeld, (by (with_reducible repeat (first | refine blk_drewN ?_ _ | refine blk_drew ?_ | refine blk_alloc ?_ _)); exact BK607.out), (by (with_reducible repeat (first | refine blk_drewN ?_ _ | refine blk_drew ?_ | refine blk_alloc ?_ _)); exact BK608.out), (by (with_reducible repeat (first | refine blk_drewN ?_ _ | refine blk_drew ?_ | refine blk_alloc ?_ _)); exact BK619.out), (by (with_reducible repeat (first | refine blk_drewN ?_ _ | refine blk_drew ?_ | refine blk_alloc ?_ _)); exact BK620.out), GW619.out, GE619.out, NB607_619.out, NB619_607.out, NB608_619.out, NB619_608.out, NB620_619.out, NB619_620.out, GW620.out, GE620.out, NB607_620.out, NB620_607.out, NB608_620.out, NB620_608.out, (by repeat (first | (with_reducible first | exact HB.out | apply below_alloc | apply pw_below_drewN | apply below_drew1 | refine below_set ?_ GE607.out | refine below_set ?_ GE608.out | refine below_set ?_ GE620.out | refine below_set ?_ GE619.out) | exact HB.out))⟩)
          ·skip
           rintro gb619 w10 ⟨hS_, h0_, h1_, h2_, h3_, h4_, h5_, h6_, h7_, h8_, h9_⟩
           have n0_ : Aside0 (w10.heap[gb607]? = some (.cells #[.int .i64 a0_0, .int .u32 a0_1, .int .i64 a0_2, .int .i64 a0_3, .int .i64 a0_4] 32 (0, 0))) := ⟨h0_⟩
           have n1_ : Aside0 (w10.heap[gb608]? = some (.cells #[.int .i64 a1_0, .int .u32 a1_1, .int .i64 a1_2, .int .i64 a1_3, .int .i64 a1_4] 32 (0, 0))) := ⟨h1_⟩
           have n2_ : Aside0 (w10.heap[gb619]? = some (.cells #[.int .i64 0, .int .u32 0, .int .i64 0, .int .i64 0, .int .i64 0] 34 (0, 0))) := ⟨h2_⟩
           have n3_ : Aside0 (w.heap.size ≤ gb619) := ⟨h3_⟩
           have n4_ : Aside0 (w.heap.size ≤ gb619) := ⟨h4_⟩
           have n5_ : Aside0 (gb607 ≠ gb619) := ⟨h5_⟩
           have n6_ : Aside0 (gb619 ≠ gb607) := ⟨h6_⟩
           have n7_ : Aside0 (gb608 ≠ gb619) := ⟨h7_⟩
           have n8_ : Aside0 (gb619 ≠ gb608) := ⟨h8_⟩
           have n9_ : Aside0 (Below w.heap.size w w10) := ⟨h9_⟩
           clear BK607
           clear BK608
           clear HB
           clear h0_ h1_ h2_ h3_ h4_ h5_ h6_ h7_ h8_ h9_
           have BK607 := n0_
           have BK608 := n1_
           have BK619 := n2_
           have GW619 := n3_
           have GE619 := n4_
           have NB607_619 := n5_
           have NB619_607 := n6_
           have NB608_619 := n7_
           have NB619_608 := n8_
           have HB := n9_
           clear n0_ n1_ n2_ n3_ n4_ n5_ n6_ n7_ n8_ n9_
           have hHeld : w10.cell? ⟨gb607, 0, none⟩ = some (.int .i64 a0_0) ∧ w10.cell? ⟨gb607, 1, none⟩ = some (.int .u32 a0_1) ∧ w10.cell? ⟨gb607, 2, none⟩ = some (.int .i64 a0_2) ∧ w10.cell? ⟨gb607, 3, none⟩ = some (.int .i64 a0_3) ∧ w10.cell? ⟨gb607, 4, none⟩ = some (.int .i64 a0_4) ∧ w10.cell? ⟨gb608, 0, none⟩ = some (.int .i64 a1_0) ∧ w10.cell? ⟨gb608, 1, none⟩ = some (.int .u32 a1_1) ∧ w10.cell? ⟨gb608, 2, none⟩ = some (.int .i64 a1_2) ∧ w10.cell? ⟨gb608, 3, none⟩ = some (.int .i64 a1_3) ∧ w10.cell? ⟨gb608, 4, none⟩ = some (.int .i64 a1_4) := hS_
           refine norm_ (a' := ?_) ?_ ?_
           rotate_left
           ·simp only [putAll, Act.put, List.setIfInBounds_toArray, List.set_cons_zero, List.set_cons_succ]
            rfl
           refine two_ (i := 1) (j := 5) (Ni := some 8) (Nj := some 6) #[true, true, true, false, true, false, false, false] #[true, false, true, false, true, true, false, false] rfl rfl rfl rfl (two_of HT_.out (by kernel_rfl)) (by decide) (by decide) (fun K hK => ?_) (fun K hK => ?_)
           ·skip
            refine goes_ Tryz.func9 (by kernel_rfl) rfl #[.agg #[.int .i64 a0_0, .int .u32 a0_1, .int .i64 a0_2, .int .i64 a0_3, .int .i64 a0_4]] (by rfl) rfl rfl (by (try simp only [List.map_toArray, List.map_cons, List.map_nil]); first | done | rfl | (simp only [List.length_drop, List.length_take]; rfl)) ?_
            with_reducible refine (credenzalaw28_event.calls a0_0 a0_1 a0_2 a0_3 a0_4 t609 t610 t611 t612 t613 _ A3.out).mono ?_
            rintro e w11 ⟨rfl, hb⟩
            refine ⟨_, rfl, ?_⟩
            have n0_ := Aside0.mk (blk_below (g := gb607) (o := .cells #[.int .i64 a0_0, .int .u32 a0_1, .int .i64 a0_2, .int .i64 a0_3, .int .i64 a0_4] 32 (0, 0)) (by (with_reducible repeat (first | refine blk_drewN ?_ _ | refine blk_drew ?_ | refine blk_alloc ?_ _)); exact BK607.out) hb)
            have n1_ := Aside0.mk (blk_below (g := gb608) (o := .cells #[.int .i64 a1_0, .int .u32 a1_1, .int .i64 a1_2, .int .i64 a1_3, .int .i64 a1_4] 32 (0, 0)) (by (with_reducible repeat (first | refine blk_drewN ?_ _ | refine blk_drew ?_ | refine blk_alloc ?_ _)); exact BK608.out) hb)
            have n2_ := Aside0.mk (blk_below (g := gb619) (o := .cells #[.int .i64 0, .int .u32 0, .int .i64 0, .int .i64 0, .int .i64 0] 34 (0, 0)) (by (with_reducible repeat (first | refine blk_drewN ?_ _ | refine blk_drew ?_ | refine blk_alloc ?_ _)); exact BK619.out) hb)
            have n3_ := Aside0.mk (below_step (by repeat (first | (with_reducible first | exact HB.out | apply below_alloc | apply pw_below_drewN | apply below_drew1 | refine below_set ?_ GE607.out | refine below_set ?_ GE608.out | refine below_set ?_ GE619.out) | exact HB.out)) hb)
            clear BK607
            clear BK608
            clear BK619
            clear HB
            have BK607 := n0_
            have BK608 := n1_
            have BK619 := n2_
            have HB := n3_
            clear n0_ n1_ n2_ n3_
            (try clear hb)
            (try clear hb2)
            (try clear hk)
            (try clear hi)
            refine hK.out _ _ ⟨(blk_cell BK607.out 0).trans rfl, (blk_cell BK607.out 1).trans rfl, (blk_cell BK607.out 2).trans rfl, (blk_cell BK607.out 3).trans rfl, (blk_cell BK607.out 4).trans rfl, (blk_cell BK608.out 0).trans rfl, (blk_cell BK608.out 1).trans rfl, (blk_cell BK608.out 2).trans rfl, (blk_cell BK608.out 3).trans rfl, (blk_cell BK608.out 4).trans rfl⟩ (fun hHeld => ?_)
            clear hK K
            refine norm_ (a' := ?_) ?_ ?_
            rotate_left
            ·show Act.put _ (some 8) _ = _
             simp only [Act.put, List.setIfInBounds_toArray, List.set_cons_zero, List.set_cons_succ, i64_w, i32_w]
             rfl
            exact norm_ (by first | (simp only [putAll, Act.put, List.setIfInBounds_toArray, List.set_cons_zero, List.set_cons_succ]; done) | (simp only [putAll, Act.put, List.setIfInBounds_toArray, List.set_cons_zero, List.set_cons_succ]; rfl)) (hJ1_4 (gb619) _ ⟨hHeld, (by (with_reducible repeat (first | refine blk_drewN ?_ _ | refine blk_drew ?_ | refine blk_alloc ?_ _)); exact BK607.out), (by (with_reducible repeat (first | refine blk_drewN ?_ _ | refine blk_drew ?_ | refine blk_alloc ?_ _)); exact BK608.out), (by (with_reducible repeat (first | refine blk_drewN ?_ _ | refine blk_drew ?_ | refine blk_alloc ?_ _)); exact BK619.out), GW619.out, GE619.out, NB607_619.out, NB619_607.out, NB608_619.out, NB619_608.out, (by repeat (first | (with_reducible first | exact HB.out | apply below_alloc | apply pw_below_drewN | apply below_drew1 | refine below_set ?_ GE607.out | refine below_set ?_ GE608.out | refine below_set ?_ GE619.out) | exact HB.out))⟩)
           ·skip
            refine box_step ?hg (N := 6) ?hd (cs := #[.int .i64 0, .int .u32 0, .int .i64 0, .int .i64 0, .int .i64 0]) (t := 34) ?hr ?_; (case hd => rfl); (case hg => rfl); (case hr => first | (go_simp; done) | (go_simp; rfl))
            intro gb620 hg w11 hbox hb
            have n0_ := Aside0.mk (blk_below (g := gb607) (o := .cells #[.int .i64 a0_0, .int .u32 a0_1, .int .i64 a0_2, .int .i64 a0_3, .int .i64 a0_4] 32 (0, 0)) (by (with_reducible repeat (first | refine blk_drewN ?_ _ | refine blk_drew ?_ | refine blk_alloc ?_ _)); exact BK607.out) hb)
            have n1_ := Aside0.mk (blk_below (g := gb608) (o := .cells #[.int .i64 a1_0, .int .u32 a1_1, .int .i64 a1_2, .int .i64 a1_3, .int .i64 a1_4] 32 (0, 0)) (by (with_reducible repeat (first | refine blk_drewN ?_ _ | refine blk_drew ?_ | refine blk_alloc ?_ _)); exact BK608.out) hb)
            have n2_ := Aside0.mk (blk_below (g := gb619) (o := .cells #[.int .i64 0, .int .u32 0, .int .i64 0, .int .i64 0, .int .i64 0] 34 (0, 0)) (by (with_reducible repeat (first | refine blk_drewN ?_ _ | refine blk_drew ?_ | refine blk_alloc ?_ _)); exact BK619.out) hb)
            have n3_ := Aside0.mk (below_step (by repeat (first | (with_reducible first | exact HB.out | apply below_alloc | apply pw_below_drewN | apply below_drew1 | refine below_set ?_ GE607.out | refine below_set ?_ GE608.out | refine below_set ?_ GE619.out) | exact HB.out)) hb)
            have n4_ := Aside0.mk (hbox)
            have n5_ := Aside0.mk ((by rw [hg]; exact (below_size (by repeat (first | (with_reducible first | exact HB.out | apply below_alloc | apply pw_below_drewN | apply below_drew1 | refine below_set ?_ GE607.out | refine below_set ?_ GE608.out | refine below_set ?_ GE619.out) | exact HB.out))) : w.heap.size ≤ gb620))
            have n6_ := Aside0.mk ((by rw [hg]; exact (below_size (by repeat (first | (with_reducible first | exact HB.out | apply below_alloc | apply pw_below_drewN | apply below_drew1 | refine below_set ?_ GE607.out | refine below_set ?_ GE608.out | refine below_set ?_ GE619.out) | exact HB.out))) : w.heap.size ≤ gb620))
            have n7_ := Aside0.mk ((by rw [hg]; exact Nat.ne_of_lt (blk_lt (g := gb607) (o := .cells #[.int .i64 a0_0, .int .u32 a0_1, .int .i64 a0_2, .int .i64 a0_3, .int .i64 a0_4] 32 (0, 0)) (by (with_reducible repeat (first | refine blk_drewN ?_ _ | refine blk_drew ?_ | refine blk_alloc ?_ _)); exact BK607.out)) : gb607 ≠ gb620))
            have n8_ := Aside0.mk ((by rw [hg]; exact Nat.ne_of_gt (blk_lt (g := gb607) (o := .cells #[.int .i64 a0_0, .int .u32 a0_1, .int .i64 a0_2, .int .i64 a0_3, .int .i64 a0_4] 32 (0, 0)) (by (with_reducible repeat (first | refine blk_drewN ?_ _ | refine blk_drew ?_ | refine blk_alloc ?_ _)); exact BK607.out)) : gb620 ≠ gb607))
            have n9_ := Aside0.mk ((by rw [hg]; exact Nat.ne_of_lt (blk_lt (g := gb608) (o := .cells #[.int .i64 a1_0, .int .u32 a1_1, .int .i64 a1_2, .int .i64 a1_3, .int .i64 a1_4] 32 (0, 0)) (by (with_reducible repeat (first | refine blk_drewN ?_ _ | refine blk_drew ?_ | refine blk_alloc ?_ _)); exact BK608.out)) : gb608 ≠ gb620))
            have n10_ := Aside0.mk ((by rw [hg]; exact Nat.ne_of_gt (blk_lt (g := gb608) (o := .cells #[.int .i64 a1_0, .int .u32 a1_1, .int .i64 a1_2, .int .i64 a1_3, .int .i64 a1_4] 32 (0, 0)) (by (with_reducible repeat (first | refine blk_drewN ?_ _ | refine blk_drew ?_ | refine blk_alloc ?_ _)); exact BK608.out)) : gb620 ≠ gb608))
            have n11_ := Aside0.mk ((by rw [hg]; exact Nat.ne_of_lt (blk_lt (g := gb619) (o := .cells #[.int .i64 0, .int .u32 0, .int .i64 0, .int .i64 0, .int .i64 0] 34 (0, 0)) (by (with_reducible repeat (first | refine blk_drewN ?_ _ | refine blk_drew ?_ | refine blk_alloc ?_ _)); exact BK619.out)) : gb619 ≠ gb620))
            have n12_ := Aside0.mk ((by rw [hg]; exact Nat.ne_of_gt (blk_lt (g := gb619) (o := .cells #[.int .i64 0, .int .u32 0, .int .i64 0, .int .i64 0, .int .i64 0] 34 (0, 0)) (by (with_reducible repeat (first | refine blk_drewN ?_ _ | refine blk_drew ?_ | refine blk_alloc ?_ _)); exact BK619.out)) : gb620 ≠ gb619))
            clear BK607
            clear BK608
            clear BK619
            clear HB
            have BK607 := n0_
            have BK608 := n1_
            have BK619 := n2_
            have HB := n3_
            have BK620 := n4_
            have GW620 := n5_
            have GE620 := n6_
            have NB607_620 := n7_
            have NB620_607 := n8_
            have NB608_620 := n9_
            have NB620_608 := n10_
            have NB619_620 := n11_
            have NB620_619 := n12_
            clear n0_ n1_ n2_ n3_ n4_ n5_ n6_ n7_ n8_ n9_ n10_ n11_ n12_
            clear hb hbox hg
            refine hK.out _ _ ⟨(blk_cell BK607.out 0).trans rfl, (blk_cell BK607.out 1).trans rfl, (blk_cell BK607.out 2).trans rfl, (blk_cell BK607.out 3).trans rfl, (blk_cell BK607.out 4).trans rfl, (blk_cell BK608.out 0).trans rfl, (blk_cell BK608.out 1).trans rfl, (blk_cell BK608.out 2).trans rfl, (blk_cell BK608.out 3).trans rfl, (blk_cell BK608.out 4).trans rfl⟩ (fun hHeld => ?_)
            clear hK K
            refine norm_ (a' := ?_) ?_ ?_
            rotate_left
            ·show Act.put _ (some 6) _ = _
             simp only [Act.put, List.setIfInBounds_toArray, List.set_cons_zero, List.set_cons_succ, i64_w, i32_w]
             rfl
            exact norm_ (by first | (simp only [putAll, Act.put, List.setIfInBounds_toArray, List.set_cons_zero, List.set_cons_succ]; done) | (simp only [putAll, Act.put, List.setIfInBounds_toArray, List.set_cons_zero, List.set_cons_succ]; rfl)) (hJ4_5 (gb619, gb620) _ ⟨hHeld, (by (with_reducible repeat (first | refine blk_drewN ?_ _ | refine blk_drew ?_ | refine blk_alloc ?_ _)); exact BK607.out), (by (with_reducible repeat (first | refine blk_drewN ?_ _ | refine blk_drew ?_ | refine blk_alloc ?_ _)); exact BK608.out), (by (with_reducible repeat (first | refine blk_drewN ?_ _ | refine blk_drew ?_ | refine blk_alloc ?_ _)); exact BK619.out), (by (with_reducible repeat (first | refine blk_drewN ?_ _ | refine blk_drew ?_ | refine blk_alloc ?_ _)); exact BK620.out), GW619.out, GE619.out, NB607_619.out, NB619_607.out, NB608_619.out, NB619_608.out, NB620_619.out, NB619_620.out, GW620.out, GE620.out, NB607_620.out, NB620_607.out, NB608_620.out, NB620_608.out, (by repeat (first | (with_reducible first | exact HB.out | apply below_alloc | apply pw_below_drewN | apply below_drew1 | refine below_set ?_ GE607.out | refine below_set ?_ GE608.out | refine below_set ?_ GE619.out | refine below_set ?_ GE620.out) | exact HB.out))⟩)
         ·skip
          rintro _ w10 ⟨hS_, h0_, h1_, h2_⟩
          have n0_ : Aside0 (w10.heap[gb607]? = some (.cells #[.int .i64 a0_0, .int .u32 a0_1, .int .i64 a0_2, .int .i64 a0_3, .int .i64 a0_4] 32 (0, 0))) := ⟨h0_⟩
          have n1_ : Aside0 (w10.heap[gb608]? = some (.cells #[.int .i64 a1_0, .int .u32 a1_1, .int .i64 a1_2, .int .i64 a1_3, .int .i64 a1_4] 32 (0, 0))) := ⟨h1_⟩
          have n2_ : Aside0 (Below w.heap.size w w10) := ⟨h2_⟩
          clear BK607
          clear BK608
          clear HB
          clear h0_ h1_ h2_
          have BK607 := n0_
          have BK608 := n1_
          have HB := n2_
          clear n0_ n1_ n2_
          have hHeld : w10.cell? ⟨gb607, 0, none⟩ = some (.int .i64 a0_0) ∧ w10.cell? ⟨gb607, 1, none⟩ = some (.int .u32 a0_1) ∧ w10.cell? ⟨gb607, 2, none⟩ = some (.int .i64 a0_2) ∧ w10.cell? ⟨gb607, 3, none⟩ = some (.int .i64 a0_3) ∧ w10.cell? ⟨gb607, 4, none⟩ = some (.int .i64 a0_4) ∧ w10.cell? ⟨gb608, 0, none⟩ = some (.int .i64 a1_0) ∧ w10.cell? ⟨gb608, 1, none⟩ = some (.int .u32 a1_1) ∧ w10.cell? ⟨gb608, 2, none⟩ = some (.int .i64 a1_2) ∧ w10.cell? ⟨gb608, 3, none⟩ = some (.int .i64 a1_3) ∧ w10.cell? ⟨gb608, 4, none⟩ = some (.int .i64 a1_4) := hS_
          refine norm_ (a' := ?_) ?_ ?_
          rotate_left
          ·simp only [putAll, Act.put, List.setIfInBounds_toArray, List.set_cons_zero, List.set_cons_succ]
           rfl
          refine three_ (i := 3) (j := 4) (k := 5) (Ni := some 10) (Nj := some 5) (Nk := some 6) #[true, true, true, true, false, false, false, false] #[true, true, true, false, true, false, false, false] #[true, true, true, false, false, true, false, false] rfl rfl rfl rfl rfl rfl (three_of HT_.out (by kernel_rfl)) (by decide) (by decide) (by decide) (fun K hK => ?_) (fun K hK => ?_) (fun K hK => ?_)
          ·skip
           refine goes_ Tryz.func9 (by kernel_rfl) rfl #[.agg #[.int .i64 a1_0, .int .u32 a1_1, .int .i64 a1_2, .int .i64 a1_3, .int .i64 a1_4]] (by rfl) rfl rfl (by (try simp only [List.map_toArray, List.map_cons, List.map_nil]); first | done | rfl | (simp only [List.length_drop, List.length_take]; rfl)) ?_
           with_reducible refine (credenzalaw28_event.calls a1_0 a1_1 a1_2 a1_3 a1_4 t614 t615 t616 t617 t618 _ A4.out).mono ?_
           rintro e w11 ⟨rfl, hb⟩
           refine ⟨_, rfl, ?_⟩
           have n0_ := Aside0.mk (blk_below (g := gb607) (o := .cells #[.int .i64 a0_0, .int .u32 a0_1, .int .i64 a0_2, .int .i64 a0_3, .int .i64 a0_4] 32 (0, 0)) (by (with_reducible repeat (first | refine blk_drewN ?_ _ | refine blk_drew ?_ | refine blk_alloc ?_ _)); exact BK607.out) hb)
           have n1_ := Aside0.mk (blk_below (g := gb608) (o := .cells #[.int .i64 a1_0, .int .u32 a1_1, .int .i64 a1_2, .int .i64 a1_3, .int .i64 a1_4] 32 (0, 0)) (by (with_reducible repeat (first | refine blk_drewN ?_ _ | refine blk_drew ?_ | refine blk_alloc ?_ _)); exact BK608.out) hb)
           have n2_ := Aside0.mk (below_step (by repeat (first | (with_reducible first | exact HB.out | apply below_alloc | apply pw_below_drewN | apply below_drew1 | refine below_set ?_ GE607.out | refine below_set ?_ GE608.out) | exact HB.out)) hb)
           clear BK607
           clear BK608
           clear HB
           have BK607 := n0_
           have BK608 := n1_
           have HB := n2_
           clear n0_ n1_ n2_
           (try clear hb)
           (try clear hb2)
           (try clear hk)
           (try clear hi)
           refine hK.out _ _ ⟨(blk_cell BK607.out 0).trans rfl, (blk_cell BK607.out 1).trans rfl, (blk_cell BK607.out 2).trans rfl, (blk_cell BK607.out 3).trans rfl, (blk_cell BK607.out 4).trans rfl, (blk_cell BK608.out 0).trans rfl, (blk_cell BK608.out 1).trans rfl, (blk_cell BK608.out 2).trans rfl, (blk_cell BK608.out 3).trans rfl, (blk_cell BK608.out 4).trans rfl⟩ (fun hHeld => ?_)
           clear hK K
           refine norm_ (a' := ?_) ?_ ?_
           rotate_left
           ·show Act.put _ (some 10) _ = _
            simp only [Act.put, List.setIfInBounds_toArray, List.set_cons_zero, List.set_cons_succ, i64_w, i32_w]
            rfl
           exact norm_ (by first | (simp only [putAll, Act.put, List.setIfInBounds_toArray, List.set_cons_zero, List.set_cons_succ]; done) | (simp only [putAll, Act.put, List.setIfInBounds_toArray, List.set_cons_zero, List.set_cons_succ]; rfl)) (hJ1_3 () _ ⟨hHeld, (by (with_reducible repeat (first | refine blk_drewN ?_ _ | refine blk_drew ?_ | refine blk_alloc ?_ _)); exact BK607.out), (by (with_reducible repeat (first | refine blk_drewN ?_ _ | refine blk_drew ?_ | refine blk_alloc ?_ _)); exact BK608.out), (by repeat (first | (with_reducible first | exact HB.out | apply below_alloc | apply pw_below_drewN | apply below_drew1 | refine below_set ?_ GE607.out | refine below_set ?_ GE608.out) | exact HB.out))⟩)
          ·skip
           refine box_step ?hg (N := 5) ?hd (cs := #[.int .i64 0, .int .u32 0, .int .i64 0, .int .i64 0, .int .i64 0]) (t := 34) ?hr ?_; (case hd => rfl); (case hg => rfl); (case hr => first | (go_simp; done) | (go_simp; rfl))
           intro gb619 hg w11 hbox hb
           have n0_ := Aside0.mk (blk_below (g := gb607) (o := .cells #[.int .i64 a0_0, .int .u32 a0_1, .int .i64 a0_2, .int .i64 a0_3, .int .i64 a0_4] 32 (0, 0)) (by (with_reducible repeat (first | refine blk_drewN ?_ _ | refine blk_drew ?_ | refine blk_alloc ?_ _)); exact BK607.out) hb)
           have n1_ := Aside0.mk (blk_below (g := gb608) (o := .cells #[.int .i64 a1_0, .int .u32 a1_1, .int .i64 a1_2, .int .i64 a1_3, .int .i64 a1_4] 32 (0, 0)) (by (with_reducible repeat (first | refine blk_drewN ?_ _ | refine blk_drew ?_ | refine blk_alloc ?_ _)); exact BK608.out) hb)
           have n2_ := Aside0.mk (below_step (by repeat (first | (with_reducible first | exact HB.out | apply below_alloc | apply pw_below_drewN | apply below_drew1 | refine below_set ?_ GE607.out | refine below_set ?_ GE608.out) | exact HB.out)) hb)
           have n3_ := Aside0.mk (hbox)
           have n4_ := Aside0.mk ((by rw [hg]; exact (below_size (by repeat (first | (with_reducible first | exact HB.out | apply below_alloc | apply pw_below_drewN | apply below_drew1 | refine below_set ?_ GE607.out | refine below_set ?_ GE608.out) | exact HB.out))) : w.heap.size ≤ gb619))
           have n5_ := Aside0.mk ((by rw [hg]; exact (below_size (by repeat (first | (with_reducible first | exact HB.out | apply below_alloc | apply pw_below_drewN | apply below_drew1 | refine below_set ?_ GE607.out | refine below_set ?_ GE608.out) | exact HB.out))) : w.heap.size ≤ gb619))
           have n6_ := Aside0.mk ((by rw [hg]; exact Nat.ne_of_lt (blk_lt (g := gb607) (o := .cells #[.int .i64 a0_0, .int .u32 a0_1, .int .i64 a0_2, .int .i64 a0_3, .int .i64 a0_4] 32 (0, 0)) (by (with_reducible repeat (first | refine blk_drewN ?_ _ | refine blk_drew ?_ | refine blk_alloc ?_ _)); exact BK607.out)) : gb607 ≠ gb619))
           have n7_ := Aside0.mk ((by rw [hg]; exact Nat.ne_of_gt (blk_lt (g := gb607) (o := .cells #[.int .i64 a0_0, .int .u32 a0_1, .int .i64 a0_2, .int .i64 a0_3, .int .i64 a0_4] 32 (0, 0)) (by (with_reducible repeat (first | refine blk_drewN ?_ _ | refine blk_drew ?_ | refine blk_alloc ?_ _)); exact BK607.out)) : gb619 ≠ gb607))
           have n8_ := Aside0.mk ((by rw [hg]; exact Nat.ne_of_lt (blk_lt (g := gb608) (o := .cells #[.int .i64 a1_0, .int .u32 a1_1, .int .i64 a1_2, .int .i64 a1_3, .int .i64 a1_4] 32 (0, 0)) (by (with_reducible repeat (first | refine blk_drewN ?_ _ | refine blk_drew ?_ | refine blk_alloc ?_ _)); exact BK608.out)) : gb608 ≠ gb619))
           have n9_ := Aside0.mk ((by rw [hg]; exact Nat.ne_of_gt (blk_lt (g := gb608) (o := .cells #[.int .i64 a1_0, .int .u32 a1_1, .int .i64 a1_2, .int .i64 a1_3, .int .i64 a1_4] 32 (0, 0)) (by (with_reducible repeat (first | refine blk_drewN ?_ _ | refine blk_drew ?_ | refine blk_alloc ?_ _)); exact BK608.out)) : gb619 ≠ gb608))
           clear BK607
           clear BK608
           clear HB
           have BK607 := n0_
           have BK608 := n1_
           have HB := n2_
           have BK619 := n3_
           have GW619 := n4_
           have GE619 := n5_
           have NB607_619 := n6_
           have NB619_607 := n7_
           have NB608_619 := n8_
           have NB619_608 := n9_
           clear n0_ n1_ n2_ n3_ n4_ n5_ n6_ n7_ n8_ n9_
           clear hb hbox hg
           refine hK.out _ _ ⟨(blk_cell BK607.out 0).trans rfl, (blk_cell BK607.out 1).trans rfl, (blk_cell BK607.out 2).trans rfl, (blk_cell BK607.out 3).trans rfl, (blk_cell BK607.out 4).trans rfl, (blk_cell BK608.out 0).trans rfl, (blk_cell BK608.out 1).trans rfl, (blk_cell BK608.out 2).trans rfl, (blk_cell BK608.out 3).trans rfl, (blk_cell BK608.out 4).trans rfl⟩ (fun hHeld => ?_)
           clear hK K
           refine norm_ (a' := ?_) ?_ ?_
           rotate_left
           ·show Act.put _ (some 5) _ = _
            simp only [Act.put, List.setIfInBounds_toArray, List.set_cons_zero, List.set_cons_succ, i64_w, i32_w]
            rfl
           exact norm_ (by first | (simp only [putAll, Act.put, List.setIfInBounds_toArray, List.set_cons_zero, List.set_cons_succ]; done) | (simp only [putAll, Act.put, List.setIfInBounds_toArray, List.set_cons_zero, List.set_cons_succ]; rfl)) (hJ1_4 (gb619) _ ⟨hHeld, (by (with_reducible repeat (first | refine blk_drewN ?_ _ | refine blk_drew ?_ | refine blk_alloc ?_ _)); exact BK607.out), (by (with_reducible repeat (first | refine blk_drewN ?_ _ | refine blk_drew ?_ | refine blk_alloc ?_ _)); exact BK608.out), (by (with_reducible repeat (first | refine blk_drewN ?_ _ | refine blk_drew ?_ | refine blk_alloc ?_ _)); exact BK619.out), GW619.out, GE619.out, NB607_619.out, NB619_607.out, NB608_619.out, NB619_608.out, (by repeat (first | (with_reducible first | exact HB.out | apply below_alloc | apply pw_below_drewN | apply below_drew1 | refine below_set ?_ GE607.out | refine below_set ?_ GE608.out | refine below_set ?_ GE619.out) | exact HB.out))⟩)
          ·skip
           refine box_step ?hg (N := 6) ?hd (cs := #[.int .i64 0, .int .u32 0, .int .i64 0, .int .i64 0, .int .i64 0]) (t := 34) ?hr ?_; (case hd => rfl); (case hg => rfl); (case hr => first | (go_simp; done) | (go_simp; rfl))
           intro gb620 hg w11 hbox hb
           have n0_ := Aside0.mk (blk_below (g := gb607) (o := .cells #[.int .i64 a0_0, .int .u32 a0_1, .int .i64 a0_2, .int .i64 a0_3, .int .i64 a0_4] 32 (0, 0)) (by (with_reducible repeat (first | refine blk_drewN ?_ _ | refine blk_drew ?_ | refine blk_alloc ?_ _)); exact BK607.out) hb)
           have n1_ := Aside0.mk (blk_below (g := gb608) (o := .cells #[.int .i64 a1_0, .int .u32 a1_1, .int .i64 a1_2, .int .i64 a1_3, .int .i64 a1_4] 32 (0, 0)) (by (with_reducible repeat (first | refine blk_drewN ?_ _ | refine blk_drew ?_ | refine blk_alloc ?_ _)); exact BK608.out) hb)
           have n2_ := Aside0.mk (below_step (by repeat (first | (with_reducible first | exact HB.out | apply below_alloc | apply pw_below_drewN | apply below_drew1 | refine below_set ?_ GE607.out | refine below_set ?_ GE608.out) | exact HB.out)) hb)
           have n3_ := Aside0.mk (hbox)
           have n4_ := Aside0.mk ((by rw [hg]; exact (below_size (by repeat (first | (with_reducible first | exact HB.out | apply below_alloc | apply pw_below_drewN | apply below_drew1 | refine below_set ?_ GE607.out | refine below_set ?_ GE608.out) | exact HB.out))) : w.heap.size ≤ gb620))
           have n5_ := Aside0.mk ((by rw [hg]; exact (below_size (by repeat (first | (with_reducible first | exact HB.out | apply below_alloc | apply pw_below_drewN | apply below_drew1 | refine below_set ?_ GE607.out | refine below_set ?_ GE608.out) | exact HB.out))) : w.heap.size ≤ gb620))
           have n6_ := Aside0.mk ((by rw [hg]; exact Nat.ne_of_lt (blk_lt (g := gb607) (o := .cells #[.int .i64 a0_0, .int .u32 a0_1, .int .i64 a0_2, .int .i64 a0_3, .int .i64 a0_4] 32 (0, 0)) (by (with_reducible repeat (first | refine blk_drewN ?_ _ | refine blk_drew ?_ | refine blk_alloc ?_ _)); exact BK607.out)) : gb607 ≠ gb620))
           have n7_ := Aside0.mk ((by rw [hg]; exact Nat.ne_of_gt (blk_lt (g := gb607) (o := .cells #[.int .i64 a0_0, .int .u32 a0_1, .int .i64 a0_2, .int .i64 a0_3, .int .i64 a0_4] 32 (0, 0)) (by (with_reducible repeat (first | refine blk_drewN ?_ _ | refine blk_drew ?_ | refine blk_alloc ?_ _)); exact BK607.out)) : gb620 ≠ gb607))
           have n8_ := Aside0.mk ((by rw [hg]; exact Nat.ne_of_lt (blk_lt (g := gb608) (o := .cells #[.int .i64 a1_0, .int .u32 a1_1, .int .i64 a1_2, .int .i64 a1_3, .int .i64 a1_4] 32 (0, 0)) (by (with_reducible repeat (first | refine blk_drewN ?_ _ | refine blk_drew ?_ | refine blk_alloc ?_ _)); exact BK608.out)) : gb608 ≠ gb620))
           have n9_ := Aside0.mk ((by rw [hg]; exact Nat.ne_of_gt (blk_lt (g := gb608) (o := .cells #[.int .i64 a1_0, .int .u32 a1_1, .int .i64 a1_2, .int .i64 a1_3, .int .i64 a1_4] 32 (0, 0)) (by (with_reducible repeat (first | refine blk_drewN ?_ _ | refine blk_drew ?_ | refine blk_alloc ?_ _)); exact BK608.out)) : gb620 ≠ gb608))
           clear BK607
           clear BK608
           clear HB
           have BK607 := n0_
           have BK608 := n1_
           have HB := n2_
           have BK620 := n3_
           have GW620 := n4_
           have GE620 := n5_
           have NB607_620 := n6_
           have NB620_607 := n7_
           have NB608_620 := n8_
           have NB620_608 := n9_
           clear n0_ n1_ n2_ n3_ n4_ n5_ n6_ n7_ n8_ n9_
           clear hb hbox hg
           refine hK.out _ _ ⟨(blk_cell BK607.out 0).trans rfl, (blk_cell BK607.out 1).trans rfl, (blk_cell BK607.out 2).trans rfl, (blk_cell BK607.out 3).trans rfl, (blk_cell BK607.out 4).trans rfl, (blk_cell BK608.out 0).trans rfl, (blk_cell BK608.out 1).trans rfl, (blk_cell BK608.out 2).trans rfl, (blk_cell BK608.out 3).trans rfl, (blk_cell BK608.out 4).trans rfl⟩ (fun hHeld => ?_)
           clear hK K
           refine norm_ (a' := ?_) ?_ ?_
           rotate_left
           ·show Act.put _ (some 6) _ = _
            simp only [Act.put, List.setIfInBounds_toArray, List.set_cons_zero, List.set_cons_succ, i64_w, i32_w]
            rfl
           exact norm_ (by first | (simp only [putAll, Act.put, List.setIfInBounds_toArray, List.set_cons_zero, List.set_cons_succ]; done) | (simp only [putAll, Act.put, List.setIfInBounds_toArray, List.set_cons_zero, List.set_cons_succ]; rfl)) (hJ1_5 (gb620) _ ⟨hHeld, (by (with_reducible repeat (first | refine blk_drewN ?_ _ | refine blk_drew ?_ | refine blk_alloc ?_ _)); exact BK607.out), (by (with_reducible repeat (first | refine blk_drewN ?_ _ | refine blk_drew ?_ | refine blk_alloc ?_ _)); exact BK608.out), (by (with_reducible repeat (first | refine blk_drewN ?_ _ | refine blk_drew ?_ | refine blk_alloc ?_ _)); exact BK620.out), GW620.out, GE620.out, NB607_620.out, NB620_607.out, NB608_620.out, NB620_608.out, (by repeat (first | (with_reducible first | exact HB.out | apply below_alloc | apply pw_below_drewN | apply below_drew1 | refine below_set ?_ GE607.out | refine below_set ?_ GE608.out | refine below_set ?_ GE620.out) | exact HB.out))⟩)
        ·skip
         rintro ⟨gb619, gb620⟩ w11 ⟨hS_, h0_, h1_, h2_, h3_, h4_, h5_, h6_, h7_, h8_, h9_, h10_, h11_, h12_, h13_, h14_, h15_, h16_, h17_, h18_⟩
         have n0_ : Aside0 (w11.heap[gb607]? = some (.cells #[.int .i64 a0_0, .int .u32 a0_1, .int .i64 a0_2, .int .i64 a0_3, .int .i64 a0_4] 32 (0, 0))) := ⟨h0_⟩
         have n1_ : Aside0 (w11.heap[gb608]? = some (.cells #[.int .i64 a1_0, .int .u32 a1_1, .int .i64 a1_2, .int .i64 a1_3, .int .i64 a1_4] 32 (0, 0))) := ⟨h1_⟩
         have n2_ : Aside0 (w11.heap[gb619]? = some (.cells #[.int .i64 0, .int .u32 0, .int .i64 0, .int .i64 0, .int .i64 0] 34 (0, 0))) := ⟨h2_⟩
         have n3_ : Aside0 (w11.heap[gb620]? = some (.cells #[.int .i64 0, .int .u32 0, .int .i64 0, .int .i64 0, .int .i64 0] 34 (0, 0))) := ⟨h3_⟩
         have n4_ : Aside0 (w.heap.size ≤ gb619) := ⟨h4_⟩
         have n5_ : Aside0 (w.heap.size ≤ gb619) := ⟨h5_⟩
         have n6_ : Aside0 (gb607 ≠ gb619) := ⟨h6_⟩
         have n7_ : Aside0 (gb619 ≠ gb607) := ⟨h7_⟩
         have n8_ : Aside0 (gb608 ≠ gb619) := ⟨h8_⟩
         have n9_ : Aside0 (gb619 ≠ gb608) := ⟨h9_⟩
         have n10_ : Aside0 (gb620 ≠ gb619) := ⟨h10_⟩
         have n11_ : Aside0 (gb619 ≠ gb620) := ⟨h11_⟩
         have n12_ : Aside0 (w.heap.size ≤ gb620) := ⟨h12_⟩
         have n13_ : Aside0 (w.heap.size ≤ gb620) := ⟨h13_⟩
         have n14_ : Aside0 (gb607 ≠ gb620) := ⟨h14_⟩
         have n15_ : Aside0 (gb620 ≠ gb607) := ⟨h15_⟩
         have n16_ : Aside0 (gb608 ≠ gb620) := ⟨h16_⟩
         have n17_ : Aside0 (gb620 ≠ gb608) := ⟨h17_⟩
         have n18_ : Aside0 (Below w.heap.size w w11) := ⟨h18_⟩
         clear BK607
         clear BK608
         clear HB
         clear h0_ h1_ h2_ h3_ h4_ h5_ h6_ h7_ h8_ h9_ h10_ h11_ h12_ h13_ h14_ h15_ h16_ h17_ h18_
         have BK607 := n0_
         have BK608 := n1_
         have BK619 := n2_
         have BK620 := n3_
         have GW619 := n4_
         have GE619 := n5_
         have NB607_619 := n6_
         have NB619_607 := n7_
         have NB608_619 := n8_
         have NB619_608 := n9_
         have NB620_619 := n10_
         have NB619_620 := n11_
         have GW620 := n12_
         have GE620 := n13_
         have NB607_620 := n14_
         have NB620_607 := n15_
         have NB608_620 := n16_
         have NB620_608 := n17_
         have HB := n18_
         clear n0_ n1_ n2_ n3_ n4_ n5_ n6_ n7_ n8_ n9_ n10_ n11_ n12_ n13_ n14_ n15_ n16_ n17_ n18_
         have hHeld : w11.cell? ⟨gb607, 0, none⟩ = some (.int .i64 a0_0) ∧ w11.cell? ⟨gb607, 1, none⟩ = some (.int .u32 a0_1) ∧ w11.cell? ⟨gb607, 2, none⟩ = some (.int .i64 a0_2) ∧ w11.cell? ⟨gb607, 3, none⟩ = some (.int .i64 a0_3) ∧ w11.cell? ⟨gb607, 4, none⟩ = some (.int .i64 a0_4) ∧ w11.cell? ⟨gb608, 0, none⟩ = some (.int .i64 a1_0) ∧ w11.cell? ⟨gb608, 1, none⟩ = some (.int .u32 a1_1) ∧ w11.cell? ⟨gb608, 2, none⟩ = some (.int .i64 a1_2) ∧ w11.cell? ⟨gb608, 3, none⟩ = some (.int .i64 a1_3) ∧ w11.cell? ⟨gb608, 4, none⟩ = some (.int .i64 a1_4) := hS_
         refine norm_ (a' := ?_) ?_ ?_
         rotate_left
         ·simp only [putAll, Act.put, List.setIfInBounds_toArray, List.set_cons_zero, List.set_cons_succ]
          rfl
         refine one_ (i := 1) (N := some 8) #[true, true, true, false, true, true, false, false] rfl rfl (one_of HT_.out (by kernel_rfl)) (by decide) (fun K hK => ?_)
         refine goes_ Tryz.func9 (by kernel_rfl) rfl #[.agg #[.int .i64 a0_0, .int .u32 a0_1, .int .i64 a0_2, .int .i64 a0_3, .int .i64 a0_4]] (by rfl) rfl rfl (by (try simp only [List.map_toArray, List.map_cons, List.map_nil]); first | done | rfl | (simp only [List.length_drop, List.length_take]; rfl)) ?_
         with_reducible refine (credenzalaw28_event.calls a0_0 a0_1 a0_2 a0_3 a0_4 t609 t610 t611 t612 t613 _ A3.out).mono ?_
         rintro e w12 ⟨rfl, hb⟩
         refine ⟨_, rfl, ?_⟩
         have n0_ := Aside0.mk (blk_below (g := gb607) (o := .cells #[.int .i64 a0_0, .int .u32 a0_1, .int .i64 a0_2, .int .i64 a0_3, .int .i64 a0_4] 32 (0, 0)) (by (with_reducible repeat (first | refine blk_drewN ?_ _ | refine blk_drew ?_ | refine blk_alloc ?_ _)); exact BK607.out) hb)
         have n1_ := Aside0.mk (blk_below (g := gb608) (o := .cells #[.int .i64 a1_0, .int .u32 a1_1, .int .i64 a1_2, .int .i64 a1_3, .int .i64 a1_4] 32 (0, 0)) (by (with_reducible repeat (first | refine blk_drewN ?_ _ | refine blk_drew ?_ | refine blk_alloc ?_ _)); exact BK608.out) hb)
         have n2_ := Aside0.mk (blk_below (g := gb619) (o := .cells #[.int .i64 0, .int .u32 0, .int .i64 0, .int .i64 0, .int .i64 0] 34 (0, 0)) (by (with_reducible repeat (first | refine blk_drewN ?_ _ | refine blk_drew ?_ | refine blk_alloc ?_ _)); exact BK619.out) hb)
         have n3_ := Aside0.mk (blk_below (g := gb620) (o := .cells #[.int .i64 0, .int .u32 0, .int .i64 0, .int .i64 0, .int .i64 0] 34 (0, 0)) (by (with_reducible repeat (first | refine blk_drewN ?_ _ | refine blk_drew ?_ | refine blk_alloc ?_ _)); exact BK620.out) hb)
         have n4_ := Aside0.mk (below_step (by repeat (first | (with_reducible first | exact HB.out | apply below_alloc | apply pw_below_drewN | apply below_drew1 | refine below_set ?_ GE607.out | refine below_set ?_ GE608.out | refine below_set ?_ GE619.out | refine below_set ?_ GE620.out) | exact HB.out)) hb)
         clear BK607
         clear BK608
         clear BK619
         clear BK620
         clear HB
         have BK607 := n0_
         have BK608 := n1_
         have BK619 := n2_
         have BK620 := n3_
         have HB := n4_
         clear n0_ n1_ n2_ n3_ n4_
         (try clear hb)
         (try clear hb2)
         (try clear hk)
         (try clear hi)
         refine hK.out _ _ ⟨(blk_cell BK607.out 0).trans rfl, (blk_cell BK607.out 1).trans rfl, (blk_cell BK607.out 2).trans rfl, (blk_cell BK607.out 3).trans rfl, (blk_cell BK607.out 4).trans rfl, (blk_cell BK608.out 0).trans rfl, (blk_cell BK608.out 1).trans rfl, (blk_cell BK608.out 2).trans rfl, (blk_cell BK608.out 3).trans rfl, (blk_cell BK608.out 4).trans rfl⟩ (fun hHeld => ?_)
         clear hK K
         refine norm_ (a' := ?_) ?_ ?_
         rotate_left
         ·show Act.put _ (some 8) _ = _
          simp only [Act.put, List.setIfInBounds_toArray, List.set_cons_zero, List.set_cons_succ, i64_w, i32_w]
          rfl
         exact norm_ (by first | (simp only [putAll, Act.put, List.setIfInBounds_toArray, List.set_cons_zero, List.set_cons_succ]; done) | (simp only [putAll, Act.put, List.setIfInBounds_toArray, List.set_cons_zero, List.set_cons_succ]; rfl)) (hJ1_4_5 (gb619, gb620) _ ⟨hHeld, (by (with_reducible repeat (first | refine blk_drewN ?_ _ | refine blk_drew ?_ | refine blk_alloc ?_ _)); exact BK607.out), (by (with_reducible repeat (first | refine blk_drewN ?_ _ | refine blk_drew ?_ | refine blk_alloc ?_ _)); exact BK608.out), (by (with_reducible repeat (first | refine blk_drewN ?_ _ | refine blk_drew ?_ | refine blk_alloc ?_ _)); exact BK619.out), (by (with_reducible repeat (first | refine blk_drewN ?_ _ | refine blk_drew ?_ | refine blk_alloc ?_ _)); exact BK620.out), GW619.out, GE619.out, NB607_619.out, NB619_607.out, NB608_619.out, NB619_608.out, NB620_619.out, NB619_620.out, GW620.out, GE620.out, NB607_620.out, NB620_607.out, NB608_620.out, NB620_608.out, (by repeat (first | (with_reducible first | exact HB.out | apply below_alloc | apply pw_below_drewN | apply below_drew1 | refine below_set ?_ GE607.out | refine below_set ?_ GE608.out | refine below_set ?_ GE619.out | refine below_set ?_ GE620.out) | exact HB.out))⟩)
       ·skip
        rintro gb620 w11 ⟨hS_, h0_, h1_, h2_, h3_, h4_, h5_, h6_, h7_, h8_, h9_⟩
        have n0_ : Aside0 (w11.heap[gb607]? = some (.cells #[.int .i64 a0_0, .int .u32 a0_1, .int .i64 a0_2, .int .i64 a0_3, .int .i64 a0_4] 32 (0, 0))) := ⟨h0_⟩
        have n1_ : Aside0 (w11.heap[gb608]? = some (.cells #[.int .i64 a1_0, .int .u32 a1_1, .int .i64 a1_2, .int .i64 a1_3, .int .i64 a1_4] 32 (0, 0))) := ⟨h1_⟩
        have n2_ : Aside0 (w11.heap[gb620]? = some (.cells #[.int .i64 0, .int .u32 0, .int .i64 0, .int .i64 0, .int .i64 0] 34 (0, 0))) := ⟨h2_⟩
        have n3_ : Aside0 (w.heap.size ≤ gb620) := ⟨h3_⟩
        have n4_ : Aside0 (w.heap.size ≤ gb620) := ⟨h4_⟩
        have n5_ : Aside0 (gb607 ≠ gb620) := ⟨h5_⟩
        have n6_ : Aside0 (gb620 ≠ gb607) := ⟨h6_⟩
        have n7_ : Aside0 (gb608 ≠ gb620) := ⟨h7_⟩
        have n8_ : Aside0 (gb620 ≠ gb608) := ⟨h8_⟩
        have n9_ : Aside0 (Below w.heap.size w w11) := ⟨h9_⟩
        clear BK607
        clear BK608
        clear HB
        clear h0_ h1_ h2_ h3_ h4_ h5_ h6_ h7_ h8_ h9_
        have BK607 := n0_
        have BK608 := n1_
        have BK620 := n2_
        have GW620 := n3_
        have GE620 := n4_
        have NB607_620 := n5_
        have NB620_607 := n6_
        have NB608_620 := n7_
        have NB620_608 := n8_
        have HB := n9_
        clear n0_ n1_ n2_ n3_ n4_ n5_ n6_ n7_ n8_ n9_
        have hHeld : w11.cell? ⟨gb607, 0, none⟩ = some (.int .i64 a0_0) ∧ w11.cell? ⟨gb607, 1, none⟩ = some (.int .u32 a0_1) ∧ w11.cell? ⟨gb607, 2, none⟩ = some (.int .i64 a0_2) ∧ w11.cell? ⟨gb607, 3, none⟩ = some (.int .i64 a0_3) ∧ w11.cell? ⟨gb607, 4, none⟩ = some (.int .i64 a0_4) ∧ w11.cell? ⟨gb608, 0, none⟩ = some (.int .i64 a1_0) ∧ w11.cell? ⟨gb608, 1, none⟩ = some (.int .u32 a1_1) ∧ w11.cell? ⟨gb608, 2, none⟩ = some (.int .i64 a1_2) ∧ w11.cell? ⟨gb608, 3, none⟩ = some (.int .i64 a1_3) ∧ w11.cell? ⟨gb608, 4, none⟩ = some (.int .i64 a1_4) := hS_
        refine norm_ (a' := ?_) ?_ ?_
        rotate_left
        ·simp only [putAll, Act.put, List.setIfInBounds_toArray, List.set_cons_zero, List.set_cons_succ]
         rfl
        refine two_ (i := 3) (j := 4) (Ni := some 10) (Nj := some 5) #[true, true, true, true, false, true, false, false] #[true, true, true, false, true, true, false, false] rfl rfl rfl rfl (two_of HT_.out (by kernel_rfl)) (by decide) (by decide) (fun K hK => ?_) (fun K hK => ?_)
        ·skip
         refine goes_ Tryz.func9 (by kernel_rfl) rfl #[.agg #[.int .i64 a1_0, .int .u32 a1_1, .int .i64 a1_2, .int .i64 a1_3, .int .i64 a1_4]] (by rfl) rfl rfl (by (try simp only [List.map_toArray, List.map_cons, List.map_nil]); first | done | rfl | (simp only [List.length_drop, List.length_take]; rfl)) ?_
         with_reducible refine (credenzalaw28_event.calls a1_0 a1_1 a1_2 a1_3 a1_4 t614 t615 t616 t617 t618 _ A4.out).mono ?_
         rintro e w12 ⟨rfl, hb⟩
         refine ⟨_, rfl, ?_⟩
         have n0_ := Aside0.mk (blk_below (g := gb607) (o := .cells #[.int .i64 a0_0, .int .u32 a0_1, .int .i64 a0_2, .int .i64 a0_3, .int .i64 a0_4] 32 (0, 0)) (by (with_reducible repeat (first | refine blk_drewN ?_ _ | refine blk_drew ?_ | refine blk_alloc ?_ _)); exact BK607.out) hb)
         have n1_ := Aside0.mk (blk_below (g := gb608) (o := .cells #[.int .i64 a1_0, .int .u32 a1_1, .int .i64 a1_2, .int .i64 a1_3, .int .i64 a1_4] 32 (0, 0)) (by (with_reducible repeat (first | refine blk_drewN ?_ _ | refine blk_drew ?_ | refine blk_alloc ?_ _)); exact BK608.out) hb)
         have n2_ := Aside0.mk (blk_below (g := gb620) (o := .cells #[.int .i64 0, .int .u32 0, .int .i64 0, .int .i64 0, .int .i64 0] 34 (0, 0)) (by (with_reducible repeat (first | refine blk_drewN ?_ _ | refine blk_drew ?_ | refine blk_alloc ?_ _)); exact BK620.out) hb)
         have n3_ := Aside0.mk (below_step (by repeat (first | (with_reducible first | exact HB.out | apply below_alloc | apply pw_below_drewN | apply below_drew1 | refine below_set ?_ GE607.out | refine below_set ?_ GE608.out | refine below_set ?_ GE620.out) | exact HB.out)) hb)
         clear BK607
         clear BK608
         clear BK620
         clear HB
         have BK607 := n0_
         have BK608 := n1_
         have BK620 := n2_
         have HB := n3_
         clear n0_ n1_ n2_ n3_
         (try clear hb)
         (try clear hb2)
         (try clear hk)
         (try clear hi)
         refine hK.out _ _ ⟨(blk_cell BK607.out 0).trans rfl, (blk_cell BK607.out 1).trans rfl, (blk_cell BK607.out 2).trans rfl, (blk_cell BK607.out 3).trans rfl, (blk_cell BK607.out 4).trans rfl, (blk_cell BK608.out 0).trans rfl, (blk_cell BK608.out 1).trans rfl, (blk_cell BK608.out 2).trans rfl, (blk_cell BK608.out 3).trans rfl, (blk_cell BK608.out 4).trans rfl⟩ (fun hHeld => ?_)
         clear hK K
         refine norm_ (a' := ?_) ?_ ?_
         rotate_left
         ·show Act.put _ (some 10) _ = _
          simp only [Act.put, List.setIfInBounds_toArray, List.set_cons_zero, List.set_cons_succ, i64_w, i32_w]
          rfl
         exact norm_ (by first | (simp only [putAll, Act.put, List.setIfInBounds_toArray, List.set_cons_zero, List.set_cons_succ]; done) | (simp only [putAll, Act.put, List.setIfInBounds_toArray, List.set_cons_zero, List.set_cons_succ]; rfl)) (hJ1_3_5 (gb620) _ ⟨hHeld, (by (with_reducible repeat (first | refine blk_drewN ?_ _ | refine blk_drew ?_ | refine blk_alloc ?_ _)); exact BK607.out), (by (with_reducible repeat (first | refine blk_drewN ?_ _ | refine blk_drew ?_ | refine blk_alloc ?_ _)); exact BK608.out), (by (with_reducible repeat (first | refine blk_drewN ?_ _ | refine blk_drew ?_ | refine blk_alloc ?_ _)); exact BK620.out), GW620.out, GE620.out, NB607_620.out, NB620_607.out, NB608_620.out, NB620_608.out, (by repeat (first | (with_reducible first | exact HB.out | apply below_alloc | apply pw_below_drewN | apply below_drew1 | refine below_set ?_ GE607.out | refine below_set ?_ GE608.out | refine below_set ?_ GE620.out) | exact HB.out))⟩)
        ·skip
         refine box_step ?hg (N := 5) ?hd (cs := #[.int .i64 0, .int .u32 0, .int .i64 0, .int .i64 0, .int .i64 0]) (t := 34) ?hr ?_; (case hd => rfl); (case hg => rfl); (case hr => first | (go_simp; done) | (go_simp; rfl))
         intro gb619 hg w12 hbox hb
         have n0_ := Aside0.mk (blk_below (g := gb607) (o := .cells #[.int .i64 a0_0, .int .u32 a0_1, .int .i64 a0_2, .int .i64 a0_3, .int .i64 a0_4] 32 (0, 0)) (by (with_reducible repeat (first | refine blk_drewN ?_ _ | refine blk_drew ?_ | refine blk_alloc ?_ _)); exact BK607.out) hb)
         have n1_ := Aside0.mk (blk_below (g := gb608) (o := .cells #[.int .i64 a1_0, .int .u32 a1_1, .int .i64 a1_2, .int .i64 a1_3, .int .i64 a1_4] 32 (0, 0)) (by (with_reducible repeat (first | refine blk_drewN ?_ _ | refine blk_drew ?_ | refine blk_alloc ?_ _)); exact BK608.out) hb)
         have n2_ := Aside0.mk (blk_below (g := gb620) (o := .cells #[.int .i64 0, .int .u32 0, .int .i64 0, .int .i64 0, .int .i64 0] 34 (0, 0)) (by (with_reducible repeat (first | refine blk_drewN ?_ _ | refine blk_drew ?_ | refine blk_alloc ?_ _)); exact BK620.out) hb)
         have n3_ := Aside0.mk (below_step (by repeat (first | (with_reducible first | exact HB.out | apply below_alloc | apply pw_below_drewN | apply below_drew1 | refine below_set ?_ GE607.out | refine below_set ?_ GE608.out | refine below_set ?_ GE620.out) | exact HB.out)) hb)
         have n4_ := Aside0.mk (hbox)
         have n5_ := Aside0.mk ((by rw [hg]; exact (below_size (by repeat (first | (with_reducible first | exact HB.out | apply below_alloc | apply pw_below_drewN | apply below_drew1 | refine below_set ?_ GE607.out | refine below_set ?_ GE608.out | refine below_set ?_ GE620.out) | exact HB.out))) : w.heap.size ≤ gb619))
         have n6_ := Aside0.mk ((by rw [hg]; exact (below_size (by repeat (first | (with_reducible first | exact HB.out | apply below_alloc | apply pw_below_drewN | apply below_drew1 | refine below_set ?_ GE607.out | refine below_set ?_ GE608.out | refine below_set ?_ GE620.out) | exact HB.out))) : w.heap.size ≤ gb619))
         have n7_ := Aside0.mk ((by rw [hg]; exact Nat.ne_of_lt (blk_lt (g := gb607) (o := .cells #[.int .i64 a0_0, .int .u32 a0_1, .int .i64 a0_2, .int .i64 a0_3, .int .i64 a0_4] 32 (0, 0)) (by (with_reducible repeat (first | refine blk_drewN ?_ _ | refine blk_drew ?_ | refine blk_alloc ?_ _)); exact BK607.out)) : gb607 ≠ gb619))
         have n8_ := Aside0.mk ((by rw [hg]; exact Nat.ne_of_gt (blk_lt (g := gb607) (o := .cells #[.int .i64 a0_0, .int .u32 a0_1, .int .i64 a0_2, .int .i64 a0_3, .int .i64 a0_4] 32 (0, 0)) (by (with_reducible repeat (first | refine blk_drewN ?_ _ | refine blk_drew ?_ | refine blk_alloc ?_ _)); exact BK607.out)) : gb619 ≠ gb607))
         have n9_ := Aside0.mk ((by rw [hg]; exact Nat.ne_of_lt (blk_lt (g := gb608) (o := .cells #[.int .i64 a1_0, .int .u32 a1_1, .int .i64 a1_2, .int .i64 a1_3, .int .i64 a1_4] 32 (0, 0)) (by (with_reducible repeat (first | refine blk_drewN ?_ _ | refine blk_drew ?_ | refine blk_alloc ?_ _)); exact BK608.out)) : gb608 ≠ gb619))
         have n10_ := Aside0.mk ((by rw [hg]; exact Nat.ne_of_gt (blk_lt (g := gb608) (o := .cells #[.int .i64 a1_0, .int .u32 a1_1, .int .i64 a1_2, .int .i64 a1_3, .int .i64 a1_4] 32 (0, 0)) (by (with_reducible repeat (first | refine blk_drewN ?_ _ | refine blk_drew ?_ | refine blk_alloc ?_ _)); exact BK608.out)) : gb619 ≠ gb608))
         have n11_ := Aside0.mk ((by rw [hg]; exact Nat.ne_of_lt (blk_lt (g := gb620) (o := .cells #[.int .i64 0, .int .u32 0, .int .i64 0, .int .i64 0, .int .i64 0] 34 (0, 0)) (by (with_reducible repeat (first | refine blk_drewN ?_ _ | refine blk_drew ?_ | refine blk_alloc ?_ _)); exact BK620.out)) : gb620 ≠ gb619))
         have n12_ := Aside0.mk ((by rw [hg]; exact Nat.ne_of_gt (blk_lt (g := gb620) (o := .cells #[.int .i64 0, .int .u32 0, .int .i64 0, .int .i64 0, .int .i64 0] 34 (0, 0)) (by (with_reducible repeat (first | refine blk_drewN ?_ _ | refine blk_drew ?_ | refine blk_alloc ?_ _)); exact BK620.out)) : gb619 ≠ gb620))
         clear BK607
         clear BK608
         clear BK620
         clear HB
         have BK607 := n0_
         have BK608 := n1_
         have BK620 := n2_
         have HB := n3_
         have BK619 := n4_
         have GW619 := n5_
         have GE619 := n6_
         have NB607_619 := n7_
         have NB619_607 := n8_
         have NB608_619 := n9_
         have NB619_608 := n10_
         have NB620_619 := n11_
         have NB619_620 := n12_
         clear n0_ n1_ n2_ n3_ n4_ n5_ n6_ n7_ n8_ n9_ n10_ n11_ n12_
         clear hb hbox hg
         refine hK.out _ _ ⟨(blk_cell BK607.out 0).trans rfl, (blk_cell BK607.out 1).trans rfl, (blk_cell BK607.out 2).trans rfl, (blk_cell BK607.out 3).trans rfl, (blk_cell BK607.out 4).trans rfl, (blk_cell BK608.out 0).trans rfl, (blk_cell BK608.out 1).trans rfl, (blk_cell BK608.out 2).trans rfl, (blk_cell BK608.out 3).trans rfl, (blk_cell BK608.out 4).trans rfl⟩ (fun hHeld => ?_)
         clear hK K
         refine norm_ (a' := ?_) ?_ ?_
         rotate_left
         ·show Act.put _ (some 5) _ = _
          simp only [Act.put, List.setIfInBounds_toArray, List.set_cons_zero, List.set_cons_succ, i64_w, i32_w]
          rfl
         exact norm_ (by first | (simp only [putAll, Act.put, List.setIfInBounds_toArray, List.set_cons_zero, List.set_cons_succ]; done) | (simp only [putAll, Act.put, List.setIfInBounds_toArray, List.set_cons_zero, List.set_cons_succ]; rfl)) (hJ1_4_5 (gb619, gb620) _ ⟨hHeld, (by (with_reducible repeat (first | refine blk_drewN ?_ _ | refine blk_drew ?_ | refine blk_alloc ?_ _)); exact BK607.out), (by (with_reducible repeat (first | refine blk_drewN ?_ _ | refine blk_drew ?_ | refine blk_alloc ?_ _)); exact BK608.out), (by (with_reducible repeat (first | refine blk_drewN ?_ _ | refine blk_drew ?_ | refine blk_alloc ?_ _)); exact BK619.out), (by (with_reducible repeat (first | refine blk_drewN ?_ _ | refine blk_drew ?_ | refine blk_alloc ?_ _)); exact BK620.out), GW619.out, GE619.out, NB607_619.out, NB619_607.out, NB608_619.out, NB619_608.out, NB620_619.out, NB619_620.out, GW620.out, GE620.out, NB607_620.out, NB620_607.out, NB608_620.out, NB620_608.out, (by repeat (first | (with_reducible first | exact HB.out | apply below_alloc | apply pw_below_drewN | apply below_drew1 | refine below_set ?_ GE607.out | refine below_set ?_ GE608.out | refine below_set ?_ GE620.out | refine below_set ?_ GE619.out) | exact HB.out))⟩)
      ·skip
       rintro gb619 w11 ⟨hS_, h0_, h1_, h2_, h3_, h4_, h5_, h6_, h7_, h8_, h9_⟩
       have n0_ : Aside0 (w11.heap[gb607]? = some (.cells #[.int .i64 a0_0, .int .u32 a0_1, .int .i64 a0_2, .int .i64 a0_3, .int .i64 a0_4] 32 (0, 0))) := ⟨h0_⟩
       have n1_ : Aside0 (w11.heap[gb608]? = some (.cells #[.int .i64 a1_0, .int .u32 a1_1, .int .i64 a1_2, .int .i64 a1_3, .int .i64 a1_4] 32 (0, 0))) := ⟨h1_⟩
       have n2_ : Aside0 (w11.heap[gb619]? = some (.cells #[.int .i64 0, .int .u32 0, .int .i64 0, .int .i64 0, .int .i64 0] 34 (0, 0))) := ⟨h2_⟩
       have n3_ : Aside0 (w.heap.size ≤ gb619) := ⟨h3_⟩
       have n4_ : Aside0 (w.heap.size ≤ gb619) := ⟨h4_⟩
       have n5_ : Aside0 (gb607 ≠ gb619) := ⟨h5_⟩
       have n6_ : Aside0 (gb619 ≠ gb607) := ⟨h6_⟩
       have n7_ : Aside0 (gb608 ≠ gb619) := ⟨h7_⟩
       have n8_ : Aside0 (gb619 ≠ gb608) := ⟨h8_⟩
       have n9_ : Aside0 (Below w.heap.size w w11) := ⟨h9_⟩
       clear BK607
       clear BK608
       clear HB
       clear h0_ h1_ h2_ h3_ h4_ h5_ h6_ h7_ h8_ h9_
       have BK607 := n0_
       have BK608 := n1_
       have BK619 := n2_
       have GW619 := n3_
       have GE619 := n4_
       have NB607_619 := n5_
       have NB619_607 := n6_
       have NB608_619 := n7_
       have NB619_608 := n8_
       have HB := n9_
       clear n0_ n1_ n2_ n3_ n4_ n5_ n6_ n7_ n8_ n9_
       have hHeld : w11.cell? ⟨gb607, 0, none⟩ = some (.int .i64 a0_0) ∧ w11.cell? ⟨gb607, 1, none⟩ = some (.int .u32 a0_1) ∧ w11.cell? ⟨gb607, 2, none⟩ = some (.int .i64 a0_2) ∧ w11.cell? ⟨gb607, 3, none⟩ = some (.int .i64 a0_3) ∧ w11.cell? ⟨gb607, 4, none⟩ = some (.int .i64 a0_4) ∧ w11.cell? ⟨gb608, 0, none⟩ = some (.int .i64 a1_0) ∧ w11.cell? ⟨gb608, 1, none⟩ = some (.int .u32 a1_1) ∧ w11.cell? ⟨gb608, 2, none⟩ = some (.int .i64 a1_2) ∧ w11.cell? ⟨gb608, 3, none⟩ = some (.int .i64 a1_3) ∧ w11.cell? ⟨gb608, 4, none⟩ = some (.int .i64 a1_4) := hS_
       refine norm_ (a' := ?_) ?_ ?_
       rotate_left
       ·simp only [putAll, Act.put, List.setIfInBounds_toArray, List.set_cons_zero, List.set_cons_succ]
        rfl
       refine two_ (i := 3) (j := 5) (Ni := some 10) (Nj := some 6) #[true, true, true, true, true, false, false, false] #[true, true, true, false, true, true, false, false] rfl rfl rfl rfl (two_of HT_.out (by kernel_rfl)) (by decide) (by decide) (fun K hK => ?_) (fun K hK => ?_)
       ·skip
        refine goes_ Tryz.func9 (by kernel_rfl) rfl #[.agg #[.int .i64 a1_0, .int .u32 a1_1, .int .i64 a1_2, .int .i64 a1_3, .int .i64 a1_4]] (by rfl) rfl rfl (by (try simp only [List.map_toArray, List.map_cons, List.map_nil]); first | done | rfl | (simp only [List.length_drop, List.length_take]; rfl)) ?_
        with_reducible refine (credenzalaw28_event.calls a1_0 a1_1 a1_2 a1_3 a1_4 t614 t615 t616 t617 t618 _ A4.out).mono ?_
        rintro e w12 ⟨rfl, hb⟩
        refine ⟨_, rfl, ?_⟩
        have n0_ := Aside0.mk (blk_below (g := gb607) (o := .cells #[.int .i64 a0_0, .int .u32 a0_1, .int .i64 a0_2, .int .i64 a0_3, .int .i64 a0_4] 32 (0, 0)) (by (with_reducible repeat (first | refine blk_drewN ?_ _ | refine blk_drew ?_ | refine blk_alloc ?_ _)); exact BK607.out) hb)
        have n1_ := Aside0.mk (blk_below (g := gb608) (o := .cells #[.int .i64 a1_0, .int .u32 a1_1, .int .i64 a1_2, .int .i64 a1_3, .int .i64 a1_4] 32 (0, 0)) (by (with_reducible repeat (first | refine blk_drewN ?_ _ | refine blk_drew ?_ | refine blk_alloc ?_ _)); exact BK608.out) hb)
        have n2_ := Aside0.mk (blk_below (g := gb619) (o := .cells #[.int .i64 0, .int .u32 0, .int .i64 0, .int .i64 0, .int .i64 0] 34 (0, 0)) (by (with_reducible repeat (first | refine blk_drewN ?_ _ | refine blk_drew ?_ | refine blk_alloc ?_ _)); exact BK619.out) hb)
        have n3_ := Aside0.mk (below_step (by repeat (first | (with_reducible first | exact HB.out | apply below_alloc | apply pw_below_drewN | apply below_drew1 | refine below_set ?_ GE607.out | refine below_set ?_ GE608.out | refine below_set ?_ GE619.out) | exact HB.out)) hb)
        clear BK607
        clear BK608
        clear BK619
        clear HB
        have BK607 := n0_
        have BK608 := n1_
        have BK619 := n2_
        have HB := n3_
        clear n0_ n1_ n2_ n3_
        (try clear hb)
        (try clear hb2)
        (try clear hk)
        (try clear hi)
        refine hK.out _ _ ⟨(blk_cell BK607.out 0).trans rfl, (blk_cell BK607.out 1).trans rfl, (blk_cell BK607.out 2).trans rfl, (blk_cell BK607.out 3).trans rfl, (blk_cell BK607.out 4).trans rfl, (blk_cell BK608.out 0).trans rfl, (blk_cell BK608.out 1).trans rfl, (blk_cell BK608.out 2).trans rfl, (blk_cell BK608.out 3).trans rfl, (blk_cell BK608.out 4).trans rfl⟩ (fun hHeld => ?_)
        clear hK K
        refine norm_ (a' := ?_) ?_ ?_
        rotate_left
        ·show Act.put _ (some 10) _ = _
         simp only [Act.put, List.setIfInBounds_toArray, List.set_cons_zero, List.set_cons_succ, i64_w, i32_w]
         rfl
        exact norm_ (by first | (simp only [putAll, Act.put, List.setIfInBounds_toArray, List.set_cons_zero, List.set_cons_succ]; done) | (simp only [putAll, Act.put, List.setIfInBounds_toArray, List.set_cons_zero, List.set_cons_succ]; rfl)) (hJ1_3_4 (gb619) _ ⟨hHeld, (by (with_reducible repeat (first | refine blk_drewN ?_ _ | refine blk_drew ?_ | refine blk_alloc ?_ _)); exact BK607.out), (by (with_reducible repeat (first | refine blk_drewN ?_ _ | refine blk_drew ?_ | refine blk_alloc ?_ _)); exact BK608.out), (by (with_reducible repeat (first | refine blk_drewN ?_ _ | refine blk_drew ?_ | refine blk_alloc ?_ _)); exact BK619.out), GW619.out, GE619.out, NB607_619.out, NB619_607.out, NB608_619.out, NB619_608.out, (by repeat (first | (with_reducible first | exact HB.out | apply below_alloc | apply pw_below_drewN | apply below_drew1 | refine below_set ?_ GE607.out | refine below_set ?_ GE608.out | refine below_set ?_ GE619.out) | exact HB.out))⟩)
       ·skip
        refine box_step ?hg (N := 6) ?hd (cs := #[.int .i64 0, .int .u32 0, .int .i64 0, .int .i64 0, .int .i64 0]) (t := 34) ?hr ?_; (case hd => rfl); (case hg => rfl); (case hr => first | (go_simp; done) | (go_simp; rfl))
        intro gb620 hg w12 hbox hb
        have n0_ := Aside0.mk (blk_below (g := gb607) (o := .cells #[.int .i64 a0_0, .int .u32 a0_1, .int .i64 a0_2, .int .i64 a0_3, .int .i64 a0_4] 32 (0, 0)) (by (with_reducible repeat (first | refine blk_drewN ?_ _ | refine blk_drew ?_ | refine blk_alloc ?_ _)); exact BK607.out) hb)
        have n1_ := Aside0.mk (blk_below (g := gb608) (o := .cells #[.int .i64 a1_0, .int .u32 a1_1, .int .i64 a1_2, .int .i64 a1_3, .int .i64 a1_4] 32 (0, 0)) (by (with_reducible repeat (first | refine blk_drewN ?_ _ | refine blk_drew ?_ | refine blk_alloc ?_ _)); exact BK608.out) hb)
        have n2_ := Aside0.mk (blk_below (g := gb619) (o := .cells #[.int .i64 0, .int .u32 0, .int .i64 0, .int .i64 0, .int .i64 0] 34 (0, 0)) (by (with_reducible repeat (first | refine blk_drewN ?_ _ | refine blk_drew ?_ | refine blk_alloc ?_ _)); exact BK619.out) hb)
        have n3_ := Aside0.mk (below_step (by repeat (first | (with_reducible first | exact HB.out | apply below_alloc | apply pw_below_drewN | apply below_drew1 | refine below_set ?_ GE607.out | refine below_set ?_ GE608.out | refine below_set ?_ GE619.out) | exact HB.out)) hb)
        have n4_ := Aside0.mk (hbox)
        have n5_ := Aside0.mk ((by rw [hg]; exact (below_size (by repeat (first | (with_reducible first | exact HB.out | apply below_alloc | apply pw_below_drewN | apply below_drew1 | refine below_set ?_ GE607.out | refine below_set ?_ GE608.out | refine below_set ?_ GE619.out) | exact HB.out))) : w.heap.size ≤ gb620))
        have n6_ := Aside0.mk ((by rw [hg]; exact (below_size (by repeat (first | (with_reducible first | exact HB.out | apply below_alloc | apply pw_below_drewN | apply below_drew1 | refine below_set ?_ GE607.out | refine below_set ?_ GE608.out | refine below_set ?_ GE619.out) | exact HB.out))) : w.heap.size ≤ gb620))
        have n7_ := Aside0.mk ((by rw [hg]; exact Nat.ne_of_lt (blk_lt (g := gb607) (o := .cells #[.int .i64 a0_0, .int .u32 a0_1, .int .i64 a0_2, .int .i64 a0_3, .int .i64 a0_4] 32 (0, 0)) (by (with_reducible repeat (first | refine blk_drewN ?_ _ | refine blk_drew ?_ | refine blk_alloc ?_ _)); exact BK607.out)) : gb607 ≠ gb620))
        have n8_ := Aside0.mk ((by rw [hg]; exact Nat.ne_of_gt (blk_lt (g := gb607) (o := .cells #[.int .i64 a0_0, .int .u32 a0_1, .int .i64 a0_2, .int .i64 a0_3, .int .i64 a0_4] 32 (0, 0)) (by (with_reducible repeat (first | refine blk_drewN ?_ _ | refine blk_drew ?_ | refine blk_alloc ?_ _)); exact BK607.out)) : gb620 ≠ gb607))
        have n9_ := Aside0.mk ((by rw [hg]; exact Nat.ne_of_lt (blk_lt (g := gb608) (o := .cells #[.int .i64 a1_0, .int .u32 a1_1, .int .i64 a1_2, .int .i64 a1_3, .int .i64 a1_4] 32 (0, 0)) (by (with_reducible repeat (first | refine blk_drewN ?_ _ | refine blk_drew ?_ | refine blk_alloc ?_ _)); exact BK608.out)) : gb608 ≠ gb620))
        have n10_ := Aside0.mk ((by rw [hg]; exact Nat.ne_of_gt (blk_lt (g := gb608) (o := .cells #[.int .i64 a1_0, .int .u32 a1_1, .int .i64 a1_2, .int .i64 a1_3, .int .i64 a1_4] 32 (0, 0)) (by (with_reducible repeat (first | refine blk_drewN ?_ _ | refine blk_drew ?_ | refine blk_alloc ?_ _)); exact BK608.out)) : gb620 ≠ gb608))
        have n11_ := Aside0.mk ((by rw [hg]; exact Nat.ne_of_lt (blk_lt (g := gb619) (o := .cells #[.int .i64 0, .int .u32 0, .int .i64 0, .int .i64 0, .int .i64 0] 34 (0, 0)) (by (with_reducible repeat (first | refine blk_drewN ?_ _ | refine blk_drew ?_ | refine blk_alloc ?_ _)); exact BK619.out)) : gb619 ≠ gb620))
        have n12_ := Aside0.mk ((by rw [hg]; exact Nat.ne_of_gt (blk_lt (g := gb619) (o := .cells #[.int .i64 0, .int .u32 0, .int .i64 0, .int .i64 0, .int .i64 0] 34 (0, 0)) (by (with_reducible repeat (first | refine blk_drewN ?_ _ | refine blk_drew ?_ | refine blk_alloc ?_ _)); exact BK619.out)) : gb620 ≠ gb619))
        clear BK607
        clear BK608
        clear BK619
        clear HB
        have BK607 := n0_
        have BK608 := n1_
        have BK619 := n2_
        have HB := n3_
        have BK620 := n4_
        have GW620 := n5_
        have GE620 := n6_
        have NB607_620 := n7_
        have NB620_607 := n8_
        have NB608_620 := n9_
        have NB620_608 := n10_
        have NB619_620 := n11_
        have NB620_619 := n12_
        clear n0_ n1_ n2_ n3_ n4_ n5_ n6_ n7_ n8_ n9_ n10_ n11_ n12_
        clear hb hbox hg
        refine hK.out _ _ ⟨(blk_cell BK607.out 0).trans rfl, (blk_cell BK607.out 1).trans rfl, (blk_cell BK607.out 2).trans rfl, (blk_cell BK607.out 3).trans rfl, (blk_cell BK607.out 4).trans rfl, (blk_cell BK608.out 0).trans rfl, (blk_cell BK608.out 1).trans rfl, (blk_cell BK608.out 2).trans rfl, (blk_cell BK608.out 3).trans rfl, (blk_cell BK608.out 4).trans rfl⟩ (fun hHeld => ?_)
        clear hK K
        refine norm_ (a' := ?_) ?_ ?_
        rotate_left
        ·show Act.put _ (some 6) _ = _
         simp only [Act.put, List.setIfInBounds_toArray, List.set_cons_zero, List.set_cons_succ, i64_w, i32_w]
         rfl
        exact norm_ (by first | (simp only [putAll, Act.put, List.setIfInBounds_toArray, List.set_cons_zero, List.set_cons_succ]; done) | (simp only [putAll, Act.put, List.setIfInBounds_toArray, List.set_cons_zero, List.set_cons_succ]; rfl)) (hJ1_4_5 (gb619, gb620) _ ⟨hHeld, (by (with_reducible repeat (first | refine blk_drewN ?_ _ | refine blk_drew ?_ | refine blk_alloc ?_ _)); exact BK607.out), (by (with_reducible repeat (first | refine blk_drewN ?_ _ | refine blk_drew ?_ | refine blk_alloc ?_ _)); exact BK608.out), (by (with_reducible repeat (first | refine blk_drewN ?_ _ | refine blk_drew ?_ | refine blk_alloc ?_ _)); exact BK619.out), (by (with_reducible repeat (first | refine blk_drewN ?_ _ | refine blk_drew ?_ | refine blk_alloc ?_ _)); exact BK620.out), GW619.out, GE619.out, NB607_619.out, NB619_607.out, NB608_619.out, NB619_608.out, NB620_619.out, NB619_620.out, GW620.out, GE620.out, NB607_620.out, NB620_607.out, NB608_620.out, NB620_608.out, (by repeat (first | (with_reducible first | exact HB.out | apply below_alloc | apply pw_below_drewN | apply below_drew1 | refine below_set ?_ GE607.out | refine below_set ?_ GE608.out | refine below_set ?_ GE619.out | refine below_set ?_ GE620.out) | exact HB.out))⟩)
     ·skip
      rintro _ w11 ⟨hS_, h0_, h1_, h2_⟩
      have n0_ : Aside0 (w11.heap[gb607]? = some (.cells #[.int .i64 a0_0, .int .u32 a0_1, .int .i64 a0_2, .int .i64 a0_3, .int .i64 a0_4] 32 (0, 0))) := ⟨h0_⟩
      have n1_ : Aside0 (w11.heap[gb608]? = some (.cells #[.int .i64 a1_0, .int .u32 a1_1, .int .i64 a1_2, .int .i64 a1_3, .int .i64 a1_4] 32 (0, 0))) := ⟨h1_⟩
      have n2_ : Aside0 (Below w.heap.size w w11) := ⟨h2_⟩
      clear BK607
      clear BK608
      clear HB
      clear h0_ h1_ h2_
      have BK607 := n0_
      have BK608 := n1_
      have HB := n2_
      clear n0_ n1_ n2_
      have hHeld : w11.cell? ⟨gb607, 0, none⟩ = some (.int .i64 a0_0) ∧ w11.cell? ⟨gb607, 1, none⟩ = some (.int .u32 a0_1) ∧ w11.cell? ⟨gb607, 2, none⟩ = some (.int .i64 a0_2) ∧ w11.cell? ⟨gb607, 3, none⟩ = some (.int .i64 a0_3) ∧ w11.cell? ⟨gb607, 4, none⟩ = some (.int .i64 a0_4) ∧ w11.cell? ⟨gb608, 0, none⟩ = some (.int .i64 a1_0) ∧ w11.cell? ⟨gb608, 1, none⟩ = some (.int .u32 a1_1) ∧ w11.cell? ⟨gb608, 2, none⟩ = some (.int .i64 a1_2) ∧ w11.cell? ⟨gb608, 3, none⟩ = some (.int .i64 a1_3) ∧ w11.cell? ⟨gb608, 4, none⟩ = some (.int .i64 a1_4) := hS_
      refine norm_ (a' := ?_) ?_ ?_
      rotate_left
      ·simp only [putAll, Act.put, List.setIfInBounds_toArray, List.set_cons_zero, List.set_cons_succ]
       rfl
      refine two_ (i := 4) (j := 5) (Ni := some 5) (Nj := some 6) #[true, true, true, true, true, false, false, false] #[true, true, true, true, false, true, false, false] rfl rfl rfl rfl (two_of HT_.out (by kernel_rfl)) (by decide) (by decide) (fun K hK => ?_) (fun K hK => ?_)
      ·skip
       refine box_step ?hg (N := 5) ?hd (cs := #[.int .i64 0, .int .u32 0, .int .i64 0, .int .i64 0, .int .i64 0]) (t := 34) ?hr ?_; (case hd => rfl); (case hg => rfl); (case hr => first | (go_simp; done) | (go_simp; rfl))
       intro gb619 hg w12 hbox hb
       have n0_ := Aside0.mk (blk_below (g := gb607) (o := .cells #[.int .i64 a0_0, .int .u32 a0_1, .int .i64 a0_2, .int .i64 a0_3, .int .i64 a0_4] 32 (0, 0)) (by (with_reducible repeat (first | refine blk_drewN ?_ _ | refine blk_drew ?_ | refine blk_alloc ?_ _)); exact BK607.out) hb)
       have n1_ := Aside0.mk (blk_below (g := gb608) (o := .cells #[.int .i64 a1_0, .int .u32 a1_1, .int .i64 a1_2, .int .i64 a1_3, .int .i64 a1_4] 32 (0, 0)) (by (with_reducible repeat (first | refine blk_drewN ?_ _ | refine blk_drew ?_ | refine blk_alloc ?_ _)); exact BK608.out) hb)
       have n2_ := Aside0.mk (below_step (by repeat (first | (with_reducible first | exact HB.out | apply below_alloc | apply pw_below_drewN | apply below_drew1 | refine below_set ?_ GE607.out | refine below_set ?_ GE608.out) | exact HB.out)) hb)
       have n3_ := Aside0.mk (hbox)
       have n4_ := Aside0.mk ((by rw [hg]; exact (below_size (by repeat (first | (with_reducible first | exact HB.out | apply below_alloc | apply pw_below_drewN | apply below_drew1 | refine below_set ?_ GE607.out | refine below_set ?_ GE608.out) | exact HB.out))) : w.heap.size ≤ gb619))
       have n5_ := Aside0.mk ((by rw [hg]; exact (below_size (by repeat (first | (with_reducible first | exact HB.out | apply below_alloc | apply pw_below_drewN | apply below_drew1 | refine below_set ?_ GE607.out | refine below_set ?_ GE608.out) | exact HB.out))) : w.heap.size ≤ gb619))
       have n6_ := Aside0.mk ((by rw [hg]; exact Nat.ne_of_lt (blk_lt (g := gb607) (o := .cells #[.int .i64 a0_0, .int .u32 a0_1, .int .i64 a0_2, .int .i64 a0_3, .int .i64 a0_4] 32 (0, 0)) (by (with_reducible repeat (first | refine blk_drewN ?_ _ | refine blk_drew ?_ | refine blk_alloc ?_ _)); exact BK607.out)) : gb607 ≠ gb619))
       have n7_ := Aside0.mk ((by rw [hg]; exact Nat.ne_of_gt (blk_lt (g := gb607) (o := .cells #[.int .i64 a0_0, .int .u32 a0_1, .int .i64 a0_2, .int .i64 a0_3, .int .i64 a0_4] 32 (0, 0)) (by (with_reducible repeat (first | refine blk_drewN ?_ _ | refine blk_drew ?_ | refine blk_alloc ?_ _)); exact BK607.out)) : gb619 ≠ gb607))
       have n8_ := Aside0.mk ((by rw [hg]; exact Nat.ne_of_lt (blk_lt (g := gb608) (o := .cells #[.int .i64 a1_0, .int .u32 a1_1, .int .i64 a1_2, .int .i64 a1_3, .int .i64 a1_4] 32 (0, 0)) (by (with_reducible repeat (first | refine blk_drewN ?_ _ | refine blk_drew ?_ | refine blk_alloc ?_ _)); exact BK608.out)) : gb608 ≠ gb619))
       have n9_ := Aside0.mk ((by rw [hg]; exact Nat.ne_of_gt (blk_lt (g := gb608) (o := .cells #[.int .i64 a1_0, .int .u32 a1_1, .int .i64 a1_2, .int .i64 a1_3, .int .i64 a1_4] 32 (0, 0)) (by (with_reducible repeat (first | refine blk_drewN ?_ _ | refine blk_drew ?_ | refine blk_alloc ?_ _)); exact BK608.out)) : gb619 ≠ gb608))
       clear BK607
       clear BK608
       clear HB
       have BK607 := n0_
       have BK608 := n1_
       have HB := n2_
       have BK619 := n3_
       have GW619 := n4_
       have GE619 := n5_
       have NB607_619 := n6_
       have NB619_607 := n7_
       have NB608_619 := n8_
       have NB619_608 := n9_
       clear n0_ n1_ n2_ n3_ n4_ n5_ n6_ n7_ n8_ n9_
       clear hb hbox hg
       refine hK.out _ _ ⟨(blk_cell BK607.out 0).trans rfl, (blk_cell BK607.out 1).trans rfl, (blk_cell BK607.out 2).trans rfl, (blk_cell BK607.out 3).trans rfl, (blk_cell BK607.out 4).trans rfl, (blk_cell BK608.out 0).trans rfl, (blk_cell BK608.out 1).trans rfl, (blk_cell BK608.out 2).trans rfl, (blk_cell BK608.out 3).trans rfl, (blk_cell BK608.out 4).trans rfl⟩ (fun hHeld => ?_)
       clear hK K
       refine norm_ (a' := ?_) ?_ ?_
       rotate_left
       ·show Act.put _ (some 5) _ = _
        simp only [Act.put, List.setIfInBounds_toArray, List.set_cons_zero, List.set_cons_succ, i64_w, i32_w]
        rfl
       exact norm_ (by first | (simp only [putAll, Act.put, List.setIfInBounds_toArray, List.set_cons_zero, List.set_cons_succ]; done) | (simp only [putAll, Act.put, List.setIfInBounds_toArray, List.set_cons_zero, List.set_cons_succ]; rfl)) (hJ1_3_4 (gb619) _ ⟨hHeld, (by (with_reducible repeat (first | refine blk_drewN ?_ _ | refine blk_drew ?_ | refine blk_alloc ?_ _)); exact BK607.out), (by (with_reducible repeat (first | refine blk_drewN ?_ _ | refine blk_drew ?_ | refine blk_alloc ?_ _)); exact BK608.out), (by (with_reducible repeat (first | refine blk_drewN ?_ _ | refine blk_drew ?_ | refine blk_alloc ?_ _)); exact BK619.out), GW619.out, GE619.out, NB607_619.out, NB619_607.out, NB608_619.out, NB619_608.out, (by repeat (first | (with_reducible first | exact HB.out | apply below_alloc | apply pw_below_drewN | apply below_drew1 | refine below_set ?_ GE607.out | refine below_set ?_ GE608.out | refine below_set ?_ GE619.out) | exact HB.out))⟩)
      ·skip
       refine box_step ?hg (N := 6) ?hd (cs := #[.int .i64 0, .int .u32 0, .int .i64 0, .int .i64 0, .int .i64 0]) (t := 34) ?hr ?_; (case hd => rfl); (case hg => rfl); (case hr => first | (go_simp; done) | (go_simp; rfl))
       intro gb620 hg w12 hbox hb
       have n0_ := Aside0.mk (blk_below (g := gb607) (o := .cells #[.int .i64 a0_0, .int .u32 a0_1, .int .i64 a0_2, .int .i64 a0_3, .int .i64 a0_4] 32 (0, 0)) (by (with_reducible repeat (first | refine blk_drewN ?_ _ | refine blk_drew ?_ | refine blk_alloc ?_ _)); exact BK607.out) hb)
       have n1_ := Aside0.mk (blk_below (g := gb608) (o := .cells #[.int .i64 a1_0, .int .u32 a1_1, .int .i64 a1_2, .int .i64 a1_3, .int .i64 a1_4] 32 (0, 0)) (by (with_reducible repeat (first | refine blk_drewN ?_ _ | refine blk_drew ?_ | refine blk_alloc ?_ _)); exact BK608.out) hb)
       have n2_ := Aside0.mk (below_step (by repeat (first | (with_reducible first | exact HB.out | apply below_alloc | apply pw_below_drewN | apply below_drew1 | refine below_set ?_ GE607.out | refine below_set ?_ GE608.out) | exact HB.out)) hb)
       have n3_ := Aside0.mk (hbox)
       have n4_ := Aside0.mk ((by rw [hg]; exact (below_size (by repeat (first | (with_reducible first | exact HB.out | apply below_alloc | apply pw_below_drewN | apply below_drew1 | refine below_set ?_ GE607.out | refine below_set ?_ GE608.out) | exact HB.out))) : w.heap.size ≤ gb620))
       have n5_ := Aside0.mk ((by rw [hg]; exact (below_size (by repeat (first | (with_reducible first | exact HB.out | apply below_alloc | apply pw_below_drewN | apply below_drew1 | refine below_set ?_ GE607.out | refine below_set ?_ GE608.out) | exact HB.out))) : w.heap.size ≤ gb620))
       have n6_ := Aside0.mk ((by rw [hg]; exact Nat.ne_of_lt (blk_lt (g := gb607) (o := .cells #[.int .i64 a0_0, .int .u32 a0_1, .int .i64 a0_2, .int .i64 a0_3, .int .i64 a0_4] 32 (0, 0)) (by (with_reducible repeat (first | refine blk_drewN ?_ _ | refine blk_drew ?_ | refine blk_alloc ?_ _)); exact BK607.out)) : gb607 ≠ gb620))
       have n7_ := Aside0.mk ((by rw [hg]; exact Nat.ne_of_gt (blk_lt (g := gb607) (o := .cells #[.int .i64 a0_0, .int .u32 a0_1, .int .i64 a0_2, .int .i64 a0_3, .int .i64 a0_4] 32 (0, 0)) (by (with_reducible repeat (first | refine blk_drewN ?_ _ | refine blk_drew ?_ | refine blk_alloc ?_ _)); exact BK607.out)) : gb620 ≠ gb607))
       have n8_ := Aside0.mk ((by rw [hg]; exact Nat.ne_of_lt (blk_lt (g := gb608) (o := .cells #[.int .i64 a1_0, .int .u32 a1_1, .int .i64 a1_2, .int .i64 a1_3, .int .i64 a1_4] 32 (0, 0)) (by (with_reducible repeat (first | refine blk_drewN ?_ _ | refine blk_drew ?_ | refine blk_alloc ?_ _)); exact BK608.out)) : gb608 ≠ gb620))
       have n9_ := Aside0.mk ((by rw [hg]; exact Nat.ne_of_gt (blk_lt (g := gb608) (o := .cells #[.int .i64 a1_0, .int .u32 a1_1, .int .i64 a1_2, .int .i64 a1_3, .int .i64 a1_4] 32 (0, 0)) (by (with_reducible repeat (first | refine blk_drewN ?_ _ | refine blk_drew ?_ | refine blk_alloc ?_ _)); exact BK608.out)) : gb620 ≠ gb608))
       clear BK607
       clear BK608
       clear HB
       have BK607 := n0_
       have BK608 := n1_
       have HB := n2_
       have BK620 := n3_
       have GW620 := n4_
       have GE620 := n5_
       have NB607_620 := n6_
       have NB620_607 := n7_
       have NB608_620 := n8_
       have NB620_608 := n9_
       clear n0_ n1_ n2_ n3_ n4_ n5_ n6_ n7_ n8_ n9_
       clear hb hbox hg
       refine hK.out _ _ ⟨(blk_cell BK607.out 0).trans rfl, (blk_cell BK607.out 1).trans rfl, (blk_cell BK607.out 2).trans rfl, (blk_cell BK607.out 3).trans rfl, (blk_cell BK607.out 4).trans rfl, (blk_cell BK608.out 0).trans rfl, (blk_cell BK608.out 1).trans rfl, (blk_cell BK608.out 2).trans rfl, (blk_cell BK608.out 3).trans rfl, (blk_cell BK608.out 4).trans rfl⟩ (fun hHeld => ?_)
       clear hK K
       refine norm_ (a' := ?_) ?_ ?_
       rotate_left
       ·show Act.put _ (some 6) _ = _
        simp only [Act.put, List.setIfInBounds_toArray, List.set_cons_zero, List.set_cons_succ, i64_w, i32_w]
        rfl
       exact norm_ (by first | (simp only [putAll, Act.put, List.setIfInBounds_toArray, List.set_cons_zero, List.set_cons_succ]; done) | (simp only [putAll, Act.put, List.setIfInBounds_toArray, List.set_cons_zero, List.set_cons_succ]; rfl)) (hJ1_3_5 (gb620) _ ⟨hHeld, (by (with_reducible repeat (first | refine blk_drewN ?_ _ | refine blk_drew ?_ | refine blk_alloc ?_ _)); exact BK607.out), (by (with_reducible repeat (first | refine blk_drewN ?_ _ | refine blk_drew ?_ | refine blk_alloc ?_ _)); exact BK608.out), (by (with_reducible repeat (first | refine blk_drewN ?_ _ | refine blk_drew ?_ | refine blk_alloc ?_ _)); exact BK620.out), GW620.out, GE620.out, NB607_620.out, NB620_607.out, NB608_620.out, NB620_608.out, (by repeat (first | (with_reducible first | exact HB.out | apply below_alloc | apply pw_below_drewN | apply below_drew1 | refine below_set ?_ GE607.out | refine below_set ?_ GE608.out | refine below_set ?_ GE620.out) | exact HB.out))⟩)
    ·skip
     rintro ⟨gb619, gb620⟩ w12 ⟨hS_, h0_, h1_, h2_, h3_, h4_, h5_, h6_, h7_, h8_, h9_, h10_, h11_, h12_, h13_, h14_, h15_, h16_, h17_, h18_⟩
     have n0_ : Aside0 (w12.heap[gb607]? = some (.cells #[.int .i64 a0_0, .int .u32 a0_1, .int .i64 a0_2, .int .i64 a0_3, .int .i64 a0_4] 32 (0, 0))) := ⟨h0_⟩
     have n1_ : Aside0 (w12.heap[gb608]? = some (.cells #[.int .i64 a1_0, .int .u32 a1_1, .int .i64 a1_2, .int .i64 a1_3, .int .i64 a1_4] 32 (0, 0))) := ⟨h1_⟩
     have n2_ : Aside0 (w12.heap[gb619]? = some (.cells #[.int .i64 0, .int .u32 0, .int .i64 0, .int .i64 0, .int .i64 0] 34 (0, 0))) := ⟨h2_⟩
     have n3_ : Aside0 (w12.heap[gb620]? = some (.cells #[.int .i64 0, .int .u32 0, .int .i64 0, .int .i64 0, .int .i64 0] 34 (0, 0))) := ⟨h3_⟩
     have n4_ : Aside0 (w.heap.size ≤ gb619) := ⟨h4_⟩
     have n5_ : Aside0 (w.heap.size ≤ gb619) := ⟨h5_⟩
     have n6_ : Aside0 (gb607 ≠ gb619) := ⟨h6_⟩
     have n7_ : Aside0 (gb619 ≠ gb607) := ⟨h7_⟩
     have n8_ : Aside0 (gb608 ≠ gb619) := ⟨h8_⟩
     have n9_ : Aside0 (gb619 ≠ gb608) := ⟨h9_⟩
     have n10_ : Aside0 (gb620 ≠ gb619) := ⟨h10_⟩
     have n11_ : Aside0 (gb619 ≠ gb620) := ⟨h11_⟩
     have n12_ : Aside0 (w.heap.size ≤ gb620) := ⟨h12_⟩
     have n13_ : Aside0 (w.heap.size ≤ gb620) := ⟨h13_⟩
     have n14_ : Aside0 (gb607 ≠ gb620) := ⟨h14_⟩
     have n15_ : Aside0 (gb620 ≠ gb607) := ⟨h15_⟩
     have n16_ : Aside0 (gb608 ≠ gb620) := ⟨h16_⟩
     have n17_ : Aside0 (gb620 ≠ gb608) := ⟨h17_⟩
     have n18_ : Aside0 (Below w.heap.size w w12) := ⟨h18_⟩
     clear BK607
     clear BK608
     clear HB
     clear h0_ h1_ h2_ h3_ h4_ h5_ h6_ h7_ h8_ h9_ h10_ h11_ h12_ h13_ h14_ h15_ h16_ h17_ h18_
     have BK607 := n0_
     have BK608 := n1_
     have BK619 := n2_
     have BK620 := n3_
     have GW619 := n4_
     have GE619 := n5_
     have NB607_619 := n6_
     have NB619_607 := n7_
     have NB608_619 := n8_
     have NB619_608 := n9_
     have NB620_619 := n10_
     have NB619_620 := n11_
     have GW620 := n12_
     have GE620 := n13_
     have NB607_620 := n14_
     have NB620_607 := n15_
     have NB608_620 := n16_
     have NB620_608 := n17_
     have HB := n18_
     clear n0_ n1_ n2_ n3_ n4_ n5_ n6_ n7_ n8_ n9_ n10_ n11_ n12_ n13_ n14_ n15_ n16_ n17_ n18_
     have hHeld : w12.cell? ⟨gb607, 0, none⟩ = some (.int .i64 a0_0) ∧ w12.cell? ⟨gb607, 1, none⟩ = some (.int .u32 a0_1) ∧ w12.cell? ⟨gb607, 2, none⟩ = some (.int .i64 a0_2) ∧ w12.cell? ⟨gb607, 3, none⟩ = some (.int .i64 a0_3) ∧ w12.cell? ⟨gb607, 4, none⟩ = some (.int .i64 a0_4) ∧ w12.cell? ⟨gb608, 0, none⟩ = some (.int .i64 a1_0) ∧ w12.cell? ⟨gb608, 1, none⟩ = some (.int .u32 a1_1) ∧ w12.cell? ⟨gb608, 2, none⟩ = some (.int .i64 a1_2) ∧ w12.cell? ⟨gb608, 3, none⟩ = some (.int .i64 a1_3) ∧ w12.cell? ⟨gb608, 4, none⟩ = some (.int .i64 a1_4) := hS_
     refine norm_ (a' := ?_) ?_ ?_
     rotate_left
     ·simp only [putAll, Act.put, List.setIfInBounds_toArray, List.set_cons_zero, List.set_cons_succ]
      rfl
     refine one_ (i := 3) (N := some 10) #[true, true, true, true, true, true, false, false] rfl rfl (one_of HT_.out (by kernel_rfl)) (by decide) (fun K hK => ?_)
     refine goes_ Tryz.func9 (by kernel_rfl) rfl #[.agg #[.int .i64 a1_0, .int .u32 a1_1, .int .i64 a1_2, .int .i64 a1_3, .int .i64 a1_4]] (by rfl) rfl rfl (by (try simp only [List.map_toArray, List.map_cons, List.map_nil]); first | done | rfl | (simp only [List.length_drop, List.length_take]; rfl)) ?_
     with_reducible refine (credenzalaw28_event.calls a1_0 a1_1 a1_2 a1_3 a1_4 t614 t615 t616 t617 t618 _ A4.out).mono ?_
     rintro e w13 ⟨rfl, hb⟩
     refine ⟨_, rfl, ?_⟩
     have n0_ := Aside0.mk (blk_below (g := gb607) (o := .cells #[.int .i64 a0_0, .int .u32 a0_1, .int .i64 a0_2, .int .i64 a0_3, .int .i64 a0_4] 32 (0, 0)) (by (with_reducible repeat (first | refine blk_drewN ?_ _ | refine blk_drew ?_ | refine blk_alloc ?_ _)); exact BK607.out) hb)
     have n1_ := Aside0.mk (blk_below (g := gb608) (o := .cells #[.int .i64 a1_0, .int .u32 a1_1, .int .i64 a1_2, .int .i64 a1_3, .int .i64 a1_4] 32 (0, 0)) (by (with_reducible repeat (first | refine blk_drewN ?_ _ | refine blk_drew ?_ | refine blk_alloc ?_ _)); exact BK608.out) hb)
     have n2_ := Aside0.mk (blk_below (g := gb619) (o := .cells #[.int .i64 0, .int .u32 0, .int .i64 0, .int .i64 0, .int .i64 0] 34 (0, 0)) (by (with_reducible repeat (first | refine blk_drewN ?_ _ | refine blk_drew ?_ | refine blk_alloc ?_ _)); exact BK619.out) hb)
     have n3_ := Aside0.mk (blk_below (g := gb620) (o := .cells #[.int .i64 0, .int .u32 0, .int .i64 0, .int .i64 0, .int .i64 0] 34 (0, 0)) (by (with_reducible repeat (first | refine blk_drewN ?_ _ | refine blk_drew ?_ | refine blk_alloc ?_ _)); exact BK620.out) hb)
     have n4_ := Aside0.mk (below_step (by repeat (first | (with_reducible first | exact HB.out | apply below_alloc | apply pw_below_drewN | apply below_drew1 | refine below_set ?_ GE607.out | refine below_set ?_ GE608.out | refine below_set ?_ GE619.out | refine below_set ?_ GE620.out) | exact HB.out)) hb)
     clear BK607
     clear BK608
     clear BK619
     clear BK620
     clear HB
     have BK607 := n0_
     have BK608 := n1_
     have BK619 := n2_
     have BK620 := n3_
     have HB := n4_
     clear n0_ n1_ n2_ n3_ n4_
     (try clear hb)
     (try clear hb2)
     (try clear hk)
     (try clear hi)
     refine hK.out _ _ ⟨(blk_cell BK607.out 0).trans rfl, (blk_cell BK607.out 1).trans rfl, (blk_cell BK607.out 2).trans rfl, (blk_cell BK607.out 3).trans rfl, (blk_cell BK607.out 4).trans rfl, (blk_cell BK608.out 0).trans rfl, (blk_cell BK608.out 1).trans rfl, (blk_cell BK608.out 2).trans rfl, (blk_cell BK608.out 3).trans rfl, (blk_cell BK608.out 4).trans rfl⟩ (fun hHeld => ?_)
     clear hK K
     refine norm_ (a' := ?_) ?_ ?_
     rotate_left
     ·show Act.put _ (some 10) _ = _
      simp only [Act.put, List.setIfInBounds_toArray, List.set_cons_zero, List.set_cons_succ, i64_w, i32_w]
      rfl
     exact norm_ (by first | (simp only [putAll, Act.put, List.setIfInBounds_toArray, List.set_cons_zero, List.set_cons_succ]; done) | (simp only [putAll, Act.put, List.setIfInBounds_toArray, List.set_cons_zero, List.set_cons_succ]; rfl)) (hJ1_3_4_5 (gb619, gb620) _ ⟨hHeld, (by (with_reducible repeat (first | refine blk_drewN ?_ _ | refine blk_drew ?_ | refine blk_alloc ?_ _)); exact BK607.out), (by (with_reducible repeat (first | refine blk_drewN ?_ _ | refine blk_drew ?_ | refine blk_alloc ?_ _)); exact BK608.out), (by (with_reducible repeat (first | refine blk_drewN ?_ _ | refine blk_drew ?_ | refine blk_alloc ?_ _)); exact BK619.out), (by (with_reducible repeat (first | refine blk_drewN ?_ _ | refine blk_drew ?_ | refine blk_alloc ?_ _)); exact BK620.out), GW619.out, GE619.out, NB607_619.out, NB619_607.out, NB608_619.out, NB619_608.out, NB620_619.out, NB619_620.out, GW620.out, GE620.out, NB607_620.out, NB620_607.out, NB608_620.out, NB620_608.out, (by repeat (first | (with_reducible first | exact HB.out | apply below_alloc | apply pw_below_drewN | apply below_drew1 | refine below_set ?_ GE607.out | refine below_set ?_ GE608.out | refine below_set ?_ GE619.out | refine below_set ?_ GE620.out) | exact HB.out))⟩)
   ·skip
    rintro gb620 w12 ⟨hS_, h0_, h1_, h2_, h3_, h4_, h5_, h6_, h7_, h8_, h9_⟩
    have n0_ : Aside0 (w12.heap[gb607]? = some (.cells #[.int .i64 a0_0, .int .u32 a0_1, .int .i64 a0_2, .int .i64 a0_3, .int .i64 a0_4] 32 (0, 0))) := ⟨h0_⟩
    have n1_ : Aside0 (w12.heap[gb608]? = some (.cells #[.int .i64 a1_0, .int .u32 a1_1, .int .i64 a1_2, .int .i64 a1_3, .int .i64 a1_4] 32 (0, 0))) := ⟨h1_⟩
    have n2_ : Aside0 (w12.heap[gb620]? = some (.cells #[.int .i64 0, .int .u32 0, .int .i64 0, .int .i64 0, .int .i64 0] 34 (0, 0))) := ⟨h2_⟩
    have n3_ : Aside0 (w.heap.size ≤ gb620) := ⟨h3_⟩
    have n4_ : Aside0 (w.heap.size ≤ gb620) := ⟨h4_⟩
    have n5_ : Aside0 (gb607 ≠ gb620) := ⟨h5_⟩
    have n6_ : Aside0 (gb620 ≠ gb607) := ⟨h6_⟩
    have n7_ : Aside0 (gb608 ≠ gb620) := ⟨h7_⟩
    have n8_ : Aside0 (gb620 ≠ gb608) := ⟨h8_⟩
    have n9_ : Aside0 (Below w.heap.size w w12) := ⟨h9_⟩
    clear BK607
    clear BK608
    clear HB
    clear h0_ h1_ h2_ h3_ h4_ h5_ h6_ h7_ h8_ h9_
    have BK607 := n0_
    have BK608 := n1_
    have BK620 := n2_
    have GW620 := n3_
    have GE620 := n4_
    have NB607_620 := n5_
    have NB620_607 := n6_
    have NB608_620 := n7_
    have NB620_608 := n8_
    have HB := n9_
    clear n0_ n1_ n2_ n3_ n4_ n5_ n6_ n7_ n8_ n9_
    have hHeld : w12.cell? ⟨gb607, 0, none⟩ = some (.int .i64 a0_0) ∧ w12.cell? ⟨gb607, 1, none⟩ = some (.int .u32 a0_1) ∧ w12.cell? ⟨gb607, 2, none⟩ = some (.int .i64 a0_2) ∧ w12.cell? ⟨gb607, 3, none⟩ = some (.int .i64 a0_3) ∧ w12.cell? ⟨gb607, 4, none⟩ = some (.int .i64 a0_4) ∧ w12.cell? ⟨gb608, 0, none⟩ = some (.int .i64 a1_0) ∧ w12.cell? ⟨gb608, 1, none⟩ = some (.int .u32 a1_1) ∧ w12.cell? ⟨gb608, 2, none⟩ = some (.int .i64 a1_2) ∧ w12.cell? ⟨gb608, 3, none⟩ = some (.int .i64 a1_3) ∧ w12.cell? ⟨gb608, 4, none⟩ = some (.int .i64 a1_4) := hS_
    refine norm_ (a' := ?_) ?_ ?_
    rotate_left
    ·simp only [putAll, Act.put, List.setIfInBounds_toArray, List.set_cons_zero, List.set_cons_succ]
     rfl
    refine one_ (i := 4) (N := some 5) #[true, true, true, true, true, true, false, false] rfl rfl (one_of HT_.out (by kernel_rfl)) (by decide) (fun K hK => ?_)
    refine box_step ?hg (N := 5) ?hd (cs := #[.int .i64 0, .int .u32 0, .int .i64 0, .int .i64 0, .int .i64 0]) (t := 34) ?hr ?_; (case hd => rfl); (case hg => rfl); (case hr => first | (go_simp; done) | (go_simp; rfl))
    intro gb619 hg w13 hbox hb
    have n0_ := Aside0.mk (blk_below (g := gb607) (o := .cells #[.int .i64 a0_0, .int .u32 a0_1, .int .i64 a0_2, .int .i64 a0_3, .int .i64 a0_4] 32 (0, 0)) (by (with_reducible repeat (first | refine blk_drewN ?_ _ | refine blk_drew ?_ | refine blk_alloc ?_ _)); exact BK607.out) hb)
    have n1_ := Aside0.mk (blk_below (g := gb608) (o := .cells #[.int .i64 a1_0, .int .u32 a1_1, .int .i64 a1_2, .int .i64 a1_3, .int .i64 a1_4] 32 (0, 0)) (by (with_reducible repeat (first | refine blk_drewN ?_ _ | refine blk_drew ?_ | refine blk_alloc ?_ _)); exact BK608.out) hb)
    have n2_ := Aside0.mk (blk_below (g := gb620) (o := .cells #[.int .i64 0, .int .u32 0, .int .i64 0, .int .i64 0, .int .i64 0] 34 (0, 0)) (by (with_reducible repeat (first | refine blk_drewN ?_ _ | refine blk_drew ?_ | refine blk_alloc ?_ _)); exact BK620.out) hb)
    have n3_ := Aside0.mk (below_step (by repeat (first | (with_reducible first | exact HB.out | apply below_alloc | apply pw_below_drewN | apply below_drew1 | refine below_set ?_ GE607.out | refine below_set ?_ GE608.out | refine below_set ?_ GE620.out) | exact HB.out)) hb)
    have n4_ := Aside0.mk (hbox)
    have n5_ := Aside0.mk ((by rw [hg]; exact (below_size (by repeat (first | (with_reducible first | exact HB.out | apply below_alloc | apply pw_below_drewN | apply below_drew1 | refine below_set ?_ GE607.out | refine below_set ?_ GE608.out | refine below_set ?_ GE620.out) | exact HB.out))) : w.heap.size ≤ gb619))
    have n6_ := Aside0.mk ((by rw [hg]; exact (below_size (by repeat (first | (with_reducible first | exact HB.out | apply below_alloc | apply pw_below_drewN | apply below_drew1 | refine below_set ?_ GE607.out | refine below_set ?_ GE608.out | refine below_set ?_ GE620.out) | exact HB.out))) : w.heap.size ≤ gb619))
    have n7_ := Aside0.mk ((by rw [hg]; exact Nat.ne_of_lt (blk_lt (g := gb607) (o := .cells #[.int .i64 a0_0, .int .u32 a0_1, .int .i64 a0_2, .int .i64 a0_3, .int .i64 a0_4] 32 (0, 0)) (by (with_reducible repeat (first | refine blk_drewN ?_ _ | refine blk_drew ?_ | refine blk_alloc ?_ _)); exact BK607.out)) : gb607 ≠ gb619))
    have n8_ := Aside0.mk ((by rw [hg]; exact Nat.ne_of_gt (blk_lt (g := gb607) (o := .cells #[.int .i64 a0_0, .int .u32 a0_1, .int .i64 a0_2, .int .i64 a0_3, .int .i64 a0_4] 32 (0, 0)) (by (with_reducible repeat (first | refine blk_drewN ?_ _ | refine blk_drew ?_ | refine blk_alloc ?_ _)); exact BK607.out)) : gb619 ≠ gb607))
    have n9_ := Aside0.mk ((by rw [hg]; exact Nat.ne_of_lt (blk_lt (g := gb608) (o := .cells #[.int .i64 a1_0, .int .u32 a1_1, .int .i64 a1_2, .int .i64 a1_3, .int .i64 a1_4] 32 (0, 0)) (by (with_reducible repeat (first | refine blk_drewN ?_ _ | refine blk_drew ?_ | refine blk_alloc ?_ _)); exact BK608.out)) : gb608 ≠ gb619))
    have n10_ := Aside0.mk ((by rw [hg]; exact Nat.ne_of_gt (blk_lt (g := gb608) (o := .cells #[.int .i64 a1_0, .int .u32 a1_1, .int .i64 a1_2, .int .i64 a1_3, .int .i64 a1_4] 32 (0, 0)) (by (with_reducible repeat (first | refine blk_drewN ?_ _ | refine blk_drew ?_ | refine blk_alloc ?_ _)); exact BK608.out)) : gb619 ≠ gb608))
    have n11_ := Aside0.mk ((by rw [hg]; exact Nat.ne_of_lt (blk_lt (g := gb620) (o := .cells #[.int .i64 0, .int .u32 0, .int .i64 0, .int .i64 0, .int .i64 0] 34 (0, 0)) (by (with_reducible repeat (first | refine blk_drewN ?_ _ | refine blk_drew ?_ | refine blk_alloc ?_ _)); exact BK620.out)) : gb620 ≠ gb619))
    have n12_ := Aside0.mk ((by rw [hg]; exact Nat.ne_of_gt (blk_lt (g := gb620) (o := .cells #[.int .i64 0, .int .u32 0, .int .i64 0, .int .i64 0, .int .i64 0] 34 (0, 0)) (by (with_reducible repeat (first | refine blk_drewN ?_ _ | refine blk_drew ?_ | refine blk_alloc ?_ _)); exact BK620.out)) : gb619 ≠ gb620))
    clear BK607
    clear BK608
    clear BK620
    clear HB
    have BK607 := n0_
    have BK608 := n1_
    have BK620 := n2_
    have HB := n3_
    have BK619 := n4_
    have GW619 := n5_
    have GE619 := n6_
    have NB607_619 := n7_
    have NB619_607 := n8_
    have NB608_619 := n9_
    have NB619_608 := n10_
    have NB620_619 := n11_
    have NB619_620 := n12_
    clear n0_ n1_ n2_ n3_ n4_ n5_ n6_ n7_ n8_ n9_ n10_ n11_ n12_
    clear hb hbox hg
    refine hK.out _ _ ⟨(blk_cell BK607.out 0).trans rfl, (blk_cell BK607.out 1).trans rfl, (blk_cell BK607.out 2).trans rfl, (blk_cell BK607.out 3).trans rfl, (blk_cell BK607.out 4).trans rfl, (blk_cell BK608.out 0).trans rfl, (blk_cell BK608.out 1).trans rfl, (blk_cell BK608.out 2).trans rfl, (blk_cell BK608.out 3).trans rfl, (blk_cell BK608.out 4).trans rfl⟩ (fun hHeld => ?_)
    clear hK K
    refine norm_ (a' := ?_) ?_ ?_
    rotate_left
    ·show Act.put _ (some 5) _ = _
     simp only [Act.put, List.setIfInBounds_toArray, List.set_cons_zero, List.set_cons_succ, i64_w, i32_w]
     rfl
    exact norm_ (by first | (simp only [putAll, Act.put, List.setIfInBounds_toArray, List.set_cons_zero, List.set_cons_succ]; done) | (simp only [putAll, Act.put, List.setIfInBounds_toArray, List.set_cons_zero, List.set_cons_succ]; rfl)) (hJ1_3_4_5 (gb619, gb620) _ ⟨hHeld, (by (with_reducible repeat (first | refine blk_drewN ?_ _ | refine blk_drew ?_ | refine blk_alloc ?_ _)); exact BK607.out), (by (with_reducible repeat (first | refine blk_drewN ?_ _ | refine blk_drew ?_ | refine blk_alloc ?_ _)); exact BK608.out), (by (with_reducible repeat (first | refine blk_drewN ?_ _ | refine blk_drew ?_ | refine blk_alloc ?_ _)); exact BK619.out), (by (with_reducible repeat (first | refine blk_drewN ?_ _ | refine blk_drew ?_ | refine blk_alloc ?_ _)); exact BK620.out), GW619.out, GE619.out, NB607_619.out, NB619_607.out, NB608_619.out, NB619_608.out, NB620_619.out, NB619_620.out, GW620.out, GE620.out, NB607_620.out, NB620_607.out, NB608_620.out, NB620_608.out, (by repeat (first | (with_reducible first | exact HB.out | apply below_alloc | apply pw_below_drewN | apply below_drew1 | refine below_set ?_ GE607.out | refine below_set ?_ GE608.out | refine below_set ?_ GE620.out | refine below_set ?_ GE619.out) | exact HB.out))⟩)
  ·skip
   rintro gb619 w12 ⟨hS_, h0_, h1_, h2_, h3_, h4_, h5_, h6_, h7_, h8_, h9_⟩
   have n0_ : Aside0 (w12.heap[gb607]? = some (.cells #[.int .i64 a0_0, .int .u32 a0_1, .int .i64 a0_2, .int .i64 a0_3, .int .i64 a0_4] 32 (0, 0))) := ⟨h0_⟩
   have n1_ : Aside0 (w12.heap[gb608]? = some (.cells #[.int .i64 a1_0, .int .u32 a1_1, .int .i64 a1_2, .int .i64 a1_3, .int .i64 a1_4] 32 (0, 0))) := ⟨h1_⟩
   have n2_ : Aside0 (w12.heap[gb619]? = some (.cells #[.int .i64 0, .int .u32 0, .int .i64 0, .int .i64 0, .int .i64 0] 34 (0, 0))) := ⟨h2_⟩
   have n3_ : Aside0 (w.heap.size ≤ gb619) := ⟨h3_⟩
   have n4_ : Aside0 (w.heap.size ≤ gb619) := ⟨h4_⟩
   have n5_ : Aside0 (gb607 ≠ gb619) := ⟨h5_⟩
   have n6_ : Aside0 (gb619 ≠ gb607) := ⟨h6_⟩
   have n7_ : Aside0 (gb608 ≠ gb619) := ⟨h7_⟩
   have n8_ : Aside0 (gb619 ≠ gb608) := ⟨h8_⟩
   have n9_ : Aside0 (Below w.heap.size w w12) := ⟨h9_⟩
   clear BK607
   clear BK608
   clear HB
   clear h0_ h1_ h2_ h3_ h4_ h5_ h6_ h7_ h8_ h9_
   have BK607 := n0_
   have BK608 := n1_
   have BK619 := n2_
   have GW619 := n3_
   have GE619 := n4_
   have NB607_619 := n5_
   have NB619_607 := n6_
   have NB608_619 := n7_
   have NB619_608 := n8_
   have HB := n9_
   clear n0_ n1_ n2_ n3_ n4_ n5_ n6_ n7_ n8_ n9_
   have hHeld : w12.cell? ⟨gb607, 0, none⟩ = some (.int .i64 a0_0) ∧ w12.cell? ⟨gb607, 1, none⟩ = some (.int .u32 a0_1) ∧ w12.cell? ⟨gb607, 2, none⟩ = some (.int .i64 a0_2) ∧ w12.cell? ⟨gb607, 3, none⟩ = some (.int .i64 a0_3) ∧ w12.cell? ⟨gb607, 4, none⟩ = some (.int .i64 a0_4) ∧ w12.cell? ⟨gb608, 0, none⟩ = some (.int .i64 a1_0) ∧ w12.cell? ⟨gb608, 1, none⟩ = some (.int .u32 a1_1) ∧ w12.cell? ⟨gb608, 2, none⟩ = some (.int .i64 a1_2) ∧ w12.cell? ⟨gb608, 3, none⟩ = some (.int .i64 a1_3) ∧ w12.cell? ⟨gb608, 4, none⟩ = some (.int .i64 a1_4) := hS_
   refine norm_ (a' := ?_) ?_ ?_
   rotate_left
   ·simp only [putAll, Act.put, List.setIfInBounds_toArray, List.set_cons_zero, List.set_cons_succ]
    rfl
   refine one_ (i := 5) (N := some 6) #[true, true, true, true, true, true, false, false] rfl rfl (one_of HT_.out (by kernel_rfl)) (by decide) (fun K hK => ?_)
   refine box_step ?hg (N := 6) ?hd (cs := #[.int .i64 0, .int .u32 0, .int .i64 0, .int .i64 0, .int .i64 0]) (t := 34) ?hr ?_; (case hd => rfl); (case hg => rfl); (case hr => first | (go_simp; done) | (go_simp; rfl))
   intro gb620 hg w13 hbox hb
   have n0_ := Aside0.mk (blk_below (g := gb607) (o := .cells #[.int .i64 a0_0, .int .u32 a0_1, .int .i64 a0_2, .int .i64 a0_3, .int .i64 a0_4] 32 (0, 0)) (by (with_reducible repeat (first | refine blk_drewN ?_ _ | refine blk_drew ?_ | refine blk_alloc ?_ _)); exact BK607.out) hb)
   have n1_ := Aside0.mk (blk_below (g := gb608) (o := .cells #[.int .i64 a1_0, .int .u32 a1_1, .int .i64 a1_2, .int .i64 a1_3, .int .i64 a1_4] 32 (0, 0)) (by (with_reducible repeat (first | refine blk_drewN ?_ _ | refine blk_drew ?_ | refine blk_alloc ?_ _)); exact BK608.out) hb)
   have n2_ := Aside0.mk (blk_below (g := gb619) (o := .cells #[.int .i64 0, .int .u32 0, .int .i64 0, .int .i64 0, .int .i64 0] 34 (0, 0)) (by (with_reducible repeat (first | refine blk_drewN ?_ _ | refine blk_drew ?_ | refine blk_alloc ?_ _)); exact BK619.out) hb)
   have n3_ := Aside0.mk (below_step (by repeat (first | (with_reducible first | exact HB.out | apply below_alloc | apply pw_below_drewN | apply below_drew1 | refine below_set ?_ GE607.out | refine below_set ?_ GE608.out | refine below_set ?_ GE619.out) | exact HB.out)) hb)
   have n4_ := Aside0.mk (hbox)
   have n5_ := Aside0.mk ((by rw [hg]; exact (below_size (by repeat (first | (with_reducible first | exact HB.out | apply below_alloc | apply pw_below_drewN | apply below_drew1 | refine below_set ?_ GE607.out | refine below_set ?_ GE608.out | refine below_set ?_ GE619.out) | exact HB.out))) : w.heap.size ≤ gb620))
   have n6_ := Aside0.mk ((by rw [hg]; exact (below_size (by repeat (first | (with_reducible first | exact HB.out | apply below_alloc | apply pw_below_drewN | apply below_drew1 | refine below_set ?_ GE607.out | refine below_set ?_ GE608.out | refine below_set ?_ GE619.out) | exact HB.out))) : w.heap.size ≤ gb620))
   have n7_ := Aside0.mk ((by rw [hg]; exact Nat.ne_of_lt (blk_lt (g := gb607) (o := .cells #[.int .i64 a0_0, .int .u32 a0_1, .int .i64 a0_2, .int .i64 a0_3, .int .i64 a0_4] 32 (0, 0)) (by (with_reducible repeat (first | refine blk_drewN ?_ _ | refine blk_drew ?_ | refine blk_alloc ?_ _)); exact BK607.out)) : gb607 ≠ gb620))
   have n8_ := Aside0.mk ((by rw [hg]; exact Nat.ne_of_gt (blk_lt (g := gb607) (o := .cells #[.int .i64 a0_0, .int .u32 a0_1, .int .i64 a0_2, .int .i64 a0_3, .int .i64 a0_4] 32 (0, 0)) (by (with_reducible repeat (first | refine blk_drewN ?_ _ | refine blk_drew ?_ | refine blk_alloc ?_ _)); exact BK607.out)) : gb620 ≠ gb607))
   have n9_ := Aside0.mk ((by rw [hg]; exact Nat.ne_of_lt (blk_lt (g := gb608) (o := .cells #[.int .i64 a1_0, .int .u32 a1_1, .int .i64 a1_2, .int .i64 a1_3, .int .i64 a1_4] 32 (0, 0)) (by (with_reducible repeat (first | refine blk_drewN ?_ _ | refine blk_drew ?_ | refine blk_alloc ?_ _)); exact BK608.out)) : gb608 ≠ gb620))
   have n10_ := Aside0.mk ((by rw [hg]; exact Nat.ne_of_gt (blk_lt (g := gb608) (o := .cells #[.int .i64 a1_0, .int .u32 a1_1, .int .i64 a1_2, .int .i64 a1_3, .int .i64 a1_4] 32 (0, 0)) (by (with_reducible repeat (first | refine blk_drewN ?_ _ | refine blk_drew ?_ | refine blk_alloc ?_ _)); exact BK608.out)) : gb620 ≠ gb608))
   have n11_ := Aside0.mk ((by rw [hg]; exact Nat.ne_of_lt (blk_lt (g := gb619) (o := .cells #[.int .i64 0, .int .u32 0, .int .i64 0, .int .i64 0, .int .i64 0] 34 (0, 0)) (by (with_reducible repeat (first | refine blk_drewN ?_ _ | refine blk_drew ?_ | refine blk_alloc ?_ _)); exact BK619.out)) : gb619 ≠ gb620))
   have n12_ := Aside0.mk ((by rw [hg]; exact Nat.ne_of_gt (blk_lt (g := gb619) (o := .cells #[.int .i64 0, .int .u32 0, .int .i64 0, .int .i64 0, .int .i64 0] 34 (0, 0)) (by (with_reducible repeat (first | refine blk_drewN ?_ _ | refine blk_drew ?_ | refine blk_alloc ?_ _)); exact BK619.out)) : gb620 ≠ gb619))
   clear BK607
   clear BK608
   clear BK619
   clear HB
   have BK607 := n0_
   have BK608 := n1_
   have BK619 := n2_
   have HB := n3_
   have BK620 := n4_
   have GW620 := n5_
   have GE620 := n6_
   have NB607_620 := n7_
   have NB620_607 := n8_
   have NB608_620 := n9_
   have NB620_608 := n10_
   have NB619_620 := n11_
   have NB620_619 := n12_
   clear n0_ n1_ n2_ n3_ n4_ n5_ n6_ n7_ n8_ n9_ n10_ n11_ n12_
   clear hb hbox hg
   refine hK.out _ _ ⟨(blk_cell BK607.out 0).trans rfl, (blk_cell BK607.out 1).trans rfl, (blk_cell BK607.out 2).trans rfl, (blk_cell BK607.out 3).trans rfl, (blk_cell BK607.out 4).trans rfl, (blk_cell BK608.out 0).trans rfl, (blk_cell BK608.out 1).trans rfl, (blk_cell BK608.out 2).trans rfl, (blk_cell BK608.out 3).trans rfl, (blk_cell BK608.out 4).trans rfl⟩ (fun hHeld => ?_)
   clear hK K
   refine norm_ (a' := ?_) ?_ ?_
   rotate_left
   ·show Act.put _ (some 6) _ = _
    simp only [Act.put, List.setIfInBounds_toArray, List.set_cons_zero, List.set_cons_succ, i64_w, i32_w]
    rfl
   exact norm_ (by first | (simp only [putAll, Act.put, List.setIfInBounds_toArray, List.set_cons_zero, List.set_cons_succ]; done) | (simp only [putAll, Act.put, List.setIfInBounds_toArray, List.set_cons_zero, List.set_cons_succ]; rfl)) (hJ1_3_4_5 (gb619, gb620) _ ⟨hHeld, (by (with_reducible repeat (first | refine blk_drewN ?_ _ | refine blk_drew ?_ | refine blk_alloc ?_ _)); exact BK607.out), (by (with_reducible repeat (first | refine blk_drewN ?_ _ | refine blk_drew ?_ | refine blk_alloc ?_ _)); exact BK608.out), (by (with_reducible repeat (first | refine blk_drewN ?_ _ | refine blk_drew ?_ | refine blk_alloc ?_ _)); exact BK619.out), (by (with_reducible repeat (first | refine blk_drewN ?_ _ | refine blk_drew ?_ | refine blk_alloc ?_ _)); exact BK620.out), GW619.out, GE619.out, NB607_619.out, NB619_607.out, NB608_619.out, NB619_608.out, NB620_619.out, NB619_620.out, GW620.out, GE620.out, NB607_620.out, NB620_607.out, NB608_620.out, NB620_608.out, (by repeat (first | (with_reducible first | exact HB.out | apply below_alloc | apply pw_below_drewN | apply below_drew1 | refine below_set ?_ GE607.out | refine below_set ?_ GE608.out | refine below_set ?_ GE619.out | refine below_set ?_ GE620.out) | exact HB.out))⟩)
 rintro ⟨gb619, gb620⟩ w13 ⟨hS_, h0_, h1_, h2_, h3_, h4_, h5_, h6_, h7_, h8_, h9_, h10_, h11_, h12_, h13_, h14_, h15_, h16_, h17_, h18_⟩
 have n0_ : Aside0 (w13.heap[gb607]? = some (.cells #[.int .i64 a0_0, .int .u32 a0_1, .int .i64 a0_2, .int .i64 a0_3, .int .i64 a0_4] 32 (0, 0))) := ⟨h0_⟩
 have n1_ : Aside0 (w13.heap[gb608]? = some (.cells #[.int .i64 a1_0, .int .u32 a1_1, .int .i64 a1_2, .int .i64 a1_3, .int .i64 a1_4] 32 (0, 0))) := ⟨h1_⟩
 have n2_ : Aside0 (w13.heap[gb619]? = some (.cells #[.int .i64 0, .int .u32 0, .int .i64 0, .int .i64 0, .int .i64 0] 34 (0, 0))) := ⟨h2_⟩
 have n3_ : Aside0 (w13.heap[gb620]? = some (.cells #[.int .i64 0, .int .u32 0, .int .i64 0, .int .i64 0, .int .i64 0] 34 (0, 0))) := ⟨h3_⟩
 have n4_ : Aside0 (w.heap.size ≤ gb619) := ⟨h4_⟩
 have n5_ : Aside0 (w.heap.size ≤ gb619) := ⟨h5_⟩
 have n6_ : Aside0 (gb607 ≠ gb619) := ⟨h6_⟩
 have n7_ : Aside0 (gb619 ≠ gb607) := ⟨h7_⟩
 have n8_ : Aside0 (gb608 ≠ gb619) := ⟨h8_⟩
 have n9_ : Aside0 (gb619 ≠ gb608) := ⟨h9_⟩
 have n10_ : Aside0 (gb620 ≠ gb619) := ⟨h10_⟩
 have n11_ : Aside0 (gb619 ≠ gb620) := ⟨h11_⟩
 have n12_ : Aside0 (w.heap.size ≤ gb620) := ⟨h12_⟩
 have n13_ : Aside0 (w.heap.size ≤ gb620) := ⟨h13_⟩
 have n14_ : Aside0 (gb607 ≠ gb620) := ⟨h14_⟩
 have n15_ : Aside0 (gb620 ≠ gb607) := ⟨h15_⟩
 have n16_ : Aside0 (gb608 ≠ gb620) := ⟨h16_⟩
 have n17_ : Aside0 (gb620 ≠ gb608) := ⟨h17_⟩
 have n18_ : Aside0 (Below w.heap.size w w13) := ⟨h18_⟩
 clear BK607
 clear BK608
 clear HB
 clear h0_ h1_ h2_ h3_ h4_ h5_ h6_ h7_ h8_ h9_ h10_ h11_ h12_ h13_ h14_ h15_ h16_ h17_ h18_
 have BK607 := n0_
 have BK608 := n1_
 have BK619 := n2_
 have BK620 := n3_
 have GW619 := n4_
 have GE619 := n5_
 have NB607_619 := n6_
 have NB619_607 := n7_
 have NB608_619 := n8_
 have NB619_608 := n9_
 have NB620_619 := n10_
 have NB619_620 := n11_
 have GW620 := n12_
 have GE620 := n13_
 have NB607_620 := n14_
 have NB620_607 := n15_
 have NB608_620 := n16_
 have NB620_608 := n17_
 have HB := n18_
 clear n0_ n1_ n2_ n3_ n4_ n5_ n6_ n7_ n8_ n9_ n10_ n11_ n12_ n13_ n14_ n15_ n16_ n17_ n18_
 have hHeld : w13.cell? ⟨gb607, 0, none⟩ = some (.int .i64 a0_0) ∧ w13.cell? ⟨gb607, 1, none⟩ = some (.int .u32 a0_1) ∧ w13.cell? ⟨gb607, 2, none⟩ = some (.int .i64 a0_2) ∧ w13.cell? ⟨gb607, 3, none⟩ = some (.int .i64 a0_3) ∧ w13.cell? ⟨gb607, 4, none⟩ = some (.int .i64 a0_4) ∧ w13.cell? ⟨gb608, 0, none⟩ = some (.int .i64 a1_0) ∧ w13.cell? ⟨gb608, 1, none⟩ = some (.int .u32 a1_1) ∧ w13.cell? ⟨gb608, 2, none⟩ = some (.int .i64 a1_2) ∧ w13.cell? ⟨gb608, 3, none⟩ = some (.int .i64 a1_3) ∧ w13.cell? ⟨gb608, 4, none⟩ = some (.int .i64 a1_4) := hS_
 refine norm_ (a' := ?_) ?_ ?_
 rotate_left
 ·simp only [putAll, Act.put, List.setIfInBounds_toArray, List.set_cons_zero, List.set_cons_succ]
  rfl
 refine one_ (i := 6) (N := none) #[true, true, true, true, true, true, true, false] rfl rfl (one_of HT_.out (by kernel_rfl)) (by decide) (fun K hK => ?_)
 have hs14 : w13.cell? ⟨gb619, 0, none⟩ = some (.int .i64 0) := (blk_cell BK619.out 0).trans rfl
 have hfs14 := blk_frozen BK619.out 0
 have hns14_0 := NB607_619.out
 have hns14_1 := NB608_619.out
 have hns14_3 := NB620_619.out
 have hms14_0 := NB619_607.out
 have hms14_1 := NB619_608.out
 have hms14_3 := NB619_620.out
 have hs15 : w13.cell? ⟨gb619, 1, none⟩ = some (.int .u32 0) := (blk_cell BK619.out 1).trans rfl
 have hfs15 := blk_frozen BK619.out 1
 have hns15_0 := NB607_619.out
 have hns15_1 := NB608_619.out
 have hns15_3 := NB620_619.out
 have hms15_0 := NB619_607.out
 have hms15_1 := NB619_608.out
 have hms15_3 := NB619_620.out
 have hs16 : w13.cell? ⟨gb619, 2, none⟩ = some (.int .i64 0) := (blk_cell BK619.out 2).trans rfl
 have hfs16 := blk_frozen BK619.out 2
 have hns16_0 := NB607_619.out
 have hns16_1 := NB608_619.out
 have hns16_3 := NB620_619.out
 have hms16_0 := NB619_607.out
 have hms16_1 := NB619_608.out
 have hms16_3 := NB619_620.out
 have hs17 : w13.cell? ⟨gb619, 3, none⟩ = some (.int .i64 0) := (blk_cell BK619.out 3).trans rfl
 have hfs17 := blk_frozen BK619.out 3
 have hns17_0 := NB607_619.out
 have hns17_1 := NB608_619.out
 have hns17_3 := NB620_619.out
 have hms17_0 := NB619_607.out
 have hms17_1 := NB619_608.out
 have hms17_3 := NB619_620.out
 have hs18 : w13.cell? ⟨gb619, 4, none⟩ = some (.int .i64 0) := (blk_cell BK619.out 4).trans rfl
 have hfs18 := blk_frozen BK619.out 4
 have hns18_0 := NB607_619.out
 have hns18_1 := NB608_619.out
 have hns18_3 := NB620_619.out
 have hms18_0 := NB619_607.out
 have hms18_1 := NB619_608.out
 have hms18_3 := NB619_620.out
 refine skip_ (w1 := ?_) (by rfl) rfl ?_ ?_
 rotate_left
 ·go_simp
  rfl
 refine hK.out _ _ ⟨((cell_far (p := ⟨gb619, _, none⟩) NB607_619.out _).trans (((cell_far (p := ⟨gb619, _, none⟩) NB607_619.out _).trans (((cell_far (p := ⟨gb619, _, none⟩) NB607_619.out _).trans (((cell_far (p := ⟨gb619, _, none⟩) NB607_619.out _).trans (((cell_far (p := ⟨gb619, _, none⟩) NB607_619.out _).trans (hHeld.1)))))))))), ((cell_far (p := ⟨gb619, _, none⟩) NB607_619.out _).trans (((cell_far (p := ⟨gb619, _, none⟩) NB607_619.out _).trans (((cell_far (p := ⟨gb619, _, none⟩) NB607_619.out _).trans (((cell_far (p := ⟨gb619, _, none⟩) NB607_619.out _).trans (((cell_far (p := ⟨gb619, _, none⟩) NB607_619.out _).trans (hHeld.2.1)))))))))), ((cell_far (p := ⟨gb619, _, none⟩) NB607_619.out _).trans (((cell_far (p := ⟨gb619, _, none⟩) NB607_619.out _).trans (((cell_far (p := ⟨gb619, _, none⟩) NB607_619.out _).trans (((cell_far (p := ⟨gb619, _, none⟩) NB607_619.out _).trans (((cell_far (p := ⟨gb619, _, none⟩) NB607_619.out _).trans (hHeld.2.2.1)))))))))), ((cell_far (p := ⟨gb619, _, none⟩) NB607_619.out _).trans (((cell_far (p := ⟨gb619, _, none⟩) NB607_619.out _).trans (((cell_far (p := ⟨gb619, _, none⟩) NB607_619.out _).trans (((cell_far (p := ⟨gb619, _, none⟩) NB607_619.out _).trans (((cell_far (p := ⟨gb619, _, none⟩) NB607_619.out _).trans (hHeld.2.2.2.1)))))))))), ((cell_far (p := ⟨gb619, _, none⟩) NB607_619.out _).trans (((cell_far (p := ⟨gb619, _, none⟩) NB607_619.out _).trans (((cell_far (p := ⟨gb619, _, none⟩) NB607_619.out _).trans (((cell_far (p := ⟨gb619, _, none⟩) NB607_619.out _).trans (((cell_far (p := ⟨gb619, _, none⟩) NB607_619.out _).trans (hHeld.2.2.2.2.1)))))))))), ((cell_far (p := ⟨gb619, _, none⟩) NB608_619.out _).trans (((cell_far (p := ⟨gb619, _, none⟩) NB608_619.out _).trans (((cell_far (p := ⟨gb619, _, none⟩) NB608_619.out _).trans (((cell_far (p := ⟨gb619, _, none⟩) NB608_619.out _).trans (((cell_far (p := ⟨gb619, _, none⟩) NB608_619.out _).trans (hHeld.2.2.2.2.2.1)))))))))), ((cell_far (p := ⟨gb619, _, none⟩) NB608_619.out _).trans (((cell_far (p := ⟨gb619, _, none⟩) NB608_619.out _).trans (((cell_far (p := ⟨gb619, _, none⟩) NB608_619.out _).trans (((cell_far (p := ⟨gb619, _, none⟩) NB608_619.out _).trans (((cell_far (p := ⟨gb619, _, none⟩) NB608_619.out _).trans (hHeld.2.2.2.2.2.2.1)))))))))), ((cell_far (p := ⟨gb619, _, none⟩) NB608_619.out _).trans (((cell_far (p := ⟨gb619, _, none⟩) NB608_619.out _).trans (((cell_far (p := ⟨gb619, _, none⟩) NB608_619.out _).trans (((cell_far (p := ⟨gb619, _, none⟩) NB608_619.out _).trans (((cell_far (p := ⟨gb619, _, none⟩) NB608_619.out _).trans (hHeld.2.2.2.2.2.2.2.1)))))))))), ((cell_far (p := ⟨gb619, _, none⟩) NB608_619.out _).trans (((cell_far (p := ⟨gb619, _, none⟩) NB608_619.out _).trans (((cell_far (p := ⟨gb619, _, none⟩) NB608_619.out _).trans (((cell_far (p := ⟨gb619, _, none⟩) NB608_619.out _).trans (((cell_far (p := ⟨gb619, _, none⟩) NB608_619.out _).trans (hHeld.2.2.2.2.2.2.2.2.1)))))))))), ((cell_far (p := ⟨gb619, _, none⟩) NB608_619.out _).trans (((cell_far (p := ⟨gb619, _, none⟩) NB608_619.out _).trans (((cell_far (p := ⟨gb619, _, none⟩) NB608_619.out _).trans (((cell_far (p := ⟨gb619, _, none⟩) NB608_619.out _).trans (((cell_far (p := ⟨gb619, _, none⟩) NB608_619.out _).trans (hHeld.2.2.2.2.2.2.2.2.2))))))))))⟩ (fun hHeld => ?_)
 clear hK K
 refine one_ (i := 7) (N := none) #[true, true, true, true, true, true, true, true] rfl rfl (one_of HT_.out (by kernel_rfl)) (by decide) (fun K hK => ?_)
 have hs19 : w13.cell? ⟨gb620, 0, none⟩ = some (.int .i64 0) := (blk_cell BK620.out 0).trans rfl
 have hfs19 := blk_frozen BK620.out 0
 have hns19_0 := NB607_620.out
 have hns19_1 := NB608_620.out
 have hns19_2 := NB619_620.out
 have hms19_0 := NB620_607.out
 have hms19_1 := NB620_608.out
 have hms19_2 := NB620_619.out
 have hs20 : w13.cell? ⟨gb620, 1, none⟩ = some (.int .u32 0) := (blk_cell BK620.out 1).trans rfl
 have hfs20 := blk_frozen BK620.out 1
 have hns20_0 := NB607_620.out
 have hns20_1 := NB608_620.out
 have hns20_2 := NB619_620.out
 have hms20_0 := NB620_607.out
 have hms20_1 := NB620_608.out
 have hms20_2 := NB620_619.out
 have hs21 : w13.cell? ⟨gb620, 2, none⟩ = some (.int .i64 0) := (blk_cell BK620.out 2).trans rfl
 have hfs21 := blk_frozen BK620.out 2
 have hns21_0 := NB607_620.out
 have hns21_1 := NB608_620.out
 have hns21_2 := NB619_620.out
 have hms21_0 := NB620_607.out
 have hms21_1 := NB620_608.out
 have hms21_2 := NB620_619.out
 have hs22 : w13.cell? ⟨gb620, 3, none⟩ = some (.int .i64 0) := (blk_cell BK620.out 3).trans rfl
 have hfs22 := blk_frozen BK620.out 3
 have hns22_0 := NB607_620.out
 have hns22_1 := NB608_620.out
 have hns22_2 := NB619_620.out
 have hms22_0 := NB620_607.out
 have hms22_1 := NB620_608.out
 have hms22_2 := NB620_619.out
 have hs23 : w13.cell? ⟨gb620, 4, none⟩ = some (.int .i64 0) := (blk_cell BK620.out 4).trans rfl
 have hfs23 := blk_frozen BK620.out 4
 have hns23_0 := NB607_620.out
 have hns23_1 := NB608_620.out
 have hns23_2 := NB619_620.out
 have hms23_0 := NB620_607.out
 have hms23_1 := NB620_608.out
 have hms23_2 := NB620_619.out
 refine skip_ (w1 := ?_) (by rfl) rfl ?_ ?_
 rotate_left
 ·go_simp
  rfl
 refine hK.out _ _ ⟨((cell_far (p := ⟨gb620, _, none⟩) NB607_620.out _).trans (((cell_far (p := ⟨gb620, _, none⟩) NB607_620.out _).trans (((cell_far (p := ⟨gb620, _, none⟩) NB607_620.out _).trans (((cell_far (p := ⟨gb620, _, none⟩) NB607_620.out _).trans (((cell_far (p := ⟨gb620, _, none⟩) NB607_620.out _).trans (hHeld.1)))))))))), ((cell_far (p := ⟨gb620, _, none⟩) NB607_620.out _).trans (((cell_far (p := ⟨gb620, _, none⟩) NB607_620.out _).trans (((cell_far (p := ⟨gb620, _, none⟩) NB607_620.out _).trans (((cell_far (p := ⟨gb620, _, none⟩) NB607_620.out _).trans (((cell_far (p := ⟨gb620, _, none⟩) NB607_620.out _).trans (hHeld.2.1)))))))))), ((cell_far (p := ⟨gb620, _, none⟩) NB607_620.out _).trans (((cell_far (p := ⟨gb620, _, none⟩) NB607_620.out _).trans (((cell_far (p := ⟨gb620, _, none⟩) NB607_620.out _).trans (((cell_far (p := ⟨gb620, _, none⟩) NB607_620.out _).trans (((cell_far (p := ⟨gb620, _, none⟩) NB607_620.out _).trans (hHeld.2.2.1)))))))))), ((cell_far (p := ⟨gb620, _, none⟩) NB607_620.out _).trans (((cell_far (p := ⟨gb620, _, none⟩) NB607_620.out _).trans (((cell_far (p := ⟨gb620, _, none⟩) NB607_620.out _).trans (((cell_far (p := ⟨gb620, _, none⟩) NB607_620.out _).trans (((cell_far (p := ⟨gb620, _, none⟩) NB607_620.out _).trans (hHeld.2.2.2.1)))))))))), ((cell_far (p := ⟨gb620, _, none⟩) NB607_620.out _).trans (((cell_far (p := ⟨gb620, _, none⟩) NB607_620.out _).trans (((cell_far (p := ⟨gb620, _, none⟩) NB607_620.out _).trans (((cell_far (p := ⟨gb620, _, none⟩) NB607_620.out _).trans (((cell_far (p := ⟨gb620, _, none⟩) NB607_620.out _).trans (hHeld.2.2.2.2.1)))))))))), ((cell_far (p := ⟨gb620, _, none⟩) NB608_620.out _).trans (((cell_far (p := ⟨gb620, _, none⟩) NB608_620.out _).trans (((cell_far (p := ⟨gb620, _, none⟩) NB608_620.out _).trans (((cell_far (p := ⟨gb620, _, none⟩) NB608_620.out _).trans (((cell_far (p := ⟨gb620, _, none⟩) NB608_620.out _).trans (hHeld.2.2.2.2.2.1)))))))))), ((cell_far (p := ⟨gb620, _, none⟩) NB608_620.out _).trans (((cell_far (p := ⟨gb620, _, none⟩) NB608_620.out _).trans (((cell_far (p := ⟨gb620, _, none⟩) NB608_620.out _).trans (((cell_far (p := ⟨gb620, _, none⟩) NB608_620.out _).trans (((cell_far (p := ⟨gb620, _, none⟩) NB608_620.out _).trans (hHeld.2.2.2.2.2.2.1)))))))))), ((cell_far (p := ⟨gb620, _, none⟩) NB608_620.out _).trans (((cell_far (p := ⟨gb620, _, none⟩) NB608_620.out _).trans (((cell_far (p := ⟨gb620, _, none⟩) NB608_620.out _).trans (((cell_far (p := ⟨gb620, _, none⟩) NB608_620.out _).trans (((cell_far (p := ⟨gb620, _, none⟩) NB608_620.out _).trans (hHeld.2.2.2.2.2.2.2.1)))))))))), ((cell_far (p := ⟨gb620, _, none⟩) NB608_620.out _).trans (((cell_far (p := ⟨gb620, _, none⟩) NB608_620.out _).trans (((cell_far (p := ⟨gb620, _, none⟩) NB608_620.out _).trans (((cell_far (p := ⟨gb620, _, none⟩) NB608_620.out _).trans (((cell_far (p := ⟨gb620, _, none⟩) NB608_620.out _).trans (hHeld.2.2.2.2.2.2.2.2.1)))))))))), ((cell_far (p := ⟨gb620, _, none⟩) NB608_620.out _).trans (((cell_far (p := ⟨gb620, _, none⟩) NB608_620.out _).trans (((cell_far (p := ⟨gb620, _, none⟩) NB608_620.out _).trans (((cell_far (p := ⟨gb620, _, none⟩) NB608_620.out _).trans (((cell_far (p := ⟨gb620, _, none⟩) NB608_620.out _).trans (hHeld.2.2.2.2.2.2.2.2.2))))))))))⟩ (fun hHeld => ?_)
 clear hK K
 refine done_ (done_of HT_.out (by kernel_rfl)) ?_
 go_upto_region 2 with (fail)
 go_cut [18] (fun v18 wc => ∃ (kq : Nat) (x18_4 : Bool), v18 = .bool x18_4 ∧ Aside0 (credenzalaw28_ScriptSays.j0 kq x18_4 a0_0 a0_1 a0_2 a0_3 a0_4 a1_0 a1_1 a1_2 a1_3 a1_4 t609 t610 t611 t612 t613 t614 t615 t616 t617 t618 = some r) ∧ Aside0 (kq ≤ k) ∧ Aside0 (wc.heap[gb607]? = some (.cells #[.int .i64 a0_0, .int .u32 a0_1, .int .i64 a0_2, .int .i64 a0_3, .int .i64 a0_4] 32 (0, 0))) ∧ Aside0 (wc.heap[gb608]? = some (.cells #[.int .i64 a1_0, .int .u32 a1_1, .int .i64 a1_2, .int .i64 a1_3, .int .i64 a1_4] 32 (0, 0))) ∧ Aside0 (wc.heap[gb619]? = some (.cells #[.int .i64 t609, .int .u32 t610, .int .i64 t611, .int .i64 t612, .int .i64 t613] 34 (0, 0))) ∧ Aside0 (wc.heap[gb620]? = some (.cells #[.int .i64 t614, .int .u32 t615, .int .i64 t616, .int .i64 t617, .int .i64 t618] 34 (0, 0))) ∧ Aside0 (Below w.heap.size w wc))
 case first =>
  have H := HC5.out
  clear HC5
  replace H := Option.bind_eq_some_iff.mp H
  obtain ⟨t621, A240, H⟩ := H
  replace H : (if t621 = 0 then ((credenzaref23_Right.f k t614 t615 t616 t617 t618).bind fun t622 => (credenzalaw28_ScriptSays.j0 k (t622 != 0) a0_0 a0_1 a0_2 a0_3 a0_4 a1_0 a1_1 a1_2 a1_3 a1_4 t609 t610 t611 t612 t613 t614 t615 t616 t617 t618)) else (credenzalaw28_ScriptSays.j0 k true a0_0 a0_1 a0_2 a0_3 a0_4 a1_0 a1_1 a1_2 a1_3 a1_4 t609 t610 t611 t612 t613 t614 t615 t616 t617 t618)) = some r := H
  have A24 := Aside0.mk A240
  clear A240
  by_cases c25 : t621 = 0
  ·rw [if_pos c25] at H
   have c25b0 : (t621 == 0) = true := beq_iff_eq.mpr c25
   have c25b1 : (t621 != 0) = false := bne_eq_false_iff_eq.mpr c25
   clear c25
   (first | rw [c25b0] | (simp only [i64_w, i32_w]; rw [c25b0]) | skip)
   replace H := Option.bind_eq_some_iff.mp H
   obtain ⟨t622, A260, H⟩ := H
   replace H : (credenzalaw28_ScriptSays.j0 k (t622 != 0) a0_0 a0_1 a0_2 a0_3 a0_4 a1_0 a1_1 a1_2 a1_3 a1_4 t609 t610 t611 t612 t613 t614 t615 t616 t617 t618) = some r := H
   have A26 := Aside0.mk A260
   clear A260
   have H' := Aside0.mk H
   clear H
   have hnb27 := NB619_607.out
   have hnc27 := NB607_619.out
   have hnb28 := NB619_608.out
   have hnc28 := NB608_619.out
   have hnb29 := NB619_620.out
   have hnc29 := NB620_619.out
   have hcz30_0 : w13.cell? ⟨gb619, 0, none⟩ = some (.int .i64 0) := (blk_cell BK619.out 0).trans rfl
   have hcz30_1 : w13.cell? ⟨gb619, 1, none⟩ = some (.int .u32 0) := (blk_cell BK619.out 1).trans rfl
   have hcz30_2 : w13.cell? ⟨gb619, 2, none⟩ = some (.int .i64 0) := (blk_cell BK619.out 2).trans rfl
   have hcz30_3 : w13.cell? ⟨gb619, 3, none⟩ = some (.int .i64 0) := (blk_cell BK619.out 3).trans rfl
   have hcz30_4 : w13.cell? ⟨gb619, 4, none⟩ = some (.int .i64 0) := (blk_cell BK619.out 4).trans rfl
   have hfz30_0 := blk_frozen BK619.out 0
   have hfz30_1 := blk_frozen BK619.out 1
   have hfz30_2 := blk_frozen BK619.out 2
   have hfz30_3 := blk_frozen BK619.out 3
   have hfz30_4 := blk_frozen BK619.out 4
   go_wp2_with (first | ((with_reducible refine gate_callee (f := 10) rfl ?_); refine goesL_ (some 12) rfl rfl Tryz.func10 (by kernel_rfl) rfl #[.agg #[.int .i64 t609, .int .u32 t610, .int .i64 t611, .int .i64 t612, .int .i64 t613]] rfl (by (try simp only [List.map_toArray, List.map_cons, List.map_nil]); first | done | rfl | (simp only [List.length_drop, List.length_take]; rfl)) ?_; (with_reducible refine (credenzaref23_Right.calls k t609 t610 t611 t612 t613 t621 _ A24.out).mono ?_); rintro e w31 ⟨rfl, hb⟩; refine ⟨_, rfl, ?_⟩; have n0_ := Aside0.mk (blk_below (g := gb607) (o := .cells #[.int .i64 a0_0, .int .u32 a0_1, .int .i64 a0_2, .int .i64 a0_3, .int .i64 a0_4] 32 (0, 0)) (by (with_reducible repeat (first | refine blk_drewN ?_ _ | refine blk_drew ?_ | refine blk_alloc ?_ _)); refine blk_far ?_ NB607_620.out _; (with_reducible repeat (first | refine blk_drewN ?_ _ | refine blk_drew ?_ | refine blk_alloc ?_ _)); refine blk_far ?_ NB607_620.out _; (with_reducible repeat (first | refine blk_drewN ?_ _ | refine blk_drew ?_ | refine blk_alloc ?_ _)); refine blk_far ?_ NB607_620.out _; (with_reducible repeat (first | refine blk_drewN ?_ _ | refine blk_drew ?_ | refine blk_alloc ?_ _)); refine blk_far ?_ NB607_620.out _; (with_reducible repeat (first | refine blk_drewN ?_ _ | refine blk_drew ?_ | refine blk_alloc ?_ _)); refine blk_far ?_ NB607_620.out _; (with_reducible repeat (first | refine blk_drewN ?_ _ | refine blk_drew ?_ | refine blk_alloc ?_ _)); refine blk_far ?_ NB607_619.out _; (with_reducible repeat (first | refine blk_drewN ?_ _ | refine blk_drew ?_ | refine blk_alloc ?_ _)); refine blk_far ?_ NB607_619.out _; (with_reducible repeat (first | refine blk_drewN ?_ _ | refine blk_drew ?_ | refine blk_alloc ?_ _)); refine blk_far ?_ NB607_619.out _; (with_reducible repeat (first | refine blk_drewN ?_ _ | refine blk_drew ?_ | refine blk_alloc ?_ _)); refine blk_far ?_ NB607_619.out _; (with_reducible repeat (first | refine blk_drewN ?_ _ | refine blk_drew ?_ | refine blk_alloc ?_ _)); refine blk_far ?_ NB607_619.out _; (with_reducible repeat (first | refine blk_drewN ?_ _ | refine blk_drew ?_ | refine blk_alloc ?_ _)); exact BK607.out) hb); have n1_ := Aside0.mk (blk_below (g := gb608) (o := .cells #[.int .i64 a1_0, .int .u32 a1_1, .int .i64 a1_2, .int .i64 a1_3, .int .i64 a1_4] 32 (0, 0)) (by (with_reducible repeat (first | refine blk_drewN ?_ _ | refine blk_drew ?_ | refine blk_alloc ?_ _)); refine blk_far ?_ NB608_620.out _; (with_reducible repeat (first | refine blk_drewN ?_ _ | refine blk_drew ?_ | refine blk_alloc ?_ _)); refine blk_far ?_ NB608_620.out _; (with_reducible repeat (first | refine blk_drewN ?_ _ | refine blk_drew ?_ | refine blk_alloc ?_ _)); refine blk_far ?_ NB608_620.out _; (with_reducible repeat (first | refine blk_drewN ?_ _ | refine blk_drew ?_ | refine blk_alloc ?_ _)); refine blk_far ?_ NB608_620.out _; (with_reducible repeat (first | refine blk_drewN ?_ _ | refine blk_drew ?_ | refine blk_alloc ?_ _)); refine blk_far ?_ NB608_620.out _; (with_reducible repeat (first | refine blk_drewN ?_ _ | refine blk_drew ?_ | refine blk_alloc ?_ _)); refine blk_far ?_ NB608_619.out _; (with_reducible repeat (first | refine blk_drewN ?_ _ | refine blk_drew ?_ | refine blk_alloc ?_ _)); refine blk_far ?_ NB608_619.out _; (with_reducible repeat (first | refine blk_drewN ?_ _ | refine blk_drew ?_ | refine blk_alloc ?_ _)); refine blk_far ?_ NB608_619.out _; (with_reducible repeat (first | refine blk_drewN ?_ _ | refine blk_drew ?_ | refine blk_alloc ?_ _)); refine blk_far ?_ NB608_619.out _; (with_reducible repeat (first | refine blk_drewN ?_ _ | refine blk_drew ?_ | refine blk_alloc ?_ _)); refine blk_far ?_ NB608_619.out _; (with_reducible repeat (first | refine blk_drewN ?_ _ | refine blk_drew ?_ | refine blk_alloc ?_ _)); exact BK608.out) hb); have n2_ := Aside0.mk (blk_below (g := gb619) (o := .cells #[.int .i64 t609, .int .u32 t610, .int .i64 t611, .int .i64 t612, .int .i64 t613] 34 (0, 0)) (by (with_reducible repeat (first | refine blk_drewN ?_ _ | refine blk_drew ?_ | refine blk_alloc ?_ _)); refine blk_far ?_ NB619_620.out _; (with_reducible repeat (first | refine blk_drewN ?_ _ | refine blk_drew ?_ | refine blk_alloc ?_ _)); refine blk_far ?_ NB619_620.out _; (with_reducible repeat (first | refine blk_drewN ?_ _ | refine blk_drew ?_ | refine blk_alloc ?_ _)); refine blk_far ?_ NB619_620.out _; (with_reducible repeat (first | refine blk_drewN ?_ _ | refine blk_drew ?_ | refine blk_alloc ?_ _)); refine blk_far ?_ NB619_620.out _; (with_reducible repeat (first | refine blk_drewN ?_ _ | refine blk_drew ?_ | refine blk_alloc ?_ _)); refine blk_far ?_ NB619_620.out _; (with_reducible repeat (first | refine blk_drewN ?_ _ | refine blk_drew ?_ | refine blk_alloc ?_ _)); refine blk_put (cs := #[.int .i64 t609, .int .u32 t610, .int .i64 t611, .int .i64 t612, .int .i64 0]) ?_ 4 _ rfl; (with_reducible repeat (first | refine blk_drewN ?_ _ | refine blk_drew ?_ | refine blk_alloc ?_ _)); refine blk_put (cs := #[.int .i64 t609, .int .u32 t610, .int .i64 t611, .int .i64 0, .int .i64 0]) ?_ 3 _ rfl; (with_reducible repeat (first | refine blk_drewN ?_ _ | refine blk_drew ?_ | refine blk_alloc ?_ _)); refine blk_put (cs := #[.int .i64 t609, .int .u32 t610, .int .i64 0, .int .i64 0, .int .i64 0]) ?_ 2 _ rfl; (with_reducible repeat (first | refine blk_drewN ?_ _ | refine blk_drew ?_ | refine blk_alloc ?_ _)); refine blk_put (cs := #[.int .i64 t609, .int .u32 0, .int .i64 0, .int .i64 0, .int .i64 0]) ?_ 1 _ rfl; (with_reducible repeat (first | refine blk_drewN ?_ _ | refine blk_drew ?_ | refine blk_alloc ?_ _)); refine blk_put (cs := #[.int .i64 0, .int .u32 0, .int .i64 0, .int .i64 0, .int .i64 0]) ?_ 0 _ rfl; (with_reducible repeat (first | refine blk_drewN ?_ _ | refine blk_drew ?_ | refine blk_alloc ?_ _)); exact BK619.out) hb); have n3_ := Aside0.mk (blk_below (g := gb620) (o := .cells #[.int .i64 t614, .int .u32 t615, .int .i64 t616, .int .i64 t617, .int .i64 t618] 34 (0, 0)) (by (with_reducible repeat (first | refine blk_drewN ?_ _ | refine blk_drew ?_ | refine blk_alloc ?_ _)); refine blk_put (cs := #[.int .i64 t614, .int .u32 t615, .int .i64 t616, .int .i64 t617, .int .i64 0]) ?_ 4 _ rfl; (with_reducible repeat (first | refine blk_drewN ?_ _ | refine blk_drew ?_ | refine blk_alloc ?_ _)); refine blk_put (cs := #[.int .i64 t614, .int .u32 t615, .int .i64 t616, .int .i64 0, .int .i64 0]) ?_ 3 _ rfl; (with_reducible repeat (first | refine blk_drewN ?_ _ | refine blk_drew ?_ | refine blk_alloc ?_ _)); refine blk_put (cs := #[.int .i64 t614, .int .u32 t615, .int .i64 0, .int .i64 0, .int .i64 0]) ?_ 2 _ rfl; (with_reducible repeat (first | refine blk_drewN ?_ _ | refine blk_drew ?_ | refine blk_alloc ?_ _)); refine blk_put (cs := #[.int .i64 t614, .int .u32 0, .int .i64 0, .int .i64 0, .int .i64 0]) ?_ 1 _ rfl; (with_reducible repeat (first | refine blk_drewN ?_ _ | refine blk_drew ?_ | refine blk_alloc ?_ _)); refine blk_put (cs := #[.int .i64 0, .int .u32 0, .int .i64 0, .int .i64 0, .int .i64 0]) ?_ 0 _ rfl; (with_reducible repeat (first | refine blk_drewN ?_ _ | refine blk_drew ?_ | refine blk_alloc ?_ _)); refine blk_far ?_ NB620_619.out _; (with_reducible repeat (first | refine blk_drewN ?_ _ | refine blk_drew ?_ | refine blk_alloc ?_ _)); refine blk_far ?_ NB620_619.out _; (with_reducible repeat (first | refine blk_drewN ?_ _ | refine blk_drew ?_ | refine blk_alloc ?_ _)); refine blk_far ?_ NB620_619.out _; (with_reducible repeat (first | refine blk_drewN ?_ _ | refine blk_drew ?_ | refine blk_alloc ?_ _)); refine blk_far ?_ NB620_619.out _; (with_reducible repeat (first | refine blk_drewN ?_ _ | refine blk_drew ?_ | refine blk_alloc ?_ _)); refine blk_far ?_ NB620_619.out _; (with_reducible repeat (first | refine blk_drewN ?_ _ | refine blk_drew ?_ | refine blk_alloc ?_ _)); exact BK620.out) hb); have n4_ := Aside0.mk (below_step (by repeat (first | (with_reducible first | exact HB.out | apply below_alloc | apply pw_below_drewN | apply below_drew1 | refine below_set ?_ GE607.out | refine below_set ?_ GE608.out | refine below_set ?_ GE619.out | refine below_set ?_ GE620.out) | exact HB.out)) hb); clear BK607; clear BK608; clear BK619; clear BK620; clear HB; have BK607 := n0_; have BK608 := n1_; have BK619 := n2_; have BK620 := n3_; have HB := n4_; clear n0_ n1_ n2_ n3_ n4_; (try clear hb); (try clear hb2); (try clear hk); (try clear hi); have hnb32 := NB620_607.out; have hnc32 := NB607_620.out; have hnb33 := NB620_608.out; have hnc33 := NB608_620.out; have hcz34_0 : w31.cell? ⟨gb620, 0, none⟩ = some (.int .i64 t614) := (blk_cell BK620.out 0).trans rfl; have hcz34_1 : w31.cell? ⟨gb620, 1, none⟩ = some (.int .u32 t615) := (blk_cell BK620.out 1).trans rfl; have hcz34_2 : w31.cell? ⟨gb620, 2, none⟩ = some (.int .i64 t616) := (blk_cell BK620.out 2).trans rfl; have hcz34_3 : w31.cell? ⟨gb620, 3, none⟩ = some (.int .i64 t617) := (blk_cell BK620.out 3).trans rfl; have hcz34_4 : w31.cell? ⟨gb620, 4, none⟩ = some (.int .i64 t618) := (blk_cell BK620.out 4).trans rfl; have hfz34_0 := blk_frozen BK620.out 0; have hfz34_1 := blk_frozen BK620.out 1; have hfz34_2 := blk_frozen BK620.out 2; have hfz34_3 := blk_frozen BK620.out 3; have hfz34_4 := blk_frozen BK620.out 4) | (go_at_call 10; (with_reducible refine (credenzaref23_Right.calls k t614 t615 t616 t617 t618 t622 _ A26.out).mono ?_); rintro e w35 ⟨rfl, hb⟩; have n0_ := Aside0.mk (blk_below (g := gb607) (o := .cells #[.int .i64 a0_0, .int .u32 a0_1, .int .i64 a0_2, .int .i64 a0_3, .int .i64 a0_4] 32 (0, 0)) (by (with_reducible repeat (first | refine blk_drewN ?_ _ | refine blk_drew ?_ | refine blk_alloc ?_ _)); exact BK607.out) hb); have n1_ := Aside0.mk (blk_below (g := gb608) (o := .cells #[.int .i64 a1_0, .int .u32 a1_1, .int .i64 a1_2, .int .i64 a1_3, .int .i64 a1_4] 32 (0, 0)) (by (with_reducible repeat (first | refine blk_drewN ?_ _ | refine blk_drew ?_ | refine blk_alloc ?_ _)); exact BK608.out) hb); have n2_ := Aside0.mk (blk_below (g := gb619) (o := .cells #[.int .i64 t609, .int .u32 t610, .int .i64 t611, .int .i64 t612, .int .i64 t613] 34 (0, 0)) (by (with_reducible repeat (first | refine blk_drewN ?_ _ | refine blk_drew ?_ | refine blk_alloc ?_ _)); exact BK619.out) hb); have n3_ := Aside0.mk (blk_below (g := gb620) (o := .cells #[.int .i64 t614, .int .u32 t615, .int .i64 t616, .int .i64 t617, .int .i64 t618] 34 (0, 0)) (by (with_reducible repeat (first | refine blk_drewN ?_ _ | refine blk_drew ?_ | refine blk_alloc ?_ _)); exact BK620.out) hb); have n4_ := Aside0.mk (below_step (by repeat (first | (with_reducible first | exact HB.out | apply below_alloc | apply pw_below_drewN | apply below_drew1 | refine below_set ?_ GE607.out | refine below_set ?_ GE608.out | refine below_set ?_ GE619.out | refine below_set ?_ GE620.out) | exact HB.out)) hb); clear BK607; clear BK608; clear BK619; clear BK620; clear HB; have BK607 := n0_; have BK608 := n1_; have BK619 := n2_; have BK620 := n3_; have HB := n4_; clear n0_ n1_ n2_ n3_ n4_; (try clear hb); (try clear hb2); (try clear hk); (try clear hi)))
   go_meet
   case rel => exact ⟨_, ((t622 != 0)), (by first | rfl | (simp; done) | (simp [*]; done)), H', ⟨by first | omega | exact Nat.le_refl _⟩, ⟨by (with_reducible repeat (first | refine blk_drewN ?_ _ | refine blk_drew ?_ | refine blk_alloc ?_ _)); exact BK607.out⟩, ⟨by (with_reducible repeat (first | refine blk_drewN ?_ _ | refine blk_drew ?_ | refine blk_alloc ?_ _)); exact BK608.out⟩, ⟨by (with_reducible repeat (first | refine blk_drewN ?_ _ | refine blk_drew ?_ | refine blk_alloc ?_ _)); exact BK619.out⟩, ⟨by (with_reducible repeat (first | refine blk_drewN ?_ _ | refine blk_drew ?_ | refine blk_alloc ?_ _)); exact BK620.out⟩, ⟨by repeat (first | (with_reducible first | exact HB.out | apply below_alloc | apply pw_below_drewN | apply below_drew1 | refine below_set ?_ GE607.out | refine below_set ?_ GE608.out | refine below_set ?_ GE619.out | refine below_set ?_ GE620.out) | exact HB.out)⟩⟩
  ·rw [if_neg c25] at H
   have c25b0 : (t621 == 0) = false := beq_eq_false_iff_ne.mpr c25
   have c25b1 : (t621 != 0) = true := bne_iff_ne.mpr c25
   (first | rw [c25b0] | (simp only [i64_w, i32_w]; rw [c25b0]) | skip)
   have H' := Aside0.mk H
   clear H
   have hnb36 := NB619_607.out
   have hnc36 := NB607_619.out
   have hnb37 := NB619_608.out
   have hnc37 := NB608_619.out
   have hnb38 := NB619_620.out
   have hnc38 := NB620_619.out
   have hcz39_0 : w13.cell? ⟨gb619, 0, none⟩ = some (.int .i64 0) := (blk_cell BK619.out 0).trans rfl
   have hcz39_1 : w13.cell? ⟨gb619, 1, none⟩ = some (.int .u32 0) := (blk_cell BK619.out 1).trans rfl
   have hcz39_2 : w13.cell? ⟨gb619, 2, none⟩ = some (.int .i64 0) := (blk_cell BK619.out 2).trans rfl
   have hcz39_3 : w13.cell? ⟨gb619, 3, none⟩ = some (.int .i64 0) := (blk_cell BK619.out 3).trans rfl
   have hcz39_4 : w13.cell? ⟨gb619, 4, none⟩ = some (.int .i64 0) := (blk_cell BK619.out 4).trans rfl
   have hfz39_0 := blk_frozen BK619.out 0
   have hfz39_1 := blk_frozen BK619.out 1
   have hfz39_2 := blk_frozen BK619.out 2
   have hfz39_3 := blk_frozen BK619.out 3
   have hfz39_4 := blk_frozen BK619.out 4
   go_wp2_with (first | ((with_reducible refine gate_callee (f := 10) rfl ?_); refine goesL_ (some 12) rfl rfl Tryz.func10 (by kernel_rfl) rfl #[.agg #[.int .i64 t609, .int .u32 t610, .int .i64 t611, .int .i64 t612, .int .i64 t613]] rfl (by (try simp only [List.map_toArray, List.map_cons, List.map_nil]); first | done | rfl | (simp only [List.length_drop, List.length_take]; rfl)) ?_; (with_reducible refine (credenzaref23_Right.calls k t609 t610 t611 t612 t613 t621 _ A24.out).mono ?_); rintro e w40 ⟨rfl, hb⟩; refine ⟨_, rfl, ?_⟩; have n0_ := Aside0.mk (blk_below (g := gb607) (o := .cells #[.int .i64 a0_0, .int .u32 a0_1, .int .i64 a0_2, .int .i64 a0_3, .int .i64 a0_4] 32 (0, 0)) (by (with_reducible repeat (first | refine blk_drewN ?_ _ | refine blk_drew ?_ | refine blk_alloc ?_ _)); refine blk_far ?_ NB607_620.out _; (with_reducible repeat (first | refine blk_drewN ?_ _ | refine blk_drew ?_ | refine blk_alloc ?_ _)); refine blk_far ?_ NB607_620.out _; (with_reducible repeat (first | refine blk_drewN ?_ _ | refine blk_drew ?_ | refine blk_alloc ?_ _)); refine blk_far ?_ NB607_620.out _; (with_reducible repeat (first | refine blk_drewN ?_ _ | refine blk_drew ?_ | refine blk_alloc ?_ _)); refine blk_far ?_ NB607_620.out _; (with_reducible repeat (first | refine blk_drewN ?_ _ | refine blk_drew ?_ | refine blk_alloc ?_ _)); refine blk_far ?_ NB607_620.out _; (with_reducible repeat (first | refine blk_drewN ?_ _ | refine blk_drew ?_ | refine blk_alloc ?_ _)); refine blk_far ?_ NB607_619.out _; (with_reducible repeat (first | refine blk_drewN ?_ _ | refine blk_drew ?_ | refine blk_alloc ?_ _)); refine blk_far ?_ NB607_619.out _; (with_reducible repeat (first | refine blk_drewN ?_ _ | refine blk_drew ?_ | refine blk_alloc ?_ _)); refine blk_far ?_ NB607_619.out _; (with_reducible repeat (first | refine blk_drewN ?_ _ | refine blk_drew ?_ | refine blk_alloc ?_ _)); refine blk_far ?_ NB607_619.out _; (with_reducible repeat (first | refine blk_drewN ?_ _ | refine blk_drew ?_ | refine blk_alloc ?_ _)); refine blk_far ?_ NB607_619.out _; (with_reducible repeat (first | refine blk_drewN ?_ _ | refine blk_drew ?_ | refine blk_alloc ?_ _)); exact BK607.out) hb); have n1_ := Aside0.mk (blk_below (g := gb608) (o := .cells #[.int .i64 a1_0, .int .u32 a1_1, .int .i64 a1_2, .int .i64 a1_3, .int .i64 a1_4] 32 (0, 0)) (by (with_reducible repeat (first | refine blk_drewN ?_ _ | refine blk_drew ?_ | refine blk_alloc ?_ _)); refine blk_far ?_ NB608_620.out _; (with_reducible repeat (first | refine blk_drewN ?_ _ | refine blk_drew ?_ | refine blk_alloc ?_ _)); refine blk_far ?_ NB608_620.out _; (with_reducible repeat (first | refine blk_drewN ?_ _ | refine blk_drew ?_ | refine blk_alloc ?_ _)); refine blk_far ?_ NB608_620.out _; (with_reducible repeat (first | refine blk_drewN ?_ _ | refine blk_drew ?_ | refine blk_alloc ?_ _)); refine blk_far ?_ NB608_620.out _; (with_reducible repeat (first | refine blk_drewN ?_ _ | refine blk_drew ?_ | refine blk_alloc ?_ _)); refine blk_far ?_ NB608_620.out _; (with_reducible repeat (first | refine blk_drewN ?_ _ | refine blk_drew ?_ | refine blk_alloc ?_ _)); refine blk_far ?_ NB608_619.out _; (with_reducible repeat (first | refine blk_drewN ?_ _ | refine blk_drew ?_ | refine blk_alloc ?_ _)); refine blk_far ?_ NB608_619.out _; (with_reducible repeat (first | refine blk_drewN ?_ _ | refine blk_drew ?_ | refine blk_alloc ?_ _)); refine blk_far ?_ NB608_619.out _; (with_reducible repeat (first | refine blk_drewN ?_ _ | refine blk_drew ?_ | refine blk_alloc ?_ _)); refine blk_far ?_ NB608_619.out _; (with_reducible repeat (first | refine blk_drewN ?_ _ | refine blk_drew ?_ | refine blk_alloc ?_ _)); refine blk_far ?_ NB608_619.out _; (with_reducible repeat (first | refine blk_drewN ?_ _ | refine blk_drew ?_ | refine blk_alloc ?_ _)); exact BK608.out) hb); have n2_ := Aside0.mk (blk_below (g := gb619) (o := .cells #[.int .i64 t609, .int .u32 t610, .int .i64 t611, .int .i64 t612, .int .i64 t613] 34 (0, 0)) (by (with_reducible repeat (first | refine blk_drewN ?_ _ | refine blk_drew ?_ | refine blk_alloc ?_ _)); refine blk_far ?_ NB619_620.out _; (with_reducible repeat (first | refine blk_drewN ?_ _ | refine blk_drew ?_ | refine blk_alloc ?_ _)); refine blk_far ?_ NB619_620.out _; (with_reducible repeat (first | refine blk_drewN ?_ _ | refine blk_drew ?_ | refine blk_alloc ?_ _)); refine blk_far ?_ NB619_620.out _; (with_reducible repeat (first | refine blk_drewN ?_ _ | refine blk_drew ?_ | refine blk_alloc ?_ _)); refine blk_far ?_ NB619_620.out _; (with_reducible repeat (first | refine blk_drewN ?_ _ | refine blk_drew ?_ | refine blk_alloc ?_ _)); refine blk_far ?_ NB619_620.out _; (with_reducible repeat (first | refine blk_drewN ?_ _ | refine blk_drew ?_ | refine blk_alloc ?_ _)); refine blk_put (cs := #[.int .i64 t609, .int .u32 t610, .int .i64 t611, .int .i64 t612, .int .i64 0]) ?_ 4 _ rfl; (with_reducible repeat (first | refine blk_drewN ?_ _ | refine blk_drew ?_ | refine blk_alloc ?_ _)); refine blk_put (cs := #[.int .i64 t609, .int .u32 t610, .int .i64 t611, .int .i64 0, .int .i64 0]) ?_ 3 _ rfl; (with_reducible repeat (first | refine blk_drewN ?_ _ | refine blk_drew ?_ | refine blk_alloc ?_ _)); refine blk_put (cs := #[.int .i64 t609, .int .u32 t610, .int .i64 0, .int .i64 0, .int .i64 0]) ?_ 2 _ rfl; (with_reducible repeat (first | refine blk_drewN ?_ _ | refine blk_drew ?_ | refine blk_alloc ?_ _)); refine blk_put (cs := #[.int .i64 t609, .int .u32 0, .int .i64 0, .int .i64 0, .int .i64 0]) ?_ 1 _ rfl; (with_reducible repeat (first | refine blk_drewN ?_ _ | refine blk_drew ?_ | refine blk_alloc ?_ _)); refine blk_put (cs := #[.int .i64 0, .int .u32 0, .int .i64 0, .int .i64 0, .int .i64 0]) ?_ 0 _ rfl; (with_reducible repeat (first | refine blk_drewN ?_ _ | refine blk_drew ?_ | refine blk_alloc ?_ _)); exact BK619.out) hb); have n3_ := Aside0.mk (blk_below (g := gb620) (o := .cells #[.int .i64 t614, .int .u32 t615, .int .i64 t616, .int .i64 t617, .int .i64 t618] 34 (0, 0)) (by (with_reducible repeat (first | refine blk_drewN ?_ _ | refine blk_drew ?_ | refine blk_alloc ?_ _)); refine blk_put (cs := #[.int .i64 t614, .int .u32 t615, .int .i64 t616, .int .i64 t617, .int .i64 0]) ?_ 4 _ rfl; (with_reducible repeat (first | refine blk_drewN ?_ _ | refine blk_drew ?_ | refine blk_alloc ?_ _)); refine blk_put (cs := #[.int .i64 t614, .int .u32 t615, .int .i64 t616, .int .i64 0, .int .i64 0]) ?_ 3 _ rfl; (with_reducible repeat (first | refine blk_drewN ?_ _ | refine blk_drew ?_ | refine blk_alloc ?_ _)); refine blk_put (cs := #[.int .i64 t614, .int .u32 t615, .int .i64 0, .int .i64 0, .int .i64 0]) ?_ 2 _ rfl; (with_reducible repeat (first | refine blk_drewN ?_ _ | refine blk_drew ?_ | refine blk_alloc ?_ _)); refine blk_put (cs := #[.int .i64 t614, .int .u32 0, .int .i64 0, .int .i64 0, .int .i64 0]) ?_ 1 _ rfl; (with_reducible repeat (first | refine blk_drewN ?_ _ | refine blk_drew ?_ | refine blk_alloc ?_ _)); refine blk_put (cs := #[.int .i64 0, .int .u32 0, .int .i64 0, .int .i64 0, .int .i64 0]) ?_ 0 _ rfl; (with_reducible repeat (first | refine blk_drewN ?_ _ | refine blk_drew ?_ | refine blk_alloc ?_ _)); refine blk_far ?_ NB620_619.out _; (with_reducible repeat (first | refine blk_drewN ?_ _ | refine blk_drew ?_ | refine blk_alloc ?_ _)); refine blk_far ?_ NB620_619.out _; (with_reducible repeat (first | refine blk_drewN ?_ _ | refine blk_drew ?_ | refine blk_alloc ?_ _)); refine blk_far ?_ NB620_619.out _; (with_reducible repeat (first | refine blk_drewN ?_ _ | refine blk_drew ?_ | refine blk_alloc ?_ _)); refine blk_far ?_ NB620_619.out _; (with_reducible repeat (first | refine blk_drewN ?_ _ | refine blk_drew ?_ | refine blk_alloc ?_ _)); refine blk_far ?_ NB620_619.out _; (with_reducible repeat (first | refine blk_drewN ?_ _ | refine blk_drew ?_ | refine blk_alloc ?_ _)); exact BK620.out) hb); have n4_ := Aside0.mk (below_step (by repeat (first | (with_reducible first | exact HB.out | apply below_alloc | apply pw_below_drewN | apply below_drew1 | refine below_set ?_ GE607.out | refine below_set ?_ GE608.out | refine below_set ?_ GE619.out | refine below_set ?_ GE620.out) | exact HB.out)) hb); clear BK607; clear BK608; clear BK619; clear BK620; clear HB; have BK607 := n0_; have BK608 := n1_; have BK619 := n2_; have BK620 := n3_; have HB := n4_; clear n0_ n1_ n2_ n3_ n4_; (try clear hb); (try clear hb2); (try clear hk); (try clear hi)))
   go_meet
   case rel => exact ⟨_, (true), (by first | rfl | (simp; done) | (simp [*]; done)), H', ⟨by first | omega | exact Nat.le_refl _⟩, ⟨by (with_reducible repeat (first | refine blk_drewN ?_ _ | refine blk_drew ?_ | refine blk_alloc ?_ _)); exact BK607.out⟩, ⟨by (with_reducible repeat (first | refine blk_drewN ?_ _ | refine blk_drew ?_ | refine blk_alloc ?_ _)); exact BK608.out⟩, ⟨by (with_reducible repeat (first | refine blk_drewN ?_ _ | refine blk_drew ?_ | refine blk_alloc ?_ _)); exact BK619.out⟩, ⟨by (with_reducible repeat (first | refine blk_drewN ?_ _ | refine blk_drew ?_ | refine blk_alloc ?_ _)); exact BK620.out⟩, ⟨by repeat (first | (with_reducible first | exact HB.out | apply below_alloc | apply pw_below_drewN | apply below_drew1 | refine below_set ?_ GE607.out | refine below_set ?_ GE608.out | refine below_set ?_ GE619.out | refine below_set ?_ GE620.out) | exact HB.out)⟩⟩
 case rest =>
  clear HC5
  try clear c1
  try clear c2
  try clear p2
  try clear c3
  try clear c9
  try clear c10
  try clear c25
  try clear c25b0
  try clear c25b1
  try clear c27
  try clear c28
  try clear c29
  try clear c32
  try clear c33
  try clear c36
  try clear c37
  try clear c38
  try clear hcz30_0
  try clear hcz30_1
  try clear hcz30_2
  try clear hcz30_3
  try clear hcz30_4
  try clear hcz34_0
  try clear hcz34_1
  try clear hcz34_2
  try clear hcz34_3
  try clear hcz34_4
  try clear hcz39_0
  try clear hcz39_1
  try clear hcz39_2
  try clear hcz39_3
  try clear hcz39_4
  try clear hfz30_0
  try clear hfz30_1
  try clear hfz30_2
  try clear hfz30_3
  try clear hfz30_4
  try clear hfz34_0
  try clear hfz34_1
  try clear hfz34_2
  try clear hfz34_3
  try clear hfz34_4
  try clear hfz39_0
  try clear hfz39_1
  try clear hfz39_2
  try clear hfz39_3
  try clear hfz39_4
  obtain ⟨kq, x18_4, rfl, HA, HJ4, BK607, BK608, BK619, BK620, HB⟩ := hcut
  cases kq with
  | zero => exact absurd HA.out (by simp [credenzalaw28_ScriptSays.j0])
  | succ kj4 =>
   have H := HA.out
   clear HA
   simp only [credenzalaw28_ScriptSays.j0] at H
   by_cases c41 : x18_4 = true
   ·subst c41
    have H1 : ((credenzalaw28_awake.f).bind fun t623 => (some t623)) = some r := by rw [if_pos rfl] at H; exact H
    clear H
    have H := H1
    clear H1
    replace H := Option.bind_eq_some_iff.mp H
    obtain ⟨t623, A420, H⟩ := H
    replace H : (some t623) = some r := H
    have A42 := Aside0.mk A420
    clear A420
    obtain rfl := Option.some.inj H
    go_wp2_with (first | ((with_reducible refine gate_callee (f := 6) rfl ?_); refine goesL_ (some 19) rfl rfl Tryz.func6 (by kernel_rfl) rfl #[] rfl (by (try simp only [List.map_toArray, List.map_cons, List.map_nil]); first | done | rfl | (simp only [List.length_drop, List.length_take]; rfl)) ?_; (with_reducible refine (credenzalaw28_awake.calls  t623 _ A42.out).mono ?_); rintro e w43 ⟨rfl, hb⟩; refine ⟨_, rfl, ?_⟩; have n0_ := Aside0.mk (blk_below (g := gb607) (o := .cells #[.int .i64 a0_0, .int .u32 a0_1, .int .i64 a0_2, .int .i64 a0_3, .int .i64 a0_4] 32 (0, 0)) (by (with_reducible repeat (first | refine blk_drewN ?_ _ | refine blk_drew ?_ | refine blk_alloc ?_ _)); exact BK607.out) hb); have n1_ := Aside0.mk (blk_below (g := gb608) (o := .cells #[.int .i64 a1_0, .int .u32 a1_1, .int .i64 a1_2, .int .i64 a1_3, .int .i64 a1_4] 32 (0, 0)) (by (with_reducible repeat (first | refine blk_drewN ?_ _ | refine blk_drew ?_ | refine blk_alloc ?_ _)); exact BK608.out) hb); have n2_ := Aside0.mk (blk_below (g := gb619) (o := .cells #[.int .i64 t609, .int .u32 t610, .int .i64 t611, .int .i64 t612, .int .i64 t613] 34 (0, 0)) (by (with_reducible repeat (first | refine blk_drewN ?_ _ | refine blk_drew ?_ | refine blk_alloc ?_ _)); exact BK619.out) hb); have n3_ := Aside0.mk (blk_below (g := gb620) (o := .cells #[.int .i64 t614, .int .u32 t615, .int .i64 t616, .int .i64 t617, .int .i64 t618] 34 (0, 0)) (by (with_reducible repeat (first | refine blk_drewN ?_ _ | refine blk_drew ?_ | refine blk_alloc ?_ _)); exact BK620.out) hb); have n4_ := Aside0.mk (below_step (by repeat (first | (with_reducible first | exact HB.out | apply below_alloc | apply pw_below_drewN | apply below_drew1 | refine below_set ?_ GE607.out | refine below_set ?_ GE608.out | refine below_set ?_ GE619.out | refine below_set ?_ GE620.out) | exact HB.out)) hb); clear BK607; clear BK608; clear BK619; clear BK620; clear HB; have BK607 := n0_; have BK608 := n1_; have BK619 := n2_; have BK620 := n3_; have HB := n4_; clear n0_ n1_ n2_ n3_ n4_; (try clear hb); (try clear hb2); (try clear hk); (try clear hi)))
    go_ret
    exact ⟨by first | rfl | (simp [errW_none, errW_some] <;> rfl) | (simp [*, errW_none, errW_some] <;> rfl), by repeat (first | (with_reducible first | exact HB.out | apply below_alloc | apply pw_below_drewN | apply below_drew1 | refine below_set ?_ GE607.out | refine below_set ?_ GE608.out | refine below_set ?_ GE619.out | refine below_set ?_ GE620.out) | exact HB.out)⟩
   ·replace c41 := Bool.eq_false_iff.mpr c41
    subst c41
    have H1 : ((script_Say.f kj4 a0_0 a0_1 a0_2 a0_3 a0_4).bind fun t624 => ((credenzaref28_Say.f kj4 t609 t610 t611 t612 t613).bind fun t625 => (if t624.toList = t625.toList then ((script_Say.f kj4 a0_0 a0_1 a0_2 a0_3 a0_4).bind fun t626 => ((script_Say.f kj4 a1_0 a1_1 a1_2 a1_3 a1_4).bind fun t627 => (if ((t626.toList == t627.toList) == (t609 == t614 && (t610 == t615 && (t611 == t616 && (t612 == t617 && (t613 == t618)))))) = true then ((credenzalaw28_awake.f).bind fun t628 => (some t628)) else (some false)))) else (some false)))) = some r := by rw [if_neg (show ¬ (false = true) by decide)] at H; exact H
    clear H
    have H := H1
    clear H1
    replace H := Option.bind_eq_some_iff.mp H
    obtain ⟨t624, A440, H⟩ := H
    replace H : ((credenzaref28_Say.f kj4 t609 t610 t611 t612 t613).bind fun t625 => (if t624.toList = t625.toList then ((script_Say.f kj4 a0_0 a0_1 a0_2 a0_3 a0_4).bind fun t626 => ((script_Say.f kj4 a1_0 a1_1 a1_2 a1_3 a1_4).bind fun t627 => (if ((t626.toList == t627.toList) == (t609 == t614 && (t610 == t615 && (t611 == t616 && (t612 == t617 && (t613 == t618)))))) = true then ((credenzalaw28_awake.f).bind fun t628 => (some t628)) else (some false)))) else (some false))) = some r := H
    have A44 := Aside0.mk A440
    clear A440
    replace H := Option.bind_eq_some_iff.mp H
    obtain ⟨t625, A450, H⟩ := H
    replace H : (if t624.toList = t625.toList then ((script_Say.f kj4 a0_0 a0_1 a0_2 a0_3 a0_4).bind fun t626 => ((script_Say.f kj4 a1_0 a1_1 a1_2 a1_3 a1_4).bind fun t627 => (if ((t626.toList == t627.toList) == (t609 == t614 && (t610 == t615 && (t611 == t616 && (t612 == t617 && (t613 == t618)))))) = true then ((credenzalaw28_awake.f).bind fun t628 => (some t628)) else (some false)))) else (some false)) = some r := H
    have A45 := Aside0.mk A450
    clear A450
    by_cases c46 : t624.toList = t625.toList
    ·rw [if_pos c46] at H
     have c46b0 : (t624.toList == t625.toList) = true := beq_iff_eq.mpr c46
     have c46b1 : (t624.toList != t625.toList) = false := bne_eq_false_iff_eq.mpr c46
     clear c46
     replace H := Option.bind_eq_some_iff.mp H
     obtain ⟨t626, A470, H⟩ := H
     replace H : ((script_Say.f kj4 a1_0 a1_1 a1_2 a1_3 a1_4).bind fun t627 => (if ((t626.toList == t627.toList) == (t609 == t614 && (t610 == t615 && (t611 == t616 && (t612 == t617 && (t613 == t618)))))) = true then ((credenzalaw28_awake.f).bind fun t628 => (some t628)) else (some false))) = some r := H
     have A47 := Aside0.mk A470
     clear A470
     replace H := Option.bind_eq_some_iff.mp H
     obtain ⟨t627, A480, H⟩ := H
     replace H : (if ((t626.toList == t627.toList) == (t609 == t614 && (t610 == t615 && (t611 == t616 && (t612 == t617 && (t613 == t618)))))) = true then ((credenzalaw28_awake.f).bind fun t628 => (some t628)) else (some false)) = some r := H
     have A48 := Aside0.mk A480
     clear A480
     by_cases c49 : ((t626.toList == t627.toList) == (t609 == t614 && (t610 == t615 && (t611 == t616 && (t612 == t617 && (t613 == t618)))))) = true
     ·rw [if_pos c49] at H
      have c49b0 : ((t626.toList == t627.toList) == (t609 == t614 && (t610 == t615 && (t611 == t616 && (t612 == t617 && (t613 == t618)))))) = true := c49
      (try (have c49b1 : decide ((t626.toList == t627.toList) = (t609 == t614 && (t610 == t615 && (t611 == t616 && (t612 == t617 && (t613 == t618)))))) = true := by simpa using c49))
      (try (have c49b2 : ((t626.toList == t627.toList) == (t609 == t614 && (t610 == t615 && (t611 == t616 && (t612 == t617 && (t613 == t618)))))) = true := by simpa using c49))
      clear c49
      replace H := Option.bind_eq_some_iff.mp H
      obtain ⟨t628, A500, H⟩ := H
      replace H : (some t628) = some r := H
      have A50 := Aside0.mk A500
      clear A500
      obtain rfl := Option.some.inj H
      try go_wp2
      have n0_ := Aside0.mk (blk_drew BK607.out)
      have n1_ := Aside0.mk (blk_drew BK608.out)
      have n2_ := Aside0.mk (blk_drew BK619.out)
      have n3_ := Aside0.mk (blk_drew BK620.out)
      have n4_ := Aside0.mk (below_drew1 HB.out)
      clear BK607
      clear BK608
      clear BK619
      clear BK620
      clear HB
      have BK607 := n0_
      have BK608 := n1_
      have BK619 := n2_
      have BK620 := n3_
      have HB := n4_
      clear n0_ n1_ n2_ n3_ n4_
      refine start_ (n := 20) (S := fun w' => w'.cell? ⟨gb607, 0, none⟩ = some (.int .i64 a0_0) ∧ w'.cell? ⟨gb607, 1, none⟩ = some (.int .u32 a0_1) ∧ w'.cell? ⟨gb607, 2, none⟩ = some (.int .i64 a0_2) ∧ w'.cell? ⟨gb607, 3, none⟩ = some (.int .i64 a0_3) ∧ w'.cell? ⟨gb607, 4, none⟩ = some (.int .i64 a0_4) ∧ w'.cell? ⟨gb619, 0, none⟩ = some (.int .i64 t609) ∧ w'.cell? ⟨gb619, 1, none⟩ = some (.int .u32 t610) ∧ w'.cell? ⟨gb619, 2, none⟩ = some (.int .i64 t611) ∧ w'.cell? ⟨gb619, 3, none⟩ = some (.int .i64 t612) ∧ w'.cell? ⟨gb619, 4, none⟩ = some (.int .i64 t613) ∧ w'.cell? ⟨gb608, 0, none⟩ = some (.int .i64 a1_0) ∧ w'.cell? ⟨gb608, 1, none⟩ = some (.int .u32 a1_1) ∧ w'.cell? ⟨gb608, 2, none⟩ = some (.int .i64 a1_2) ∧ w'.cell? ⟨gb608, 3, none⟩ = some (.int .i64 a1_3) ∧ w'.cell? ⟨gb608, 4, none⟩ = some (.int .i64 a1_4) ∧ w'.cell? ⟨gb620, 0, none⟩ = some (.int .i64 t614) ∧ w'.cell? ⟨gb620, 1, none⟩ = some (.int .u32 t615) ∧ w'.cell? ⟨gb620, 2, none⟩ = some (.int .i64 t616) ∧ w'.cell? ⟨gb620, 3, none⟩ = some (.int .i64 t617) ∧ w'.cell? ⟨gb620, 4, none⟩ = some (.int .i64 t618)) (ds := []) #[false, false, false, false, false, false, false, false, false, false, false, false, false, false, false, false, false, false, false, false] (by kernel_rfl) rfl rfl ⟨(blk_cell BK607.out 0).trans rfl, (blk_cell BK607.out 1).trans rfl, (blk_cell BK607.out 2).trans rfl, (blk_cell BK607.out 3).trans rfl, (blk_cell BK607.out 4).trans rfl, (blk_cell BK619.out 0).trans rfl, (blk_cell BK619.out 1).trans rfl, (blk_cell BK619.out 2).trans rfl, (blk_cell BK619.out 3).trans rfl, (blk_cell BK619.out 4).trans rfl, (blk_cell BK608.out 0).trans rfl, (blk_cell BK608.out 1).trans rfl, (blk_cell BK608.out 2).trans rfl, (blk_cell BK608.out 3).trans rfl, (blk_cell BK608.out 4).trans rfl, (blk_cell BK620.out 0).trans rfl, (blk_cell BK620.out 1).trans rfl, (blk_cell BK620.out 2).trans rfl, (blk_cell BK620.out 3).trans rfl, (blk_cell BK620.out 4).trans rfl⟩ (fun hHeld => ?_); refine with_tabW credenzalaw28_ScriptSays.tab4 credenzalaw28_ScriptSays.bits4 (fun HT_ HW_ => ?_)
      generalize wc.drew = w51 at BK607 BK608 BK619 BK620 HB hHeld ⊢
      refine take_ (i := 0) (N := some 20) (v := ?_) (a' := ?_) #[true, false, false, false, false, false, false, false, false, false, false, false, false, false, false, false, false, false, false, false] rfl rfl (take_ofW HT_.out HW_.out (by kernel_rfl)) (fun _ _ _ h => h) (Or.inl ⟨by rfl, ?_⟩) hHeld ?_ ?_
      rotate_left
      ·rintro w' ⟨s0, s1, s2, s3, s4, s5, s6, s7, s8, s9, s10, s11, s12, s13, s14, s15, s16, s17, s18, s19⟩
       go_simp
       with_reducible rfl
      rotate_left
      ·simp only [Act.put, List.setIfInBounds_toArray, List.set_cons_zero, List.set_cons_succ, i64_w, i32_w]
       rfl
      refine take_ (i := 2) (N := some 22) (v := ?_) (a' := ?_) #[true, false, true, false, false, false, false, false, false, false, false, false, false, false, false, false, false, false, false, false] rfl rfl (take_ofW HT_.out HW_.out (by kernel_rfl)) (fun _ _ _ h => h) (Or.inl ⟨by rfl, ?_⟩) hHeld ?_ ?_
      rotate_left
      ·rintro w' ⟨s0, s1, s2, s3, s4, s5, s6, s7, s8, s9, s10, s11, s12, s13, s14, s15, s16, s17, s18, s19⟩
       go_simp
       with_reducible rfl
      rotate_left
      ·simp only [Act.put, List.setIfInBounds_toArray, List.set_cons_zero, List.set_cons_succ, i64_w, i32_w]
       rfl
      refine one_ (i := 1) (N := some 21) #[true, true, true, false, false, false, false, false, false, false, false, false, false, false, false, false, false, false, false, false] rfl rfl (one_of HT_.out (by kernel_rfl)) (by decide) (fun K hK => ?_)
      refine goes_ Tryz.func11 (by kernel_rfl) rfl #[.agg #[.int .i64 a0_0, .int .u32 a0_1, .int .i64 a0_2, .int .i64 a0_3, .int .i64 a0_4]] (by rfl) rfl rfl (by (try simp only [List.map_toArray, List.map_cons, List.map_nil]); first | done | rfl | (simp only [List.length_drop, List.length_take]; rfl)) ?_
      with_reducible refine (script_Say.calls kj4 a0_0 a0_1 a0_2 a0_3 a0_4 t624 _ ?side1 A44.out).mono ?_
      (case side1 => exact hG.below (by repeat (first | (with_reducible first | exact HB.out | apply below_alloc | apply pw_below_drewN | apply below_drew1 | refine below_set ?_ GE607.out | refine below_set ?_ GE608.out | refine below_set ?_ GE619.out | refine below_set ?_ GE620.out) | exact HB.out)))
      rintro e w52 ⟨rfl, hb⟩
      refine ⟨_, rfl, ?_⟩
      have n0_ := Aside0.mk (blk_below (g := gb607) (o := .cells #[.int .i64 a0_0, .int .u32 a0_1, .int .i64 a0_2, .int .i64 a0_3, .int .i64 a0_4] 32 (0, 0)) (by (with_reducible repeat (first | refine blk_drewN ?_ _ | refine blk_drew ?_ | refine blk_alloc ?_ _)); exact BK607.out) hb)
      have n1_ := Aside0.mk (blk_below (g := gb608) (o := .cells #[.int .i64 a1_0, .int .u32 a1_1, .int .i64 a1_2, .int .i64 a1_3, .int .i64 a1_4] 32 (0, 0)) (by (with_reducible repeat (first | refine blk_drewN ?_ _ | refine blk_drew ?_ | refine blk_alloc ?_ _)); exact BK608.out) hb)
      have n2_ := Aside0.mk (blk_below (g := gb619) (o := .cells #[.int .i64 t609, .int .u32 t610, .int .i64 t611, .int .i64 t612, .int .i64 t613] 34 (0, 0)) (by (with_reducible repeat (first | refine blk_drewN ?_ _ | refine blk_drew ?_ | refine blk_alloc ?_ _)); exact BK619.out) hb)
      have n3_ := Aside0.mk (blk_below (g := gb620) (o := .cells #[.int .i64 t614, .int .u32 t615, .int .i64 t616, .int .i64 t617, .int .i64 t618] 34 (0, 0)) (by (with_reducible repeat (first | refine blk_drewN ?_ _ | refine blk_drew ?_ | refine blk_alloc ?_ _)); exact BK620.out) hb)
      have n4_ := Aside0.mk (below_step (by repeat (first | (with_reducible first | exact HB.out | apply below_alloc | apply pw_below_drewN | apply below_drew1 | refine below_set ?_ GE607.out | refine below_set ?_ GE608.out | refine below_set ?_ GE619.out | refine below_set ?_ GE620.out) | exact HB.out)) hb)
      clear BK607
      clear BK608
      clear BK619
      clear BK620
      clear HB
      have BK607 := n0_
      have BK608 := n1_
      have BK619 := n2_
      have BK620 := n3_
      have HB := n4_
      clear n0_ n1_ n2_ n3_ n4_
      (try clear hb)
      (try clear hb2)
      (try clear hk)
      (try clear hi)
      refine hK.out _ _ ⟨(blk_cell BK607.out 0).trans rfl, (blk_cell BK607.out 1).trans rfl, (blk_cell BK607.out 2).trans rfl, (blk_cell BK607.out 3).trans rfl, (blk_cell BK607.out 4).trans rfl, (blk_cell BK619.out 0).trans rfl, (blk_cell BK619.out 1).trans rfl, (blk_cell BK619.out 2).trans rfl, (blk_cell BK619.out 3).trans rfl, (blk_cell BK619.out 4).trans rfl, (blk_cell BK608.out 0).trans rfl, (blk_cell BK608.out 1).trans rfl, (blk_cell BK608.out 2).trans rfl, (blk_cell BK608.out 3).trans rfl, (blk_cell BK608.out 4).trans rfl, (blk_cell BK620.out 0).trans rfl, (blk_cell BK620.out 1).trans rfl, (blk_cell BK620.out 2).trans rfl, (blk_cell BK620.out 3).trans rfl, (blk_cell BK620.out 4).trans rfl⟩ (fun hHeld => ?_)
      clear hK K
      refine norm_ (a' := ?_) ?_ ?_
      rotate_left
      ·show Act.put _ (some 21) _ = _
       simp only [Act.put, List.setIfInBounds_toArray, List.set_cons_zero, List.set_cons_succ, i64_w, i32_w]
       rfl
      refine one_ (i := 3) (N := some 23) #[true, true, true, true, false, false, false, false, false, false, false, false, false, false, false, false, false, false, false, false] rfl rfl (one_of HT_.out (by kernel_rfl)) (by decide) (fun K hK => ?_)
      refine goes_ Tryz.func12 (by kernel_rfl) rfl #[.agg #[.int .i64 t609, .int .u32 t610, .int .i64 t611, .int .i64 t612, .int .i64 t613]] (by rfl) rfl rfl (by (try simp only [List.map_toArray, List.map_cons, List.map_nil]); first | done | rfl | (simp only [List.length_drop, List.length_take]; rfl)) ?_
      with_reducible refine (credenzaref28_Say.calls kj4 t609 t610 t611 t612 t613 t625 _ A45.out).mono ?_
      rintro e w53 ⟨rfl, hb⟩
      refine ⟨_, rfl, ?_⟩
      have n0_ := Aside0.mk (blk_below (g := gb607) (o := .cells #[.int .i64 a0_0, .int .u32 a0_1, .int .i64 a0_2, .int .i64 a0_3, .int .i64 a0_4] 32 (0, 0)) (by (with_reducible repeat (first | refine blk_drewN ?_ _ | refine blk_drew ?_ | refine blk_alloc ?_ _)); exact BK607.out) hb)
      have n1_ := Aside0.mk (blk_below (g := gb608) (o := .cells #[.int .i64 a1_0, .int .u32 a1_1, .int .i64 a1_2, .int .i64 a1_3, .int .i64 a1_4] 32 (0, 0)) (by (with_reducible repeat (first | refine blk_drewN ?_ _ | refine blk_drew ?_ | refine blk_alloc ?_ _)); exact BK608.out) hb)
      have n2_ := Aside0.mk (blk_below (g := gb619) (o := .cells #[.int .i64 t609, .int .u32 t610, .int .i64 t611, .int .i64 t612, .int .i64 t613] 34 (0, 0)) (by (with_reducible repeat (first | refine blk_drewN ?_ _ | refine blk_drew ?_ | refine blk_alloc ?_ _)); exact BK619.out) hb)
      have n3_ := Aside0.mk (blk_below (g := gb620) (o := .cells #[.int .i64 t614, .int .u32 t615, .int .i64 t616, .int .i64 t617, .int .i64 t618] 34 (0, 0)) (by (with_reducible repeat (first | refine blk_drewN ?_ _ | refine blk_drew ?_ | refine blk_alloc ?_ _)); exact BK620.out) hb)
      have n4_ := Aside0.mk (below_step (by repeat (first | (with_reducible first | exact HB.out | apply below_alloc | apply pw_below_drewN | apply below_drew1 | refine below_set ?_ GE607.out | refine below_set ?_ GE608.out | refine below_set ?_ GE619.out | refine below_set ?_ GE620.out) | exact HB.out)) hb)
      clear BK607
      clear BK608
      clear BK619
      clear BK620
      clear HB
      have BK607 := n0_
      have BK608 := n1_
      have BK619 := n2_
      have BK620 := n3_
      have HB := n4_
      clear n0_ n1_ n2_ n3_ n4_
      (try clear hb)
      (try clear hb2)
      (try clear hk)
      (try clear hi)
      refine hK.out _ _ ⟨(blk_cell BK607.out 0).trans rfl, (blk_cell BK607.out 1).trans rfl, (blk_cell BK607.out 2).trans rfl, (blk_cell BK607.out 3).trans rfl, (blk_cell BK607.out 4).trans rfl, (blk_cell BK619.out 0).trans rfl, (blk_cell BK619.out 1).trans rfl, (blk_cell BK619.out 2).trans rfl, (blk_cell BK619.out 3).trans rfl, (blk_cell BK619.out 4).trans rfl, (blk_cell BK608.out 0).trans rfl, (blk_cell BK608.out 1).trans rfl, (blk_cell BK608.out 2).trans rfl, (blk_cell BK608.out 3).trans rfl, (blk_cell BK608.out 4).trans rfl, (blk_cell BK620.out 0).trans rfl, (blk_cell BK620.out 1).trans rfl, (blk_cell BK620.out 2).trans rfl, (blk_cell BK620.out 3).trans rfl, (blk_cell BK620.out 4).trans rfl⟩ (fun hHeld => ?_)
      clear hK K
      refine norm_ (a' := ?_) ?_ ?_
      rotate_left
      ·show Act.put _ (some 23) _ = _
       simp only [Act.put, List.setIfInBounds_toArray, List.set_cons_zero, List.set_cons_succ, i64_w, i32_w]
       rfl
      refine pure_ (i := 4) (N := some 24) (v := ?_) (a' := ?_) #[true, true, true, true, true, false, false, false, false, false, false, false, false, false, false, false, false, false, false, false] rfl rfl (any_of HT_.out (by kernel_rfl)) (fun _ _ _ h => h) (Or.inl ⟨by rfl, ?_⟩) ?_ ?_
      rotate_left
      ·intro w'
       go_simp
       with_reducible rfl
      rotate_left
      ·simp only [Act.put, List.setIfInBounds_toArray, List.set_cons_zero, List.set_cons_succ, i64_w, i32_w]
       rfl
      refine pure_ (i := 5) (N := some 25) (v := ?_) (a' := ?_) #[true, true, true, true, true, true, false, false, false, false, false, false, false, false, false, false, false, false, false, false] rfl rfl (any_of HT_.out (by kernel_rfl)) (fun _ _ _ h => h) (Or.inl ⟨by rfl, ?_⟩) ?_ ?_
      rotate_left
      ·intro w'
       go_simp
       with_reducible rfl
      rotate_left
      ·simp only [Act.put, List.setIfInBounds_toArray, List.set_cons_zero, List.set_cons_succ, i64_w, i32_w]
       rfl
      refine take_ (i := 6) (N := some 26) (v := ?_) (a' := ?_) #[true, true, true, true, true, true, true, false, false, false, false, false, false, false, false, false, false, false, false, false] rfl rfl (take_ofW HT_.out HW_.out (by kernel_rfl)) (fun _ _ _ h => h) (Or.inl ⟨by rfl, ?_⟩) hHeld ?_ ?_
      rotate_left
      ·rintro w' ⟨s0, s1, s2, s3, s4, s5, s6, s7, s8, s9, s10, s11, s12, s13, s14, s15, s16, s17, s18, s19⟩
       go_simp
       with_reducible rfl
      rotate_left
      ·simp only [Act.put, List.setIfInBounds_toArray, List.set_cons_zero, List.set_cons_succ, i64_w, i32_w]
       rfl
      refine take_ (i := 8) (N := some 28) (v := ?_) (a' := ?_) #[true, true, true, true, true, true, true, false, true, false, false, false, false, false, false, false, false, false, false, false] rfl rfl (take_ofW HT_.out HW_.out (by kernel_rfl)) (fun _ _ _ h => h) (Or.inl ⟨by rfl, ?_⟩) hHeld ?_ ?_
      rotate_left
      ·rintro w' ⟨s0, s1, s2, s3, s4, s5, s6, s7, s8, s9, s10, s11, s12, s13, s14, s15, s16, s17, s18, s19⟩
       go_simp
       with_reducible rfl
      rotate_left
      ·simp only [Act.put, List.setIfInBounds_toArray, List.set_cons_zero, List.set_cons_succ, i64_w, i32_w]
       rfl
      refine take_ (i := 11) (N := some 31) (v := ?_) (a' := ?_) #[true, true, true, true, true, true, true, false, true, false, false, true, false, false, false, false, false, false, false, false] rfl rfl (take_ofW HT_.out HW_.out (by kernel_rfl)) (fun _ _ _ h => h) (Or.inl ⟨by rfl, ?_⟩) hHeld ?_ ?_
      rotate_left
      ·rintro w' ⟨s0, s1, s2, s3, s4, s5, s6, s7, s8, s9, s10, s11, s12, s13, s14, s15, s16, s17, s18, s19⟩
       go_simp
       with_reducible rfl
      rotate_left
      ·simp only [Act.put, List.setIfInBounds_toArray, List.set_cons_zero, List.set_cons_succ, i64_w, i32_w]
       rfl
      refine take_ (i := 12) (N := some 32) (v := ?_) (a' := ?_) #[true, true, true, true, true, true, true, false, true, false, false, true, true, false, false, false, false, false, false, false] rfl rfl (take_ofW HT_.out HW_.out (by kernel_rfl)) (fun _ _ _ h => h) (Or.inl ⟨by rfl, ?_⟩) hHeld ?_ ?_
      rotate_left
      ·rintro w' ⟨s0, s1, s2, s3, s4, s5, s6, s7, s8, s9, s10, s11, s12, s13, s14, s15, s16, s17, s18, s19⟩
       go_simp
       with_reducible rfl
      rotate_left
      ·simp only [Act.put, List.setIfInBounds_toArray, List.set_cons_zero, List.set_cons_succ, i64_w, i32_w]
       rfl
      refine pure_ (i := 13) (N := some 33) (v := ?_) (a' := ?_) #[true, true, true, true, true, true, true, false, true, false, false, true, true, true, false, false, false, false, false, false] rfl rfl (any_of HT_.out (by kernel_rfl)) (fun _ _ _ h => h) (Or.inl ⟨by rfl, ?_⟩) ?_ ?_
      rotate_left
      ·intro w'
       go_simp
       with_reducible rfl
      rotate_left
      ·simp only [Act.put, List.setIfInBounds_toArray, List.set_cons_zero, List.set_cons_succ, i64_w, i32_w]
       rfl
      refine one_ (i := 7) (N := some 27) #[true, true, true, true, true, true, true, true, true, false, false, true, true, true, false, false, false, false, false, false] rfl rfl (one_of HT_.out (by kernel_rfl)) (by decide) (fun K hK => ?_)
      refine goes_ Tryz.func11 (by kernel_rfl) rfl #[.agg #[.int .i64 a0_0, .int .u32 a0_1, .int .i64 a0_2, .int .i64 a0_3, .int .i64 a0_4]] (by rfl) rfl rfl (by (try simp only [List.map_toArray, List.map_cons, List.map_nil]); first | done | rfl | (simp only [List.length_drop, List.length_take]; rfl)) ?_
      with_reducible refine (script_Say.calls kj4 a0_0 a0_1 a0_2 a0_3 a0_4 t626 _ ?side1 A47.out).mono ?_
      (case side1 => exact hG.below (by repeat (first | (with_reducible first | exact HB.out | apply below_alloc | apply pw_below_drewN | apply below_drew1 | refine below_set ?_ GE607.out | refine below_set ?_ GE608.out | refine below_set ?_ GE619.out | refine below_set ?_ GE620.out) | exact HB.out)))
      rintro e w54 ⟨rfl, hb⟩
      refine ⟨_, rfl, ?_⟩
      have n0_ := Aside0.mk (blk_below (g := gb607) (o := .cells #[.int .i64 a0_0, .int .u32 a0_1, .int .i64 a0_2, .int .i64 a0_3, .int .i64 a0_4] 32 (0, 0)) (by (with_reducible repeat (first | refine blk_drewN ?_ _ | refine blk_drew ?_ | refine blk_alloc ?_ _)); exact BK607.out) hb)
      have n1_ := Aside0.mk (blk_below (g := gb608) (o := .cells #[.int .i64 a1_0, .int .u32 a1_1, .int .i64 a1_2, .int .i64 a1_3, .int .i64 a1_4] 32 (0, 0)) (by (with_reducible repeat (first | refine blk_drewN ?_ _ | refine blk_drew ?_ | refine blk_alloc ?_ _)); exact BK608.out) hb)
      have n2_ := Aside0.mk (blk_below (g := gb619) (o := .cells #[.int .i64 t609, .int .u32 t610, .int .i64 t611, .int .i64 t612, .int .i64 t613] 34 (0, 0)) (by (with_reducible repeat (first | refine blk_drewN ?_ _ | refine blk_drew ?_ | refine blk_alloc ?_ _)); exact BK619.out) hb)
      have n3_ := Aside0.mk (blk_below (g := gb620) (o := .cells #[.int .i64 t614, .int .u32 t615, .int .i64 t616, .int .i64 t617, .int .i64 t618] 34 (0, 0)) (by (with_reducible repeat (first | refine blk_drewN ?_ _ | refine blk_drew ?_ | refine blk_alloc ?_ _)); exact BK620.out) hb)
      have n4_ := Aside0.mk (below_step (by repeat (first | (with_reducible first | exact HB.out | apply below_alloc | apply pw_below_drewN | apply below_drew1 | refine below_set ?_ GE607.out | refine below_set ?_ GE608.out | refine below_set ?_ GE619.out | refine below_set ?_ GE620.out) | exact HB.out)) hb)
      clear BK607
      clear BK608
      clear BK619
      clear BK620
      clear HB
      have BK607 := n0_
      have BK608 := n1_
      have BK619 := n2_
      have BK620 := n3_
      have HB := n4_
      clear n0_ n1_ n2_ n3_ n4_
      (try clear hb)
      (try clear hb2)
      (try clear hk)
      (try clear hi)
      refine hK.out _ _ ⟨(blk_cell BK607.out 0).trans rfl, (blk_cell BK607.out 1).trans rfl, (blk_cell BK607.out 2).trans rfl, (blk_cell BK607.out 3).trans rfl, (blk_cell BK607.out 4).trans rfl, (blk_cell BK619.out 0).trans rfl, (blk_cell BK619.out 1).trans rfl, (blk_cell BK619.out 2).trans rfl, (blk_cell BK619.out 3).trans rfl, (blk_cell BK619.out 4).trans rfl, (blk_cell BK608.out 0).trans rfl, (blk_cell BK608.out 1).trans rfl, (blk_cell BK608.out 2).trans rfl, (blk_cell BK608.out 3).trans rfl, (blk_cell BK608.out 4).trans rfl, (blk_cell BK620.out 0).trans rfl, (blk_cell BK620.out 1).trans rfl, (blk_cell BK620.out 2).trans rfl, (blk_cell BK620.out 3).trans rfl, (blk_cell BK620.out 4).trans rfl⟩ (fun hHeld => ?_)
      clear hK K
      refine norm_ (a' := ?_) ?_ ?_
      rotate_left
      ·show Act.put _ (some 27) _ = _
       simp only [Act.put, List.setIfInBounds_toArray, List.set_cons_zero, List.set_cons_succ, i64_w, i32_w]
       rfl
      refine one_ (i := 9) (N := some 29) #[true, true, true, true, true, true, true, true, true, true, false, true, true, true, false, false, false, false, false, false] rfl rfl (one_of HT_.out (by kernel_rfl)) (by decide) (fun K hK => ?_)
      refine goes_ Tryz.func11 (by kernel_rfl) rfl #[.agg #[.int .i64 a1_0, .int .u32 a1_1, .int .i64 a1_2, .int .i64 a1_3, .int .i64 a1_4]] (by rfl) rfl rfl (by (try simp only [List.map_toArray, List.map_cons, List.map_nil]); first | done | rfl | (simp only [List.length_drop, List.length_take]; rfl)) ?_
      with_reducible refine (script_Say.calls kj4 a1_0 a1_1 a1_2 a1_3 a1_4 t627 _ ?side1 A48.out).mono ?_
      (case side1 => exact hG.below (by repeat (first | (with_reducible first | exact HB.out | apply below_alloc | apply pw_below_drewN | apply below_drew1 | refine below_set ?_ GE607.out | refine below_set ?_ GE608.out | refine below_set ?_ GE619.out | refine below_set ?_ GE620.out) | exact HB.out)))
      rintro e w55 ⟨rfl, hb⟩
      refine ⟨_, rfl, ?_⟩
      have n0_ := Aside0.mk (blk_below (g := gb607) (o := .cells #[.int .i64 a0_0, .int .u32 a0_1, .int .i64 a0_2, .int .i64 a0_3, .int .i64 a0_4] 32 (0, 0)) (by (with_reducible repeat (first | refine blk_drewN ?_ _ | refine blk_drew ?_ | refine blk_alloc ?_ _)); exact BK607.out) hb)
      have n1_ := Aside0.mk (blk_below (g := gb608) (o := .cells #[.int .i64 a1_0, .int .u32 a1_1, .int .i64 a1_2, .int .i64 a1_3, .int .i64 a1_4] 32 (0, 0)) (by (with_reducible repeat (first | refine blk_drewN ?_ _ | refine blk_drew ?_ | refine blk_alloc ?_ _)); exact BK608.out) hb)
      have n2_ := Aside0.mk (blk_below (g := gb619) (o := .cells #[.int .i64 t609, .int .u32 t610, .int .i64 t611, .int .i64 t612, .int .i64 t613] 34 (0, 0)) (by (with_reducible repeat (first | refine blk_drewN ?_ _ | refine blk_drew ?_ | refine blk_alloc ?_ _)); exact BK619.out) hb)
      have n3_ := Aside0.mk (blk_below (g := gb620) (o := .cells #[.int .i64 t614, .int .u32 t615, .int .i64 t616, .int .i64 t617, .int .i64 t618] 34 (0, 0)) (by (with_reducible repeat (first | refine blk_drewN ?_ _ | refine blk_drew ?_ | refine blk_alloc ?_ _)); exact BK620.out) hb)
      have n4_ := Aside0.mk (below_step (by repeat (first | (with_reducible first | exact HB.out | apply below_alloc | apply pw_below_drewN | apply below_drew1 | refine below_set ?_ GE607.out | refine below_set ?_ GE608.out | refine below_set ?_ GE619.out | refine below_set ?_ GE620.out) | exact HB.out)) hb)
      clear BK607
      clear BK608
      clear BK619
      clear BK620
      clear HB
      have BK607 := n0_
      have BK608 := n1_
      have BK619 := n2_
      have BK620 := n3_
      have HB := n4_
      clear n0_ n1_ n2_ n3_ n4_
      (try clear hb)
      (try clear hb2)
      (try clear hk)
      (try clear hi)
      refine hK.out _ _ ⟨(blk_cell BK607.out 0).trans rfl, (blk_cell BK607.out 1).trans rfl, (blk_cell BK607.out 2).trans rfl, (blk_cell BK607.out 3).trans rfl, (blk_cell BK607.out 4).trans rfl, (blk_cell BK619.out 0).trans rfl, (blk_cell BK619.out 1).trans rfl, (blk_cell BK619.out 2).trans rfl, (blk_cell BK619.out 3).trans rfl, (blk_cell BK619.out 4).trans rfl, (blk_cell BK608.out 0).trans rfl, (blk_cell BK608.out 1).trans rfl, (blk_cell BK608.out 2).trans rfl, (blk_cell BK608.out 3).trans rfl, (blk_cell BK608.out 4).trans rfl, (blk_cell BK620.out 0).trans rfl, (blk_cell BK620.out 1).trans rfl, (blk_cell BK620.out 2).trans rfl, (blk_cell BK620.out 3).trans rfl, (blk_cell BK620.out 4).trans rfl⟩ (fun hHeld => ?_)
      clear hK K
      refine norm_ (a' := ?_) ?_ ?_
      rotate_left
      ·show Act.put _ (some 29) _ = _
       simp only [Act.put, List.setIfInBounds_toArray, List.set_cons_zero, List.set_cons_succ, i64_w, i32_w]
       rfl
      refine pure_ (i := 10) (N := some 30) (v := ?_) (a' := ?_) #[true, true, true, true, true, true, true, true, true, true, true, true, true, true, false, false, false, false, false, false] rfl rfl (any_of HT_.out (by kernel_rfl)) (fun _ _ _ h => h) (Or.inl ⟨by rfl, ?_⟩) ?_ ?_
      rotate_left
      ·intro w'
       go_simp
       with_reducible rfl
      rotate_left
      ·simp only [Act.put, List.setIfInBounds_toArray, List.set_cons_zero, List.set_cons_succ, i64_w, i32_w]
       rfl
      refine pure_ (i := 14) (N := some 34) (v := ?_) (a' := ?_) #[true, true, true, true, true, true, true, true, true, true, true, true, true, true, true, false, false, false, false, false] rfl rfl (any_of HT_.out (by kernel_rfl)) (fun _ _ _ h => h) (Or.inl ⟨by rfl, ?_⟩) ?_ ?_
      rotate_left
      ·intro w'
       go_simp
       with_reducible rfl
      rotate_left
      ·simp only [Act.put, List.setIfInBounds_toArray, List.set_cons_zero, List.set_cons_succ, i64_w, i32_w]
       rfl
      refine pure_ (i := 15) (N := some 35) (v := ?_) (a' := ?_) #[true, true, true, true, true, true, true, true, true, true, true, true, true, true, true, true, false, false, false, false] rfl rfl (any_of HT_.out (by kernel_rfl)) (fun _ _ _ h => h) (Or.inl ⟨by rfl, ?_⟩) ?_ ?_
      rotate_left
      ·intro w'
       go_simp
       with_reducible rfl
      rotate_left
      ·simp only [Act.put, List.setIfInBounds_toArray, List.set_cons_zero, List.set_cons_succ, i64_w, i32_w]
       rfl
      refine pure_ (i := 16) (N := some 36) (v := ?_) (a' := ?_) #[true, true, true, true, true, true, true, true, true, true, true, true, true, true, true, true, true, false, false, false] rfl rfl (any_of HT_.out (by kernel_rfl)) (fun _ _ _ h => h) (Or.inl ⟨by rfl, ?_⟩) ?_ ?_
      rotate_left
      ·intro w'
       go_simp
       with_reducible rfl
      rotate_left
      ·simp only [Act.put, List.setIfInBounds_toArray, List.set_cons_zero, List.set_cons_succ, i64_w, i32_w]
       rfl
      refine one_ (i := 17) (N := some 37) #[true, true, true, true, true, true, true, true, true, true, true, true, true, true, true, true, true, true, false, false] rfl rfl (one_of HT_.out (by kernel_rfl)) (by decide) (fun K hK => ?_)
      refine goes_ Tryz.func6 (by kernel_rfl) rfl #[] (by rfl) rfl rfl (by (try simp only [List.map_toArray, List.map_cons, List.map_nil]); first | done | rfl | (simp only [List.length_drop, List.length_take]; rfl)) ?_
      with_reducible refine (credenzalaw28_awake.calls  t628 _ A50.out).mono ?_
      rintro e w56 ⟨rfl, hb⟩
      refine ⟨_, rfl, ?_⟩
      have n0_ := Aside0.mk (blk_below (g := gb607) (o := .cells #[.int .i64 a0_0, .int .u32 a0_1, .int .i64 a0_2, .int .i64 a0_3, .int .i64 a0_4] 32 (0, 0)) (by (with_reducible repeat (first | refine blk_drewN ?_ _ | refine blk_drew ?_ | refine blk_alloc ?_ _)); exact BK607.out) hb)
      have n1_ := Aside0.mk (blk_below (g := gb608) (o := .cells #[.int .i64 a1_0, .int .u32 a1_1, .int .i64 a1_2, .int .i64 a1_3, .int .i64 a1_4] 32 (0, 0)) (by (with_reducible repeat (first | refine blk_drewN ?_ _ | refine blk_drew ?_ | refine blk_alloc ?_ _)); exact BK608.out) hb)
      have n2_ := Aside0.mk (blk_below (g := gb619) (o := .cells #[.int .i64 t609, .int .u32 t610, .int .i64 t611, .int .i64 t612, .int .i64 t613] 34 (0, 0)) (by (with_reducible repeat (first | refine blk_drewN ?_ _ | refine blk_drew ?_ | refine blk_alloc ?_ _)); exact BK619.out) hb)
      have n3_ := Aside0.mk (blk_below (g := gb620) (o := .cells #[.int .i64 t614, .int .u32 t615, .int .i64 t616, .int .i64 t617, .int .i64 t618] 34 (0, 0)) (by (with_reducible repeat (first | refine blk_drewN ?_ _ | refine blk_drew ?_ | refine blk_alloc ?_ _)); exact BK620.out) hb)
      have n4_ := Aside0.mk (below_step (by repeat (first | (with_reducible first | exact HB.out | apply below_alloc | apply pw_below_drewN | apply below_drew1 | refine below_set ?_ GE607.out | refine below_set ?_ GE608.out | refine below_set ?_ GE619.out | refine below_set ?_ GE620.out) | exact HB.out)) hb)
      clear BK607
      clear BK608
      clear BK619
      clear BK620
      clear HB
      have BK607 := n0_
      have BK608 := n1_
      have BK619 := n2_
      have BK620 := n3_
      have HB := n4_
      clear n0_ n1_ n2_ n3_ n4_
      (try clear hb)
      (try clear hb2)
      (try clear hk)
      (try clear hi)
      refine hK.out _ _ ⟨(blk_cell BK607.out 0).trans rfl, (blk_cell BK607.out 1).trans rfl, (blk_cell BK607.out 2).trans rfl, (blk_cell BK607.out 3).trans rfl, (blk_cell BK607.out 4).trans rfl, (blk_cell BK619.out 0).trans rfl, (blk_cell BK619.out 1).trans rfl, (blk_cell BK619.out 2).trans rfl, (blk_cell BK619.out 3).trans rfl, (blk_cell BK619.out 4).trans rfl, (blk_cell BK608.out 0).trans rfl, (blk_cell BK608.out 1).trans rfl, (blk_cell BK608.out 2).trans rfl, (blk_cell BK608.out 3).trans rfl, (blk_cell BK608.out 4).trans rfl, (blk_cell BK620.out 0).trans rfl, (blk_cell BK620.out 1).trans rfl, (blk_cell BK620.out 2).trans rfl, (blk_cell BK620.out 3).trans rfl, (blk_cell BK620.out 4).trans rfl⟩ (fun hHeld => ?_)
      clear hK K
      refine norm_ (a' := ?_) ?_ ?_
      rotate_left
      ·show Act.put _ (some 37) _ = _
       simp only [Act.put, List.setIfInBounds_toArray, List.set_cons_zero, List.set_cons_succ, i64_w, i32_w]
       rfl
      refine pure_ (i := 18) (N := some 38) (v := ?_) (a' := ?_) #[true, true, true, true, true, true, true, true, true, true, true, true, true, true, true, true, true, true, true, false] rfl rfl (any_of HT_.out (by kernel_rfl)) (fun _ _ _ h => h) (Or.inl ⟨by rfl, ?_⟩) ?_ ?_
      rotate_left
      ·intro w'
       go_simp
       with_reducible rfl
      rotate_left
      ·simp only [Act.put, List.setIfInBounds_toArray, List.set_cons_zero, List.set_cons_succ, i64_w, i32_w]
       rfl
      refine pure_ (i := 19) (N := some 4) (v := ?_) (a' := ?_) #[true, true, true, true, true, true, true, true, true, true, true, true, true, true, true, true, true, true, true, true] rfl rfl (any_of HT_.out (by kernel_rfl)) (fun _ _ _ h => h) (Or.inl ⟨by rfl, ?_⟩) ?_ ?_
      rotate_left
      ·intro w'
       go_simp
       with_reducible rfl
      rotate_left
      ·simp only [Act.put, List.setIfInBounds_toArray, List.set_cons_zero, List.set_cons_succ, i64_w, i32_w]
       rfl
      refine done_ (done_of HT_.out (by kernel_rfl)) ?_
      try go_wp2
      go_ret
      exact ⟨by first | rfl | (simp [errW_none, errW_some] <;> rfl) | (simp [*, errW_none, errW_some] <;> rfl), by repeat (first | (with_reducible first | exact HB.out | apply below_alloc | apply pw_below_drewN | apply below_drew1 | refine below_set ?_ GE607.out | refine below_set ?_ GE608.out | refine below_set ?_ GE619.out | refine below_set ?_ GE620.out) | exact HB.out)⟩
     ·rw [if_neg c49] at H
      have c49b0 : ((t626.toList == t627.toList) == (t609 == t614 && (t610 == t615 && (t611 == t616 && (t612 == t617 && (t613 == t618)))))) = false := by simpa using c49
      (try (have c49b1 : decide ((t626.toList == t627.toList) = (t609 == t614 && (t610 == t615 && (t611 == t616 && (t612 == t617 && (t613 == t618)))))) = false := by simpa using c49))
      (try (have c49b2 : ((t626.toList == t627.toList) == (t609 == t614 && (t610 == t615 && (t611 == t616 && (t612 == t617 && (t613 == t618)))))) = false := by simpa using c49))
      (try (have c49b3 : ¬ ((t626.toList == t627.toList) = (t609 == t614 && (t610 == t615 && (t611 == t616 && (t612 == t617 && (t613 == t618)))))) := by simpa using c49))
      clear c49
      obtain rfl := Option.some.inj H
      try go_wp2
      have n0_ := Aside0.mk (blk_drew BK607.out)
      have n1_ := Aside0.mk (blk_drew BK608.out)
      have n2_ := Aside0.mk (blk_drew BK619.out)
      have n3_ := Aside0.mk (blk_drew BK620.out)
      have n4_ := Aside0.mk (below_drew1 HB.out)
      clear BK607
      clear BK608
      clear BK619
      clear BK620
      clear HB
      have BK607 := n0_
      have BK608 := n1_
      have BK619 := n2_
      have BK620 := n3_
      have HB := n4_
      clear n0_ n1_ n2_ n3_ n4_
      refine start_ (n := 20) (S := fun w' => w'.cell? ⟨gb607, 0, none⟩ = some (.int .i64 a0_0) ∧ w'.cell? ⟨gb607, 1, none⟩ = some (.int .u32 a0_1) ∧ w'.cell? ⟨gb607, 2, none⟩ = some (.int .i64 a0_2) ∧ w'.cell? ⟨gb607, 3, none⟩ = some (.int .i64 a0_3) ∧ w'.cell? ⟨gb607, 4, none⟩ = some (.int .i64 a0_4) ∧ w'.cell? ⟨gb619, 0, none⟩ = some (.int .i64 t609) ∧ w'.cell? ⟨gb619, 1, none⟩ = some (.int .u32 t610) ∧ w'.cell? ⟨gb619, 2, none⟩ = some (.int .i64 t611) ∧ w'.cell? ⟨gb619, 3, none⟩ = some (.int .i64 t612) ∧ w'.cell? ⟨gb619, 4, none⟩ = some (.int .i64 t613) ∧ w'.cell? ⟨gb608, 0, none⟩ = some (.int .i64 a1_0) ∧ w'.cell? ⟨gb608, 1, none⟩ = some (.int .u32 a1_1) ∧ w'.cell? ⟨gb608, 2, none⟩ = some (.int .i64 a1_2) ∧ w'.cell? ⟨gb608, 3, none⟩ = some (.int .i64 a1_3) ∧ w'.cell? ⟨gb608, 4, none⟩ = some (.int .i64 a1_4) ∧ w'.cell? ⟨gb620, 0, none⟩ = some (.int .i64 t614) ∧ w'.cell? ⟨gb620, 1, none⟩ = some (.int .u32 t615) ∧ w'.cell? ⟨gb620, 2, none⟩ = some (.int .i64 t616) ∧ w'.cell? ⟨gb620, 3, none⟩ = some (.int .i64 t617) ∧ w'.cell? ⟨gb620, 4, none⟩ = some (.int .i64 t618)) (ds := []) #[false, false, false, false, false, false, false, false, false, false, false, false, false, false, false, false, false, false, false, false] (by kernel_rfl) rfl rfl ⟨(blk_cell BK607.out 0).trans rfl, (blk_cell BK607.out 1).trans rfl, (blk_cell BK607.out 2).trans rfl, (blk_cell BK607.out 3).trans rfl, (blk_cell BK607.out 4).trans rfl, (blk_cell BK619.out 0).trans rfl, (blk_cell BK619.out 1).trans rfl, (blk_cell BK619.out 2).trans rfl, (blk_cell BK619.out 3).trans rfl, (blk_cell BK619.out 4).trans rfl, (blk_cell BK608.out 0).trans rfl, (blk_cell BK608.out 1).trans rfl, (blk_cell BK608.out 2).trans rfl, (blk_cell BK608.out 3).trans rfl, (blk_cell BK608.out 4).trans rfl, (blk_cell BK620.out 0).trans rfl, (blk_cell BK620.out 1).trans rfl, (blk_cell BK620.out 2).trans rfl, (blk_cell BK620.out 3).trans rfl, (blk_cell BK620.out 4).trans rfl⟩ (fun hHeld => ?_); refine with_tabW credenzalaw28_ScriptSays.tab4 credenzalaw28_ScriptSays.bits4 (fun HT_ HW_ => ?_)
      generalize wc.drew = w57 at BK607 BK608 BK619 BK620 HB hHeld ⊢
      refine take_ (i := 0) (N := some 20) (v := ?_) (a' := ?_) #[true, false, false, false, false, false, false, false, false, false, false, false, false, false, false, false, false, false, false, false] rfl rfl (take_ofW HT_.out HW_.out (by kernel_rfl)) (fun _ _ _ h => h) (Or.inl ⟨by rfl, ?_⟩) hHeld ?_ ?_
      rotate_left
      ·rintro w' ⟨s0, s1, s2, s3, s4, s5, s6, s7, s8, s9, s10, s11, s12, s13, s14, s15, s16, s17, s18, s19⟩
       go_simp
       with_reducible rfl
      rotate_left
      ·simp only [Act.put, List.setIfInBounds_toArray, List.set_cons_zero, List.set_cons_succ, i64_w, i32_w]
       rfl
      refine take_ (i := 2) (N := some 22) (v := ?_) (a' := ?_) #[true, false, true, false, false, false, false, false, false, false, false, false, false, false, false, false, false, false, false, false] rfl rfl (take_ofW HT_.out HW_.out (by kernel_rfl)) (fun _ _ _ h => h) (Or.inl ⟨by rfl, ?_⟩) hHeld ?_ ?_
      rotate_left
      ·rintro w' ⟨s0, s1, s2, s3, s4, s5, s6, s7, s8, s9, s10, s11, s12, s13, s14, s15, s16, s17, s18, s19⟩
       go_simp
       with_reducible rfl
      rotate_left
      ·simp only [Act.put, List.setIfInBounds_toArray, List.set_cons_zero, List.set_cons_succ, i64_w, i32_w]
       rfl
      refine one_ (i := 1) (N := some 21) #[true, true, true, false, false, false, false, false, false, false, false, false, false, false, false, false, false, false, false, false] rfl rfl (one_of HT_.out (by kernel_rfl)) (by decide) (fun K hK => ?_)
      refine goes_ Tryz.func11 (by kernel_rfl) rfl #[.agg #[.int .i64 a0_0, .int .u32 a0_1, .int .i64 a0_2, .int .i64 a0_3, .int .i64 a0_4]] (by rfl) rfl rfl (by (try simp only [List.map_toArray, List.map_cons, List.map_nil]); first | done | rfl | (simp only [List.length_drop, List.length_take]; rfl)) ?_
      with_reducible refine (script_Say.calls kj4 a0_0 a0_1 a0_2 a0_3 a0_4 t624 _ ?side1 A44.out).mono ?_
      (case side1 => exact hG.below (by repeat (first | (with_reducible first | exact HB.out | apply below_alloc | apply pw_below_drewN | apply below_drew1 | refine below_set ?_ GE607.out | refine below_set ?_ GE608.out | refine below_set ?_ GE619.out | refine below_set ?_ GE620.out) | exact HB.out)))
      rintro e w58 ⟨rfl, hb⟩
      refine ⟨_, rfl, ?_⟩
      have n0_ := Aside0.mk (blk_below (g := gb607) (o := .cells #[.int .i64 a0_0, .int .u32 a0_1, .int .i64 a0_2, .int .i64 a0_3, .int .i64 a0_4] 32 (0, 0)) (by (with_reducible repeat (first | refine blk_drewN ?_ _ | refine blk_drew ?_ | refine blk_alloc ?_ _)); exact BK607.out) hb)
      have n1_ := Aside0.mk (blk_below (g := gb608) (o := .cells #[.int .i64 a1_0, .int .u32 a1_1, .int .i64 a1_2, .int .i64 a1_3, .int .i64 a1_4] 32 (0, 0)) (by (with_reducible repeat (first | refine blk_drewN ?_ _ | refine blk_drew ?_ | refine blk_alloc ?_ _)); exact BK608.out) hb)
      have n2_ := Aside0.mk (blk_below (g := gb619) (o := .cells #[.int .i64 t609, .int .u32 t610, .int .i64 t611, .int .i64 t612, .int .i64 t613] 34 (0, 0)) (by (with_reducible repeat (first | refine blk_drewN ?_ _ | refine blk_drew ?_ | refine blk_alloc ?_ _)); exact BK619.out) hb)
      have n3_ := Aside0.mk (blk_below (g := gb620) (o := .cells #[.int .i64 t614, .int .u32 t615, .int .i64 t616, .int .i64 t617, .int .i64 t618] 34 (0, 0)) (by (with_reducible repeat (first | refine blk_drewN ?_ _ | refine blk_drew ?_ | refine blk_alloc ?_ _)); exact BK620.out) hb)
      have n4_ := Aside0.mk (below_step (by repeat (first | (with_reducible first | exact HB.out | apply below_alloc | apply pw_below_drewN | apply below_drew1 | refine below_set ?_ GE607.out | refine below_set ?_ GE608.out | refine below_set ?_ GE619.out | refine below_set ?_ GE620.out) | exact HB.out)) hb)
      clear BK607
      clear BK608
      clear BK619
      clear BK620
      clear HB
      have BK607 := n0_
      have BK608 := n1_
      have BK619 := n2_
      have BK620 := n3_
      have HB := n4_
      clear n0_ n1_ n2_ n3_ n4_
      (try clear hb)
      (try clear hb2)
      (try clear hk)
      (try clear hi)
      refine hK.out _ _ ⟨(blk_cell BK607.out 0).trans rfl, (blk_cell BK607.out 1).trans rfl, (blk_cell BK607.out 2).trans rfl, (blk_cell BK607.out 3).trans rfl, (blk_cell BK607.out 4).trans rfl, (blk_cell BK619.out 0).trans rfl, (blk_cell BK619.out 1).trans rfl, (blk_cell BK619.out 2).trans rfl, (blk_cell BK619.out 3).trans rfl, (blk_cell BK619.out 4).trans rfl, (blk_cell BK608.out 0).trans rfl, (blk_cell BK608.out 1).trans rfl, (blk_cell BK608.out 2).trans rfl, (blk_cell BK608.out 3).trans rfl, (blk_cell BK608.out 4).trans rfl, (blk_cell BK620.out 0).trans rfl, (blk_cell BK620.out 1).trans rfl, (blk_cell BK620.out 2).trans rfl, (blk_cell BK620.out 3).trans rfl, (blk_cell BK620.out 4).trans rfl⟩ (fun hHeld => ?_)
      clear hK K
      refine norm_ (a' := ?_) ?_ ?_
      rotate_left
      ·show Act.put _ (some 21) _ = _
       simp only [Act.put, List.setIfInBounds_toArray, List.set_cons_zero, List.set_cons_succ, i64_w, i32_w]
       rfl
      refine one_ (i := 3) (N := some 23) #[true, true, true, true, false, false, false, false, false, false, false, false, false, false, false, false, false, false, false, false] rfl rfl (one_of HT_.out (by kernel_rfl)) (by decide) (fun K hK => ?_)
      refine goes_ Tryz.func12 (by kernel_rfl) rfl #[.agg #[.int .i64 t609, .int .u32 t610, .int .i64 t611, .int .i64 t612, .int .i64 t613]] (by rfl) rfl rfl (by (try simp only [List.map_toArray, List.map_cons, List.map_nil]); first | done | rfl | (simp only [List.length_drop, List.length_take]; rfl)) ?_
      with_reducible refine (credenzaref28_Say.calls kj4 t609 t610 t611 t612 t613 t625 _ A45.out).mono ?_
      rintro e w59 ⟨rfl, hb⟩
      refine ⟨_, rfl, ?_⟩
      have n0_ := Aside0.mk (blk_below (g := gb607) (o := .cells #[.int .i64 a0_0, .int .u32 a0_1, .int .i64 a0_2, .int .i64 a0_3, .int .i64 a0_4] 32 (0, 0)) (by (with_reducible repeat (first | refine blk_drewN ?_ _ | refine blk_drew ?_ | refine blk_alloc ?_ _)); exact BK607.out) hb)
      have n1_ := Aside0.mk (blk_below (g := gb608) (o := .cells #[.int .i64 a1_0, .int .u32 a1_1, .int .i64 a1_2, .int .i64 a1_3, .int .i64 a1_4] 32 (0, 0)) (by (with_reducible repeat (first | refine blk_drewN ?_ _ | refine blk_drew ?_ | refine blk_alloc ?_ _)); exact BK608.out) hb)
      have n2_ := Aside0.mk (blk_below (g := gb619) (o := .cells #[.int .i64 t609, .int .u32 t610, .int .i64 t611, .int .i64 t612, .int .i64 t613] 34 (0, 0)) (by (with_reducible repeat (first | refine blk_drewN ?_ _ | refine blk_drew ?_ | refine blk_alloc ?_ _)); exact BK619.out) hb)
      have n3_ := Aside0.mk (blk_below (g := gb620) (o := .cells #[.int .i64 t614, .int .u32 t615, .int .i64 t616, .int .i64 t617, .int .i64 t618] 34 (0, 0)) (by (with_reducible repeat (first | refine blk_drewN ?_ _ | refine blk_drew ?_ | refine blk_alloc ?_ _)); exact BK620.out) hb)
      have n4_ := Aside0.mk (below_step (by repeat (first | (with_reducible first | exact HB.out | apply below_alloc | apply pw_below_drewN | apply below_drew1 | refine below_set ?_ GE607.out | refine below_set ?_ GE608.out | refine below_set ?_ GE619.out | refine below_set ?_ GE620.out) | exact HB.out)) hb)
      clear BK607
      clear BK608
      clear BK619
      clear BK620
      clear HB
      have BK607 := n0_
      have BK608 := n1_
      have BK619 := n2_
      have BK620 := n3_
      have HB := n4_
      clear n0_ n1_ n2_ n3_ n4_
      (try clear hb)
      (try clear hb2)
      (try clear hk)
      (try clear hi)
      refine hK.out _ _ ⟨(blk_cell BK607.out 0).trans rfl, (blk_cell BK607.out 1).trans rfl, (blk_cell BK607.out 2).trans rfl, (blk_cell BK607.out 3).trans rfl, (blk_cell BK607.out 4).trans rfl, (blk_cell BK619.out 0).trans rfl, (blk_cell BK619.out 1).trans rfl, (blk_cell BK619.out 2).trans rfl, (blk_cell BK619.out 3).trans rfl, (blk_cell BK619.out 4).trans rfl, (blk_cell BK608.out 0).trans rfl, (blk_cell BK608.out 1).trans rfl, (blk_cell BK608.out 2).trans rfl, (blk_cell BK608.out 3).trans rfl, (blk_cell BK608.out 4).trans rfl, (blk_cell BK620.out 0).trans rfl, (blk_cell BK620.out 1).trans rfl, (blk_cell BK620.out 2).trans rfl, (blk_cell BK620.out 3).trans rfl, (blk_cell BK620.out 4).trans rfl⟩ (fun hHeld => ?_)
      clear hK K
      refine norm_ (a' := ?_) ?_ ?_
      rotate_left
      ·show Act.put _ (some 23) _ = _
       simp only [Act.put, List.setIfInBounds_toArray, List.set_cons_zero, List.set_cons_succ, i64_w, i32_w]
       rfl
      refine pure_ (i := 4) (N := some 24) (v := ?_) (a' := ?_) #[true, true, true, true, true, false, false, false, false, false, false, false, false, false, false, false, false, false, false, false] rfl rfl (any_of HT_.out (by kernel_rfl)) (fun _ _ _ h => h) (Or.inl ⟨by rfl, ?_⟩) ?_ ?_
      rotate_left
      ·intro w'
       go_simp
       with_reducible rfl
      rotate_left
      ·simp only [Act.put, List.setIfInBounds_toArray, List.set_cons_zero, List.set_cons_succ, i64_w, i32_w]
       rfl
      refine pure_ (i := 5) (N := some 25) (v := ?_) (a' := ?_) #[true, true, true, true, true, true, false, false, false, false, false, false, false, false, false, false, false, false, false, false] rfl rfl (any_of HT_.out (by kernel_rfl)) (fun _ _ _ h => h) (Or.inl ⟨by rfl, ?_⟩) ?_ ?_
      rotate_left
      ·intro w'
       go_simp
       with_reducible rfl
      rotate_left
      ·simp only [Act.put, List.setIfInBounds_toArray, List.set_cons_zero, List.set_cons_succ, i64_w, i32_w]
       rfl
      refine take_ (i := 6) (N := some 26) (v := ?_) (a' := ?_) #[true, true, true, true, true, true, true, false, false, false, false, false, false, false, false, false, false, false, false, false] rfl rfl (take_ofW HT_.out HW_.out (by kernel_rfl)) (fun _ _ _ h => h) (Or.inl ⟨by rfl, ?_⟩) hHeld ?_ ?_
      rotate_left
      ·rintro w' ⟨s0, s1, s2, s3, s4, s5, s6, s7, s8, s9, s10, s11, s12, s13, s14, s15, s16, s17, s18, s19⟩
       go_simp
       with_reducible rfl
      rotate_left
      ·simp only [Act.put, List.setIfInBounds_toArray, List.set_cons_zero, List.set_cons_succ, i64_w, i32_w]
       rfl
      refine take_ (i := 8) (N := some 28) (v := ?_) (a' := ?_) #[true, true, true, true, true, true, true, false, true, false, false, false, false, false, false, false, false, false, false, false] rfl rfl (take_ofW HT_.out HW_.out (by kernel_rfl)) (fun _ _ _ h => h) (Or.inl ⟨by rfl, ?_⟩) hHeld ?_ ?_
      rotate_left
      ·rintro w' ⟨s0, s1, s2, s3, s4, s5, s6, s7, s8, s9, s10, s11, s12, s13, s14, s15, s16, s17, s18, s19⟩
       go_simp
       with_reducible rfl
      rotate_left
      ·simp only [Act.put, List.setIfInBounds_toArray, List.set_cons_zero, List.set_cons_succ, i64_w, i32_w]
       rfl
      refine take_ (i := 11) (N := some 31) (v := ?_) (a' := ?_) #[true, true, true, true, true, true, true, false, true, false, false, true, false, false, false, false, false, false, false, false] rfl rfl (take_ofW HT_.out HW_.out (by kernel_rfl)) (fun _ _ _ h => h) (Or.inl ⟨by rfl, ?_⟩) hHeld ?_ ?_
      rotate_left
      ·rintro w' ⟨s0, s1, s2, s3, s4, s5, s6, s7, s8, s9, s10, s11, s12, s13, s14, s15, s16, s17, s18, s19⟩
       go_simp
       with_reducible rfl
      rotate_left
      ·simp only [Act.put, List.setIfInBounds_toArray, List.set_cons_zero, List.set_cons_succ, i64_w, i32_w]
       rfl
      refine take_ (i := 12) (N := some 32) (v := ?_) (a' := ?_) #[true, true, true, true, true, true, true, false, true, false, false, true, true, false, false, false, false, false, false, false] rfl rfl (take_ofW HT_.out HW_.out (by kernel_rfl)) (fun _ _ _ h => h) (Or.inl ⟨by rfl, ?_⟩) hHeld ?_ ?_
      rotate_left
      ·rintro w' ⟨s0, s1, s2, s3, s4, s5, s6, s7, s8, s9, s10, s11, s12, s13, s14, s15, s16, s17, s18, s19⟩
       go_simp
       with_reducible rfl
      rotate_left
      ·simp only [Act.put, List.setIfInBounds_toArray, List.set_cons_zero, List.set_cons_succ, i64_w, i32_w]
       rfl
      refine pure_ (i := 13) (N := some 33) (v := ?_) (a' := ?_) #[true, true, true, true, true, true, true, false, true, false, false, true, true, true, false, false, false, false, false, false] rfl rfl (any_of HT_.out (by kernel_rfl)) (fun _ _ _ h => h) (Or.inl ⟨by rfl, ?_⟩) ?_ ?_
      rotate_left
      ·intro w'
       go_simp
       with_reducible rfl
      rotate_left
      ·simp only [Act.put, List.setIfInBounds_toArray, List.set_cons_zero, List.set_cons_succ, i64_w, i32_w]
       rfl
      refine one_ (i := 7) (N := some 27) #[true, true, true, true, true, true, true, true, true, false, false, true, true, true, false, false, false, false, false, false] rfl rfl (one_of HT_.out (by kernel_rfl)) (by decide) (fun K hK => ?_)
      refine goes_ Tryz.func11 (by kernel_rfl) rfl #[.agg #[.int .i64 a0_0, .int .u32 a0_1, .int .i64 a0_2, .int .i64 a0_3, .int .i64 a0_4]] (by rfl) rfl rfl (by (try simp only [List.map_toArray, List.map_cons, List.map_nil]); first | done | rfl | (simp only [List.length_drop, List.length_take]; rfl)) ?_
      with_reducible refine (script_Say.calls kj4 a0_0 a0_1 a0_2 a0_3 a0_4 t626 _ ?side1 A47.out).mono ?_
      (case side1 => exact hG.below (by repeat (first | (with_reducible first | exact HB.out | apply below_alloc | apply pw_below_drewN | apply below_drew1 | refine below_set ?_ GE607.out | refine below_set ?_ GE608.out | refine below_set ?_ GE619.out | refine below_set ?_ GE620.out) | exact HB.out)))
      rintro e w60 ⟨rfl, hb⟩
      refine ⟨_, rfl, ?_⟩
      have n0_ := Aside0.mk (blk_below (g := gb607) (o := .cells #[.int .i64 a0_0, .int .u32 a0_1, .int .i64 a0_2, .int .i64 a0_3, .int .i64 a0_4] 32 (0, 0)) (by (with_reducible repeat (first | refine blk_drewN ?_ _ | refine blk_drew ?_ | refine blk_alloc ?_ _)); exact BK607.out) hb)
      have n1_ := Aside0.mk (blk_below (g := gb608) (o := .cells #[.int .i64 a1_0, .int .u32 a1_1, .int .i64 a1_2, .int .i64 a1_3, .int .i64 a1_4] 32 (0, 0)) (by (with_reducible repeat (first | refine blk_drewN ?_ _ | refine blk_drew ?_ | refine blk_alloc ?_ _)); exact BK608.out) hb)
      have n2_ := Aside0.mk (blk_below (g := gb619) (o := .cells #[.int .i64 t609, .int .u32 t610, .int .i64 t611, .int .i64 t612, .int .i64 t613] 34 (0, 0)) (by (with_reducible repeat (first | refine blk_drewN ?_ _ | refine blk_drew ?_ | refine blk_alloc ?_ _)); exact BK619.out) hb)
      have n3_ := Aside0.mk (blk_below (g := gb620) (o := .cells #[.int .i64 t614, .int .u32 t615, .int .i64 t616, .int .i64 t617, .int .i64 t618] 34 (0, 0)) (by (with_reducible repeat (first | refine blk_drewN ?_ _ | refine blk_drew ?_ | refine blk_alloc ?_ _)); exact BK620.out) hb)
      have n4_ := Aside0.mk (below_step (by repeat (first | (with_reducible first | exact HB.out | apply below_alloc | apply pw_below_drewN | apply below_drew1 | refine below_set ?_ GE607.out | refine below_set ?_ GE608.out | refine below_set ?_ GE619.out | refine below_set ?_ GE620.out) | exact HB.out)) hb)
      clear BK607
      clear BK608
      clear BK619
      clear BK620
      clear HB
      have BK607 := n0_
      have BK608 := n1_
      have BK619 := n2_
      have BK620 := n3_
      have HB := n4_
      clear n0_ n1_ n2_ n3_ n4_
      (try clear hb)
      (try clear hb2)
      (try clear hk)
      (try clear hi)
      refine hK.out _ _ ⟨(blk_cell BK607.out 0).trans rfl, (blk_cell BK607.out 1).trans rfl, (blk_cell BK607.out 2).trans rfl, (blk_cell BK607.out 3).trans rfl, (blk_cell BK607.out 4).trans rfl, (blk_cell BK619.out 0).trans rfl, (blk_cell BK619.out 1).trans rfl, (blk_cell BK619.out 2).trans rfl, (blk_cell BK619.out 3).trans rfl, (blk_cell BK619.out 4).trans rfl, (blk_cell BK608.out 0).trans rfl, (blk_cell BK608.out 1).trans rfl, (blk_cell BK608.out 2).trans rfl, (blk_cell BK608.out 3).trans rfl, (blk_cell BK608.out 4).trans rfl, (blk_cell BK620.out 0).trans rfl, (blk_cell BK620.out 1).trans rfl, (blk_cell BK620.out 2).trans rfl, (blk_cell BK620.out 3).trans rfl, (blk_cell BK620.out 4).trans rfl⟩ (fun hHeld => ?_)
      clear hK K
      refine norm_ (a' := ?_) ?_ ?_
      rotate_left
      ·show Act.put _ (some 27) _ = _
       simp only [Act.put, List.setIfInBounds_toArray, List.set_cons_zero, List.set_cons_succ, i64_w, i32_w]
       rfl
      refine one_ (i := 9) (N := some 29) #[true, true, true, true, true, true, true, true, true, true, false, true, true, true, false, false, false, false, false, false] rfl rfl (one_of HT_.out (by kernel_rfl)) (by decide) (fun K hK => ?_)
      refine goes_ Tryz.func11 (by kernel_rfl) rfl #[.agg #[.int .i64 a1_0, .int .u32 a1_1, .int .i64 a1_2, .int .i64 a1_3, .int .i64 a1_4]] (by rfl) rfl rfl (by (try simp only [List.map_toArray, List.map_cons, List.map_nil]); first | done | rfl | (simp only [List.length_drop, List.length_take]; rfl)) ?_
      with_reducible refine (script_Say.calls kj4 a1_0 a1_1 a1_2 a1_3 a1_4 t627 _ ?side1 A48.out).mono ?_
      (case side1 => exact hG.below (by repeat (first | (with_reducible first | exact HB.out | apply below_alloc | apply pw_below_drewN | apply below_drew1 | refine below_set ?_ GE607.out | refine below_set ?_ GE608.out | refine below_set ?_ GE619.out | refine below_set ?_ GE620.out) | exact HB.out)))
      rintro e w61 ⟨rfl, hb⟩
      refine ⟨_, rfl, ?_⟩
      have n0_ := Aside0.mk (blk_below (g := gb607) (o := .cells #[.int .i64 a0_0, .int .u32 a0_1, .int .i64 a0_2, .int .i64 a0_3, .int .i64 a0_4] 32 (0, 0)) (by (with_reducible repeat (first | refine blk_drewN ?_ _ | refine blk_drew ?_ | refine blk_alloc ?_ _)); exact BK607.out) hb)
      have n1_ := Aside0.mk (blk_below (g := gb608) (o := .cells #[.int .i64 a1_0, .int .u32 a1_1, .int .i64 a1_2, .int .i64 a1_3, .int .i64 a1_4] 32 (0, 0)) (by (with_reducible repeat (first | refine blk_drewN ?_ _ | refine blk_drew ?_ | refine blk_alloc ?_ _)); exact BK608.out) hb)
      have n2_ := Aside0.mk (blk_below (g := gb619) (o := .cells #[.int .i64 t609, .int .u32 t610, .int .i64 t611, .int .i64 t612, .int .i64 t613] 34 (0, 0)) (by (with_reducible repeat (first | refine blk_drewN ?_ _ | refine blk_drew ?_ | refine blk_alloc ?_ _)); exact BK619.out) hb)
      have n3_ := Aside0.mk (blk_below (g := gb620) (o := .cells #[.int .i64 t614, .int .u32 t615, .int .i64 t616, .int .i64 t617, .int .i64 t618] 34 (0, 0)) (by (with_reducible repeat (first | refine blk_drewN ?_ _ | refine blk_drew ?_ | refine blk_alloc ?_ _)); exact BK620.out) hb)
      have n4_ := Aside0.mk (below_step (by repeat (first | (with_reducible first | exact HB.out | apply below_alloc | apply pw_below_drewN | apply below_drew1 | refine below_set ?_ GE607.out | refine below_set ?_ GE608.out | refine below_set ?_ GE619.out | refine below_set ?_ GE620.out) | exact HB.out)) hb)
      clear BK607
      clear BK608
      clear BK619
      clear BK620
      clear HB
      have BK607 := n0_
      have BK608 := n1_
      have BK619 := n2_
      have BK620 := n3_
      have HB := n4_
      clear n0_ n1_ n2_ n3_ n4_
      (try clear hb)
      (try clear hb2)
      (try clear hk)
      (try clear hi)
      refine hK.out _ _ ⟨(blk_cell BK607.out 0).trans rfl, (blk_cell BK607.out 1).trans rfl, (blk_cell BK607.out 2).trans rfl, (blk_cell BK607.out 3).trans rfl, (blk_cell BK607.out 4).trans rfl, (blk_cell BK619.out 0).trans rfl, (blk_cell BK619.out 1).trans rfl, (blk_cell BK619.out 2).trans rfl, (blk_cell BK619.out 3).trans rfl, (blk_cell BK619.out 4).trans rfl, (blk_cell BK608.out 0).trans rfl, (blk_cell BK608.out 1).trans rfl, (blk_cell BK608.out 2).trans rfl, (blk_cell BK608.out 3).trans rfl, (blk_cell BK608.out 4).trans rfl, (blk_cell BK620.out 0).trans rfl, (blk_cell BK620.out 1).trans rfl, (blk_cell BK620.out 2).trans rfl, (blk_cell BK620.out 3).trans rfl, (blk_cell BK620.out 4).trans rfl⟩ (fun hHeld => ?_)
      clear hK K
      refine norm_ (a' := ?_) ?_ ?_
      rotate_left
      ·show Act.put _ (some 29) _ = _
       simp only [Act.put, List.setIfInBounds_toArray, List.set_cons_zero, List.set_cons_succ, i64_w, i32_w]
       rfl
      refine pure_ (i := 10) (N := some 30) (v := ?_) (a' := ?_) #[true, true, true, true, true, true, true, true, true, true, true, true, true, true, false, false, false, false, false, false] rfl rfl (any_of HT_.out (by kernel_rfl)) (fun _ _ _ h => h) (Or.inl ⟨by rfl, ?_⟩) ?_ ?_
      rotate_left
      ·intro w'
       go_simp
       with_reducible rfl
      rotate_left
      ·simp only [Act.put, List.setIfInBounds_toArray, List.set_cons_zero, List.set_cons_succ, i64_w, i32_w]
       rfl
      refine pure_ (i := 14) (N := some 34) (v := ?_) (a' := ?_) #[true, true, true, true, true, true, true, true, true, true, true, true, true, true, true, false, false, false, false, false] rfl rfl (any_of HT_.out (by kernel_rfl)) (fun _ _ _ h => h) (Or.inl ⟨by rfl, ?_⟩) ?_ ?_
      rotate_left
      ·intro w'
       go_simp
       with_reducible rfl
      rotate_left
      ·simp only [Act.put, List.setIfInBounds_toArray, List.set_cons_zero, List.set_cons_succ, i64_w, i32_w]
       rfl
      refine pure_ (i := 15) (N := some 35) (v := ?_) (a' := ?_) #[true, true, true, true, true, true, true, true, true, true, true, true, true, true, true, true, false, false, false, false] rfl rfl (any_of HT_.out (by kernel_rfl)) (fun _ _ _ h => h) (Or.inl ⟨by rfl, ?_⟩) ?_ ?_
      rotate_left
      ·intro w'
       go_simp
       with_reducible rfl
      rotate_left
      ·simp only [Act.put, List.setIfInBounds_toArray, List.set_cons_zero, List.set_cons_succ, i64_w, i32_w]
       rfl
      refine pure_ (i := 16) (N := some 36) (v := ?_) (a' := ?_) #[true, true, true, true, true, true, true, true, true, true, true, true, true, true, true, true, true, false, false, false] rfl rfl (any_of HT_.out (by kernel_rfl)) (fun _ _ _ h => h) (Or.inl ⟨by rfl, ?_⟩) ?_ ?_
      rotate_left
      ·intro w'
       go_simp
       with_reducible rfl
      rotate_left
      ·simp only [Act.put, List.setIfInBounds_toArray, List.set_cons_zero, List.set_cons_succ, i64_w, i32_w]
       rfl
      refine pure_ (i := 17) (N := some 37) (v := undef) (a' := ?_) #[true, true, true, true, true, true, true, true, true, true, true, true, true, true, true, true, true, true, false, false] rfl rfl (any_of HT_.out (by kernel_rfl)) (fun _ _ _ h => h) (Or.inr ⟨by rfl, rfl⟩) ?_ ?_
      rotate_left
      ·simp only [Act.put, List.setIfInBounds_toArray, List.set_cons_zero, List.set_cons_succ, i64_w, i32_w]
       rfl
      refine pure_ (i := 18) (N := some 38) (v := ?_) (a' := ?_) #[true, true, true, true, true, true, true, true, true, true, true, true, true, true, true, true, true, true, true, false] rfl rfl (any_of HT_.out (by kernel_rfl)) (fun _ _ _ h => h) (Or.inl ⟨by rfl, ?_⟩) ?_ ?_
      rotate_left
      ·intro w'
       go_simp
       with_reducible rfl
      rotate_left
      ·simp only [Act.put, List.setIfInBounds_toArray, List.set_cons_zero, List.set_cons_succ, i64_w, i32_w]
       rfl
      refine pure_ (i := 19) (N := some 4) (v := ?_) (a' := ?_) #[true, true, true, true, true, true, true, true, true, true, true, true, true, true, true, true, true, true, true, true] rfl rfl (any_of HT_.out (by kernel_rfl)) (fun _ _ _ h => h) (Or.inl ⟨by rfl, ?_⟩) ?_ ?_
      rotate_left
      ·intro w'
       go_simp
       with_reducible rfl
      rotate_left
      ·simp only [Act.put, List.setIfInBounds_toArray, List.set_cons_zero, List.set_cons_succ, i64_w, i32_w]
       rfl
      refine done_ (done_of HT_.out (by kernel_rfl)) ?_
      try go_wp2
      go_ret
      exact ⟨by first | rfl | (simp [errW_none, errW_some] <;> rfl) | (simp [*, errW_none, errW_some] <;> rfl), by repeat (first | (with_reducible first | exact HB.out | apply below_alloc | apply pw_below_drewN | apply below_drew1 | refine below_set ?_ GE607.out | refine below_set ?_ GE608.out | refine below_set ?_ GE619.out | refine below_set ?_ GE620.out) | exact HB.out)⟩
    ·rw [if_neg c46] at H
     have c46b0 : (t624.toList == t625.toList) = false := beq_eq_false_iff_ne.mpr c46
     have c46b1 : (t624.toList != t625.toList) = true := bne_iff_ne.mpr c46
     obtain rfl := Option.some.inj H
     try go_wp2
     have n0_ := Aside0.mk (blk_drew BK607.out)
     have n1_ := Aside0.mk (blk_drew BK608.out)
     have n2_ := Aside0.mk (blk_drew BK619.out)
     have n3_ := Aside0.mk (blk_drew BK620.out)
     have n4_ := Aside0.mk (below_drew1 HB.out)
     clear BK607
     clear BK608
     clear BK619
     clear BK620
     clear HB
     have BK607 := n0_
     have BK608 := n1_
     have BK619 := n2_
     have BK620 := n3_
     have HB := n4_
     clear n0_ n1_ n2_ n3_ n4_
     refine start_ (n := 20) (S := fun w' => w'.cell? ⟨gb607, 0, none⟩ = some (.int .i64 a0_0) ∧ w'.cell? ⟨gb607, 1, none⟩ = some (.int .u32 a0_1) ∧ w'.cell? ⟨gb607, 2, none⟩ = some (.int .i64 a0_2) ∧ w'.cell? ⟨gb607, 3, none⟩ = some (.int .i64 a0_3) ∧ w'.cell? ⟨gb607, 4, none⟩ = some (.int .i64 a0_4) ∧ w'.cell? ⟨gb619, 0, none⟩ = some (.int .i64 t609) ∧ w'.cell? ⟨gb619, 1, none⟩ = some (.int .u32 t610) ∧ w'.cell? ⟨gb619, 2, none⟩ = some (.int .i64 t611) ∧ w'.cell? ⟨gb619, 3, none⟩ = some (.int .i64 t612) ∧ w'.cell? ⟨gb619, 4, none⟩ = some (.int .i64 t613)) (ds := []) #[false, false, false, false, false, false, false, false, false, false, false, false, false, false, false, false, false, false, false, false] (by kernel_rfl) rfl rfl ⟨(blk_cell BK607.out 0).trans rfl, (blk_cell BK607.out 1).trans rfl, (blk_cell BK607.out 2).trans rfl, (blk_cell BK607.out 3).trans rfl, (blk_cell BK607.out 4).trans rfl, (blk_cell BK619.out 0).trans rfl, (blk_cell BK619.out 1).trans rfl, (blk_cell BK619.out 2).trans rfl, (blk_cell BK619.out 3).trans rfl, (blk_cell BK619.out 4).trans rfl⟩ (fun hHeld => ?_); refine with_tabW credenzalaw28_ScriptSays.tab4 credenzalaw28_ScriptSays.bits4 (fun HT_ HW_ => ?_)
     generalize wc.drew = w62 at BK607 BK608 BK619 BK620 HB hHeld ⊢
     refine take_ (i := 0) (N := some 20) (v := ?_) (a' := ?_) #[true, false, false, false, false, false, false, false, false, false, false, false, false, false, false, false, false, false, false, false] rfl rfl (take_ofW HT_.out HW_.out (by kernel_rfl)) (fun _ _ _ h => h) (Or.inl ⟨by rfl, ?_⟩) hHeld ?_ ?_
     rotate_left
     ·rintro w' ⟨s0, s1, s2, s3, s4, s5, s6, s7, s8, s9⟩
      go_simp
      with_reducible rfl
     rotate_left
     ·simp only [Act.put, List.setIfInBounds_toArray, List.set_cons_zero, List.set_cons_succ, i64_w, i32_w]
      rfl
     refine take_ (i := 2) (N := some 22) (v := ?_) (a' := ?_) #[true, false, true, false, false, false, false, false, false, false, false, false, false, false, false, false, false, false, false, false] rfl rfl (take_ofW HT_.out HW_.out (by kernel_rfl)) (fun _ _ _ h => h) (Or.inl ⟨by rfl, ?_⟩) hHeld ?_ ?_
     rotate_left
     ·rintro w' ⟨s0, s1, s2, s3, s4, s5, s6, s7, s8, s9⟩
      go_simp
      with_reducible rfl
     rotate_left
     ·simp only [Act.put, List.setIfInBounds_toArray, List.set_cons_zero, List.set_cons_succ, i64_w, i32_w]
      rfl
     refine one_ (i := 1) (N := some 21) #[true, true, true, false, false, false, false, false, false, false, false, false, false, false, false, false, false, false, false, false] rfl rfl (one_of HT_.out (by kernel_rfl)) (by decide) (fun K hK => ?_)
     refine goes_ Tryz.func11 (by kernel_rfl) rfl #[.agg #[.int .i64 a0_0, .int .u32 a0_1, .int .i64 a0_2, .int .i64 a0_3, .int .i64 a0_4]] (by rfl) rfl rfl (by (try simp only [List.map_toArray, List.map_cons, List.map_nil]); first | done | rfl | (simp only [List.length_drop, List.length_take]; rfl)) ?_
     with_reducible refine (script_Say.calls kj4 a0_0 a0_1 a0_2 a0_3 a0_4 t624 _ ?side1 A44.out).mono ?_
     (case side1 => exact hG.below (by repeat (first | (with_reducible first | exact HB.out | apply below_alloc | apply pw_below_drewN | apply below_drew1 | refine below_set ?_ GE607.out | refine below_set ?_ GE608.out | refine below_set ?_ GE619.out | refine below_set ?_ GE620.out) | exact HB.out)))
     rintro e w63 ⟨rfl, hb⟩
     refine ⟨_, rfl, ?_⟩
     have n0_ := Aside0.mk (blk_below (g := gb607) (o := .cells #[.int .i64 a0_0, .int .u32 a0_1, .int .i64 a0_2, .int .i64 a0_3, .int .i64 a0_4] 32 (0, 0)) (by (with_reducible repeat (first | refine blk_drewN ?_ _ | refine blk_drew ?_ | refine blk_alloc ?_ _)); exact BK607.out) hb)
     have n1_ := Aside0.mk (blk_below (g := gb608) (o := .cells #[.int .i64 a1_0, .int .u32 a1_1, .int .i64 a1_2, .int .i64 a1_3, .int .i64 a1_4] 32 (0, 0)) (by (with_reducible repeat (first | refine blk_drewN ?_ _ | refine blk_drew ?_ | refine blk_alloc ?_ _)); exact BK608.out) hb)
     have n2_ := Aside0.mk (blk_below (g := gb619) (o := .cells #[.int .i64 t609, .int .u32 t610, .int .i64 t611, .int .i64 t612, .int .i64 t613] 34 (0, 0)) (by (with_reducible repeat (first | refine blk_drewN ?_ _ | refine blk_drew ?_ | refine blk_alloc ?_ _)); exact BK619.out) hb)
     have n3_ := Aside0.mk (blk_below (g := gb620) (o := .cells #[.int .i64 t614, .int .u32 t615, .int .i64 t616, .int .i64 t617, .int .i64 t618] 34 (0, 0)) (by (with_reducible repeat (first | refine blk_drewN ?_ _ | refine blk_drew ?_ | refine blk_alloc ?_ _)); exact BK620.out) hb)
     have n4_ := Aside0.mk (below_step (by repeat (first | (with_reducible first | exact HB.out | apply below_alloc | apply pw_below_drewN | apply below_drew1 | refine below_set ?_ GE607.out | refine below_set ?_ GE608.out | refine below_set ?_ GE619.out | refine below_set ?_ GE620.out) | exact HB.out)) hb)
     clear BK607
     clear BK608
     clear BK619
     clear BK620
     clear HB
     have BK607 := n0_
     have BK608 := n1_
     have BK619 := n2_
     have BK620 := n3_
     have HB := n4_
     clear n0_ n1_ n2_ n3_ n4_
     (try clear hb)
     (try clear hb2)
     (try clear hk)
     (try clear hi)
     refine hK.out _ _ ⟨(blk_cell BK607.out 0).trans rfl, (blk_cell BK607.out 1).trans rfl, (blk_cell BK607.out 2).trans rfl, (blk_cell BK607.out 3).trans rfl, (blk_cell BK607.out 4).trans rfl, (blk_cell BK619.out 0).trans rfl, (blk_cell BK619.out 1).trans rfl, (blk_cell BK619.out 2).trans rfl, (blk_cell BK619.out 3).trans rfl, (blk_cell BK619.out 4).trans rfl⟩ (fun hHeld => ?_)
     clear hK K
     refine norm_ (a' := ?_) ?_ ?_
     rotate_left
     ·show Act.put _ (some 21) _ = _
      simp only [Act.put, List.setIfInBounds_toArray, List.set_cons_zero, List.set_cons_succ, i64_w, i32_w]
      rfl
     refine one_ (i := 3) (N := some 23) #[true, true, true, true, false, false, false, false, false, false, false, false, false, false, false, false, false, false, false, false] rfl rfl (one_of HT_.out (by kernel_rfl)) (by decide) (fun K hK => ?_)
     refine goes_ Tryz.func12 (by kernel_rfl) rfl #[.agg #[.int .i64 t609, .int .u32 t610, .int .i64 t611, .int .i64 t612, .int .i64 t613]] (by rfl) rfl rfl (by (try simp only [List.map_toArray, List.map_cons, List.map_nil]); first | done | rfl | (simp only [List.length_drop, List.length_take]; rfl)) ?_
     with_reducible refine (credenzaref28_Say.calls kj4 t609 t610 t611 t612 t613 t625 _ A45.out).mono ?_
     rintro e w64 ⟨rfl, hb⟩
     refine ⟨_, rfl, ?_⟩
     have n0_ := Aside0.mk (blk_below (g := gb607) (o := .cells #[.int .i64 a0_0, .int .u32 a0_1, .int .i64 a0_2, .int .i64 a0_3, .int .i64 a0_4] 32 (0, 0)) (by (with_reducible repeat (first | refine blk_drewN ?_ _ | refine blk_drew ?_ | refine blk_alloc ?_ _)); exact BK607.out) hb)
     have n1_ := Aside0.mk (blk_below (g := gb608) (o := .cells #[.int .i64 a1_0, .int .u32 a1_1, .int .i64 a1_2, .int .i64 a1_3, .int .i64 a1_4] 32 (0, 0)) (by (with_reducible repeat (first | refine blk_drewN ?_ _ | refine blk_drew ?_ | refine blk_alloc ?_ _)); exact BK608.out) hb)
     have n2_ := Aside0.mk (blk_below (g := gb619) (o := .cells #[.int .i64 t609, .int .u32 t610, .int .i64 t611, .int .i64 t612, .int .i64 t613] 34 (0, 0)) (by (with_reducible repeat (first | refine blk_drewN ?_ _ | refine blk_drew ?_ | refine blk_alloc ?_ _)); exact BK619.out) hb)
     have n3_ := Aside0.mk (blk_below (g := gb620) (o := .cells #[.int .i64 t614, .int .u32 t615, .int .i64 t616, .int .i64 t617, .int .i64 t618] 34 (0, 0)) (by (with_reducible repeat (first | refine blk_drewN ?_ _ | refine blk_drew ?_ | refine blk_alloc ?_ _)); exact BK620.out) hb)
     have n4_ := Aside0.mk (below_step (by repeat (first | (with_reducible first | exact HB.out | apply below_alloc | apply pw_below_drewN | apply below_drew1 | refine below_set ?_ GE607.out | refine below_set ?_ GE608.out | refine below_set ?_ GE619.out | refine below_set ?_ GE620.out) | exact HB.out)) hb)
     clear BK607
     clear BK608
     clear BK619
     clear BK620
     clear HB
     have BK607 := n0_
     have BK608 := n1_
     have BK619 := n2_
     have BK620 := n3_
     have HB := n4_
     clear n0_ n1_ n2_ n3_ n4_
     (try clear hb)
     (try clear hb2)
     (try clear hk)
     (try clear hi)
     refine hK.out _ _ ⟨(blk_cell BK607.out 0).trans rfl, (blk_cell BK607.out 1).trans rfl, (blk_cell BK607.out 2).trans rfl, (blk_cell BK607.out 3).trans rfl, (blk_cell BK607.out 4).trans rfl, (blk_cell BK619.out 0).trans rfl, (blk_cell BK619.out 1).trans rfl, (blk_cell BK619.out 2).trans rfl, (blk_cell BK619.out 3).trans rfl, (blk_cell BK619.out 4).trans rfl⟩ (fun hHeld => ?_)
     clear hK K
     refine norm_ (a' := ?_) ?_ ?_
     rotate_left
     ·show Act.put _ (some 23) _ = _
      simp only [Act.put, List.setIfInBounds_toArray, List.set_cons_zero, List.set_cons_succ, i64_w, i32_w]
      rfl
     refine pure_ (i := 4) (N := some 24) (v := ?_) (a' := ?_) #[true, true, true, true, true, false, false, false, false, false, false, false, false, false, false, false, false, false, false, false] rfl rfl (any_of HT_.out (by kernel_rfl)) (fun _ _ _ h => h) (Or.inl ⟨by rfl, ?_⟩) ?_ ?_
     rotate_left
     ·intro w'
      go_simp
      with_reducible rfl
     rotate_left
     ·simp only [Act.put, List.setIfInBounds_toArray, List.set_cons_zero, List.set_cons_succ, i64_w, i32_w]
      rfl
     refine pure_ (i := 5) (N := some 25) (v := ?_) (a' := ?_) #[true, true, true, true, true, true, false, false, false, false, false, false, false, false, false, false, false, false, false, false] rfl rfl (any_of HT_.out (by kernel_rfl)) (fun _ _ _ h => h) (Or.inl ⟨by rfl, ?_⟩) ?_ ?_
     rotate_left
     ·intro w'
      go_simp
      with_reducible rfl
     rotate_left
     ·simp only [Act.put, List.setIfInBounds_toArray, List.set_cons_zero, List.set_cons_succ, i64_w, i32_w]
      rfl
     refine pure_ (i := 6) (N := some 26) (v := undef) (a' := ?_) #[true, true, true, true, true, true, true, false, false, false, false, false, false, false, false, false, false, false, false, false] rfl rfl (any_of HT_.out (by kernel_rfl)) (fun _ _ _ h => h) (Or.inr ⟨by rfl, rfl⟩) ?_ ?_
     rotate_left
     ·simp only [Act.put, List.setIfInBounds_toArray, List.set_cons_zero, List.set_cons_succ, i64_w, i32_w]
      rfl
     refine pure_ (i := 7) (N := some 27) (v := undef) (a' := ?_) #[true, true, true, true, true, true, true, true, false, false, false, false, false, false, false, false, false, false, false, false] rfl rfl (any_of HT_.out (by kernel_rfl)) (fun _ _ _ h => h) (Or.inr ⟨by rfl, rfl⟩) ?_ ?_
     rotate_left
     ·simp only [Act.put, List.setIfInBounds_toArray, List.set_cons_zero, List.set_cons_succ, i64_w, i32_w]
      rfl
     refine pure_ (i := 8) (N := some 28) (v := undef) (a' := ?_) #[true, true, true, true, true, true, true, true, true, false, false, false, false, false, false, false, false, false, false, false] rfl rfl (any_of HT_.out (by kernel_rfl)) (fun _ _ _ h => h) (Or.inr ⟨by rfl, rfl⟩) ?_ ?_
     rotate_left
     ·simp only [Act.put, List.setIfInBounds_toArray, List.set_cons_zero, List.set_cons_succ, i64_w, i32_w]
      rfl
     refine pure_ (i := 9) (N := some 29) (v := undef) (a' := ?_) #[true, true, true, true, true, true, true, true, true, true, false, false, false, false, false, false, false, false, false, false] rfl rfl (any_of HT_.out (by kernel_rfl)) (fun _ _ _ h => h) (Or.inr ⟨by rfl, rfl⟩) ?_ ?_
     rotate_left
     ·simp only [Act.put, List.setIfInBounds_toArray, List.set_cons_zero, List.set_cons_succ, i64_w, i32_w]
      rfl
     refine pure_ (i := 10) (N := some 30) (v := undef) (a' := ?_) #[true, true, true, true, true, true, true, true, true, true, true, false, false, false, false, false, false, false, false, false] rfl rfl (any_of HT_.out (by kernel_rfl)) (fun _ _ _ h => h) (Or.inr ⟨by rfl, rfl⟩) ?_ ?_
     rotate_left
     ·simp only [Act.put, List.setIfInBounds_toArray, List.set_cons_zero, List.set_cons_succ, i64_w, i32_w]
      rfl
     refine pure_ (i := 11) (N := some 31) (v := undef) (a' := ?_) #[true, true, true, true, true, true, true, true, true, true, true, true, false, false, false, false, false, false, false, false] rfl rfl (any_of HT_.out (by kernel_rfl)) (fun _ _ _ h => h) (Or.inr ⟨by rfl, rfl⟩) ?_ ?_
     rotate_left
     ·simp only [Act.put, List.setIfInBounds_toArray, List.set_cons_zero, List.set_cons_succ, i64_w, i32_w]
      rfl
     refine pure_ (i := 12) (N := some 32) (v := undef) (a' := ?_) #[true, true, true, true, true, true, true, true, true, true, true, true, true, false, false, false, false, false, false, false] rfl rfl (any_of HT_.out (by kernel_rfl)) (fun _ _ _ h => h) (Or.inr ⟨by rfl, rfl⟩) ?_ ?_
     rotate_left
     ·simp only [Act.put, List.setIfInBounds_toArray, List.set_cons_zero, List.set_cons_succ, i64_w, i32_w]
      rfl
     refine pure_ (i := 13) (N := some 33) (v := undef) (a' := ?_) #[true, true, true, true, true, true, true, true, true, true, true, true, true, true, false, false, false, false, false, false] rfl rfl (any_of HT_.out (by kernel_rfl)) (fun _ _ _ h => h) (Or.inr ⟨by rfl, rfl⟩) ?_ ?_
     rotate_left
     ·simp only [Act.put, List.setIfInBounds_toArray, List.set_cons_zero, List.set_cons_succ, i64_w, i32_w]
      rfl
     refine pure_ (i := 14) (N := some 34) (v := undef) (a' := ?_) #[true, true, true, true, true, true, true, true, true, true, true, true, true, true, true, false, false, false, false, false] rfl rfl (any_of HT_.out (by kernel_rfl)) (fun _ _ _ h => h) (Or.inr ⟨by rfl, rfl⟩) ?_ ?_
     rotate_left
     ·simp only [Act.put, List.setIfInBounds_toArray, List.set_cons_zero, List.set_cons_succ, i64_w, i32_w]
      rfl
     refine pure_ (i := 15) (N := some 35) (v := ?_) (a' := ?_) #[true, true, true, true, true, true, true, true, true, true, true, true, true, true, true, true, false, false, false, false] rfl rfl (any_of HT_.out (by kernel_rfl)) (fun _ _ _ h => h) (Or.inl ⟨by rfl, ?_⟩) ?_ ?_
     rotate_left
     ·intro w'
      go_simp
      with_reducible rfl
     rotate_left
     ·simp only [Act.put, List.setIfInBounds_toArray, List.set_cons_zero, List.set_cons_succ, i64_w, i32_w]
      rfl
     refine pure_ (i := 16) (N := some 36) (v := ?_) (a' := ?_) #[true, true, true, true, true, true, true, true, true, true, true, true, true, true, true, true, true, false, false, false] rfl rfl (any_of HT_.out (by kernel_rfl)) (fun _ _ _ h => h) (Or.inl ⟨by rfl, ?_⟩) ?_ ?_
     rotate_left
     ·intro w'
      go_simp
      with_reducible rfl
     rotate_left
     ·simp only [Act.put, List.setIfInBounds_toArray, List.set_cons_zero, List.set_cons_succ, i64_w, i32_w]
      rfl
     refine pure_ (i := 17) (N := some 37) (v := undef) (a' := ?_) #[true, true, true, true, true, true, true, true, true, true, true, true, true, true, true, true, true, true, false, false] rfl rfl (any_of HT_.out (by kernel_rfl)) (fun _ _ _ h => h) (Or.inr ⟨by rfl, rfl⟩) ?_ ?_
     rotate_left
     ·simp only [Act.put, List.setIfInBounds_toArray, List.set_cons_zero, List.set_cons_succ, i64_w, i32_w]
      rfl
     refine pure_ (i := 18) (N := some 38) (v := ?_) (a' := ?_) #[true, true, true, true, true, true, true, true, true, true, true, true, true, true, true, true, true, true, true, false] rfl rfl (any_of HT_.out (by kernel_rfl)) (fun _ _ _ h => h) (Or.inl ⟨by rfl, ?_⟩) ?_ ?_
     rotate_left
     ·intro w'
      go_simp
      with_reducible rfl
     rotate_left
     ·simp only [Act.put, List.setIfInBounds_toArray, List.set_cons_zero, List.set_cons_succ, i64_w, i32_w]
      rfl
     refine pure_ (i := 19) (N := some 4) (v := ?_) (a' := ?_) #[true, true, true, true, true, true, true, true, true, true, true, true, true, true, true, true, true, true, true, true] rfl rfl (any_of HT_.out (by kernel_rfl)) (fun _ _ _ h => h) (Or.inl ⟨by rfl, ?_⟩) ?_ ?_
     rotate_left
     ·intro w'
      go_simp
      with_reducible rfl
     rotate_left
     ·simp only [Act.put, List.setIfInBounds_toArray, List.set_cons_zero, List.set_cons_succ, i64_w, i32_w]
      rfl
     refine done_ (done_of HT_.out (by kernel_rfl)) ?_
     try go_wp2
     go_ret
     exact ⟨by first | rfl | (simp [errW_none, errW_some] <;> rfl) | (simp [*, errW_none, errW_some] <;> rfl), by repeat (first | (with_reducible first | exact HB.out | apply below_alloc | apply pw_below_drewN | apply below_drew1 | refine below_set ?_ GE607.out | refine below_set ?_ GE608.out | refine below_set ?_ GE619.out | refine below_set ?_ GE620.out) | exact HB.out)⟩

end Go.Proofs.YtcaiakbaklopmaaGreatDoor.Q
