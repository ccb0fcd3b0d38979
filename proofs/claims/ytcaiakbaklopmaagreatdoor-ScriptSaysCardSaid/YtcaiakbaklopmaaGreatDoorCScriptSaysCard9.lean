/- credenza/credenzalaw28.ScriptSays holds, tied to the program's text. (part 9: functions of the program as plain functions, and what is shown of them.) Conditions: as each theorem states; the last one has none. -/
import Derived.Test.YtcaiakbaklopmaaGreatDoorCScriptSaysCard1
import Derived.Test.YtcaiakbaklopmaaGreatDoorCScriptSaysCard2
import Derived.Test.YtcaiakbaklopmaaGreatDoorCScriptSaysCard3
import Derived.Test.YtcaiakbaklopmaaGreatDoorCScriptSaysCard4
import Derived.Test.YtcaiakbaklopmaaGreatDoorCScriptSaysCard5
import Derived.Test.YtcaiakbaklopmaaGreatDoorCScriptSaysCard6
import Derived.Test.YtcaiakbaklopmaaGreatDoorCScriptSaysCard7
import Derived.Test.YtcaiakbaklopmaaGreatDoorCScriptSaysCard8
namespace Go.Proofs.YtcaiakbaklopmaaGreatDoor.Q
open Go.RowKit Go.Proofs.YtcaiakbaklopmaaGreatDoorW.PrintWords Go.Proofs.YtcaiakbaklopmaaGreatDoorW.PrintLast Go.Proofs.YtcaiakbaklopmaaGreatDoorW.PrintMore
attribute [local go_sem] max2_int min2_int max_two min_two max_three min_three max_four min_four   -- for this text's walks alone
set_option linter.unusedVariables false
set_option linter.unusedSimpArgs false

def credenzalaw28_awake.f : Option Bool := some true
theorem credenzalaw28_awake.calls (r : Bool) (w : World) (h : credenzalaw28_awake.f = some r) :
  Calls Tryz.prog 6 #[] w fun e w' => e = .returned (.bool r) ∧ Below w.heap.size w w' := by
 obtain rfl := Option.some.inj h
 refine (Go.Proofs.YtcaiakbaklopmaaGreatDoorD.awake28 w).mono ?_
 rintro e w' ⟨h1, h2, h3, h4, h5, h6⟩
 exact ⟨h1, ⟨h2, h3, h4, h5, h6⟩⟩

end Go.Proofs.YtcaiakbaklopmaaGreatDoor.Q

namespace Go.Proofs.YtcaiakbaklopmaaGreatDoor.Q
open Go.RowKit Go.Proofs.YtcaiakbaklopmaaGreatDoorW.PrintWords Go.Proofs.YtcaiakbaklopmaaGreatDoorW.PrintLast Go.Proofs.YtcaiakbaklopmaaGreatDoorW.PrintMore
attribute [local go_sem] max2_int min2_int max_two min_two max_three min_three max_four min_four   -- for this text's walks alone
set_option linter.unusedVariables false
set_option linter.unusedSimpArgs false

def credenzalaw28_event.f (a0_0 : Int) (a0_1 : Int) (a0_2 : Int) (a0_3 : Int) (a0_4 : Int) : Option (Int × Int × Int × Int × Int) := some (a0_0, a0_1, a0_2, a0_3, a0_4)
set_option maxHeartbeats 8000000 in
set_option maxRecDepth 100000 in
theorem credenzalaw28_event.calls (a0_0 : Int) (a0_1 : Int) (a0_2 : Int) (a0_3 : Int) (a0_4 : Int) (r1 : Int) (r2 : Int) (r3 : Int) (r4 : Int) (r5 : Int) (w : World) (h : credenzalaw28_event.f a0_0 a0_1 a0_2 a0_3 a0_4 = some (r1, r2, r3, r4, r5)) :
  Calls Tryz.prog 9 #[.agg #[.int .i64 a0_0, .int .u32 a0_1, .int .i64 a0_2, .int .i64 a0_3, .int .i64 a0_4]] w fun e w' => e = .returned (.agg #[.int .i64 r1, .int .u32 r2, .int .i64 r3, .int .i64 r4, .int .i64 r5]) ∧ Below w.heap.size w w' := by
 have hu32 := Tryz.underlying32
 have hu34 := Tryz.underlying34
 have HB := Aside0.mk (Below.refl w.heap.size w)
 have H : (some (a0_0, a0_1, a0_2, a0_3, a0_4)) = some (r1, r2, r3, r4, r5) := h
 clear h
 simp only [Option.some.injEq, Prod.mk.injEq] at H
 obtain ⟨rfl, rfl, rfl, rfl, rfl⟩ := H
 go_enter Tryz.func9, Tryz.ntmps9
 go_wp2_with (first | ((with_reducible refine gate_dst (N := 1) rfl ?_); refine box_event ?hg (N := 1) ?hd (cs := #[.int .i64 a0_0, .int .u32 a0_1, .int .i64 a0_2, .int .i64 a0_3, .int .i64 a0_4]) (t := 32) ?hr ?_; (case hd => rfl); (case hg => rfl); (case hr => first | (go_simp; done) | (go_simp; rfl)); intro gb590 hg w2 hbox hb; have n0_ := Aside0.mk (below_step (by repeat (first | (with_reducible first | exact HB.out | apply below_alloc | apply pw_below_drewN | apply below_drew1) | exact HB.out)) hb); have n1_ := Aside0.mk (hbox); have n2_ := Aside0.mk ((by rw [hg]; exact (below_size (by repeat (first | (with_reducible first | exact HB.out | apply below_alloc | apply pw_below_drewN | apply below_drew1) | exact HB.out))) : w.heap.size ≤ gb590)); have n3_ := Aside0.mk ((by rw [hg]; exact (below_size (by repeat (first | (with_reducible first | exact HB.out | apply below_alloc | apply pw_below_drewN | apply below_drew1) | exact HB.out))) : w.heap.size ≤ gb590)); clear HB; have HB := n0_; have BK590 := n1_; have GW590 := n2_; have GE590 := n3_; clear n0_ n1_ n2_ n3_; clear hb hbox hg) | ((with_reducible refine gate_dst (N := 2) rfl ?_); refine box_event ?hg (N := 2) ?hd (cs := #[.int .i64 0, .int .u32 0, .int .i64 0, .int .i64 0, .int .i64 0]) (t := 34) ?hr ?_; (case hd => rfl); (case hg => rfl); (case hr => first | (go_simp; done) | (go_simp; rfl)); intro gb591 hg w3 hbox hb; have n0_ := Aside0.mk (blk_below (g := gb590) (o := .cells #[.int .i64 a0_0, .int .u32 a0_1, .int .i64 a0_2, .int .i64 a0_3, .int .i64 a0_4] 32 (0, 0)) (by (with_reducible repeat (first | refine blk_drewN ?_ _ | refine blk_drew ?_ | refine blk_alloc ?_ _)); exact BK590.out) hb); have n1_ := Aside0.mk (below_step (by repeat (first | (with_reducible first | exact HB.out | apply below_alloc | apply pw_below_drewN | apply below_drew1 | refine below_set ?_ GE590.out) | exact HB.out)) hb); have n2_ := Aside0.mk (hbox); have n3_ := Aside0.mk ((by rw [hg]; exact (below_size (by repeat (first | (with_reducible first | exact HB.out | apply below_alloc | apply pw_below_drewN | apply below_drew1 | refine below_set ?_ GE590.out) | exact HB.out))) : w.heap.size ≤ gb591)); have n4_ := Aside0.mk ((by rw [hg]; exact (below_size (by repeat (first | (with_reducible first | exact HB.out | apply below_alloc | apply pw_below_drewN | apply below_drew1 | refine below_set ?_ GE590.out) | exact HB.out))) : w.heap.size ≤ gb591)); have n5_ := Aside0.mk ((by rw [hg]; exact Nat.ne_of_lt (blk_lt (g := gb590) (o := .cells #[.int .i64 a0_0, .int .u32 a0_1, .int .i64 a0_2, .int .i64 a0_3, .int .i64 a0_4] 32 (0, 0)) (by (with_reducible repeat (first | refine blk_drewN ?_ _ | refine blk_drew ?_ | refine blk_alloc ?_ _)); exact BK590.out)) : gb590 ≠ gb591)); have n6_ := Aside0.mk ((by rw [hg]; exact Nat.ne_of_gt (blk_lt (g := gb590) (o := .cells #[.int .i64 a0_0, .int .u32 a0_1, .int .i64 a0_2, .int .i64 a0_3, .int .i64 a0_4] 32 (0, 0)) (by (with_reducible repeat (first | refine blk_drewN ?_ _ | refine blk_drew ?_ | refine blk_alloc ?_ _)); exact BK590.out)) : gb591 ≠ gb590)); clear BK590; clear HB; have BK590 := n0_; have HB := n1_; have BK591 := n2_; have GW591 := n3_; have GE591 := n4_; have NB590_591 := n5_; have NB591_590 := n6_; clear n0_ n1_ n2_ n3_ n4_ n5_ n6_; clear hb hbox hg; have hnb4 := NB590_591.out; have hnc4 := NB591_590.out; have hcz5_0 : w3.cell? ⟨gb590, 0, none⟩ = some (.int .i64 a0_0) := (blk_cell BK590.out 0).trans rfl; have hcz5_1 : w3.cell? ⟨gb590, 1, none⟩ = some (.int .u32 a0_1) := (blk_cell BK590.out 1).trans rfl; have hcz5_2 : w3.cell? ⟨gb590, 2, none⟩ = some (.int .i64 a0_2) := (blk_cell BK590.out 2).trans rfl; have hcz5_3 : w3.cell? ⟨gb590, 3, none⟩ = some (.int .i64 a0_3) := (blk_cell BK590.out 3).trans rfl; have hcz5_4 : w3.cell? ⟨gb590, 4, none⟩ = some (.int .i64 a0_4) := (blk_cell BK590.out 4).trans rfl; have hfz5_0 := blk_frozen BK590.out 0; have hfz5_1 := blk_frozen BK590.out 1; have hfz5_2 := blk_frozen BK590.out 2; have hfz5_3 := blk_frozen BK590.out 3; have hfz5_4 := blk_frozen BK590.out 4; have hcz6_0 : w3.cell? ⟨gb591, 0, none⟩ = some (.int .i64 0) := (blk_cell BK591.out 0).trans rfl; have hcz6_1 : w3.cell? ⟨gb591, 1, none⟩ = some (.int .u32 0) := (blk_cell BK591.out 1).trans rfl; have hcz6_2 : w3.cell? ⟨gb591, 2, none⟩ = some (.int .i64 0) := (blk_cell BK591.out 2).trans rfl; have hcz6_3 : w3.cell? ⟨gb591, 3, none⟩ = some (.int .i64 0) := (blk_cell BK591.out 3).trans rfl; have hcz6_4 : w3.cell? ⟨gb591, 4, none⟩ = some (.int .i64 0) := (blk_cell BK591.out 4).trans rfl; have hfz6_0 := blk_frozen BK591.out 0; have hfz6_1 := blk_frozen BK591.out 1; have hfz6_2 := blk_frozen BK591.out 2; have hfz6_3 := blk_frozen BK591.out 3; have hfz6_4 := blk_frozen BK591.out 4))
 refine bodyPost_ret (results_cell_row rfl _ _ gb591 34 #[.int .i64 a0_0, .int .u32 a0_1, .int .i64 a0_2, .int .i64 a0_3, .int .i64 a0_4] (0, 0) _ rfl (by (with_reducible repeat (first | refine blk_drewN ?_ _ | refine blk_drew ?_ | refine blk_alloc ?_ _)); refine blk_put (cs := #[.int .i64 a0_0, .int .u32 a0_1, .int .i64 a0_2, .int .i64 a0_3, .int .i64 0]) ?_ 4 _ rfl; (with_reducible repeat (first | refine blk_drewN ?_ _ | refine blk_drew ?_ | refine blk_alloc ?_ _)); refine blk_put (cs := #[.int .i64 a0_0, .int .u32 a0_1, .int .i64 a0_2, .int .i64 0, .int .i64 0]) ?_ 3 _ rfl; (with_reducible repeat (first | refine blk_drewN ?_ _ | refine blk_drew ?_ | refine blk_alloc ?_ _)); refine blk_put (cs := #[.int .i64 a0_0, .int .u32 a0_1, .int .i64 0, .int .i64 0, .int .i64 0]) ?_ 2 _ rfl; (with_reducible repeat (first | refine blk_drewN ?_ _ | refine blk_drew ?_ | refine blk_alloc ?_ _)); refine blk_put (cs := #[.int .i64 a0_0, .int .u32 0, .int .i64 0, .int .i64 0, .int .i64 0]) ?_ 1 _ rfl; (with_reducible repeat (first | refine blk_drewN ?_ _ | refine blk_drew ?_ | refine blk_alloc ?_ _)); refine blk_put (cs := #[.int .i64 0, .int .u32 0, .int .i64 0, .int .i64 0, .int .i64 0]) ?_ 0 _ rfl; (with_reducible repeat (first | refine blk_drewN ?_ _ | refine blk_drew ?_ | refine blk_alloc ?_ _)); exact BK591.out) Tryz.underlying34 rfl (by kernel_rfl)) rfl ?_
 exact ⟨by first | rfl | (simp [errW_none, errW_some] <;> rfl) | (simp [*, errW_none, errW_some] <;> rfl), by repeat (first | (with_reducible first | exact HB.out | apply below_alloc | apply pw_below_drewN | apply below_drew1 | refine below_set ?_ GE590.out | refine below_set ?_ GE591.out) | exact HB.out)⟩

end Go.Proofs.YtcaiakbaklopmaaGreatDoor.Q
