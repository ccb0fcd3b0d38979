/- credenza/credenzalaw28.ScriptSays holds, tied to the program's text. (part 3: functions of the program as plain functions, and what is shown of them.) Conditions: as each theorem states; the last one has none. -/
import Derived.Test.YtcaiakbaklopmaaGreatDoorProg
import Derived.Below
import Derived.Deep.Draws
import Derived.Deep.AppendLies
import Derived.Maps.AppendAt
import Derived.OwnWalk
import Derived.Laws.BytesArg
import Derived.Laws.MakeOwn
import Derived.Laws.OwnMore
import Derived.Deep.OwnRows
import Derived.Tactics
import Derived.Lib.ConvBytes
import Derived.Laws.Slices
import Derived.WalkKit
import Derived.KernelRfl
import Derived.RowKit3
import Derived.Deep.LoopGhost
import Derived.Deep.QuietTactic
import Derived.BigQuiet
import Derived.WideLaws
import Derived.Deep.DeepCutAuto
import Derived.Deep.CutBlock
import Derived.Deep.RegionHeld3
import Derived.Laws.Rows
import Derived.Lib.AppendStr
import Derived.ArgAppend
import Derived.Laws.IdiomCopy
import Derived.OrdersHeld
import Derived.Laws.BitsLemmas
import Derived.RowKit
import Derived.Test.YtcaiakbaklopmaaGreatDoorWWords
import Derived.Test.YtcaiakbaklopmaaGreatDoorWLast
import Derived.Test.YtcaiakbaklopmaaGreatDoorWTab
import Derived.Test.YtcaiakbaklopmaaGreatDoorWFour
import Derived.Test.YtcaiakbaklopmaaGreatDoorWQPut
import Derived.Test.YtcaiakbaklopmaaGreatDoorWApart
import Derived.Test.YtcaiakbaklopmaaGreatDoorWArr
import Derived.Test.YtcaiakbaklopmaaGreatDoorWZeros
import Derived.Test.YtcaiakbaklopmaaGreatDoorWFoot
import Derived.Test.YtcaiakbaklopmaaGreatDoorWKept
import Derived.Test.YtcaiakbaklopmaaGreatDoorWShare
import Derived.Test.YtcaiakbaklopmaaGreatDoorWN
import Derived.Test.YtcaiakbaklopmaaGreatDoorWFootNe
import Derived.Test.YtcaiakbaklopmaaGreatDoorWAt
import Derived.Test.YtcaiakbaklopmaaGreatDoorWEqStruct
import Derived.Test.YtcaiakbaklopmaaGreatDoorWRepsOne
import Derived.Test.YtcaiakbaklopmaaGreatDoorWInv
import Derived.Test.YtcaiakbaklopmaaGreatDoorWInvWords
import Derived.Test.YtcaiakbaklopmaaGreatDoorWGuard
import Derived.Test.YtcaiakbaklopmaaGreatDoorWNEv
import Derived.Test.YtcaiakbaklopmaaGreatDoorWMore
import Derived.MapKept
import Derived.Lib.Walk
import Derived.Lib.ItoaMem
import Derived.Lib.AppendIntMem
import Derived.Lib.ParseIntBMem
import Derived.Laws.Strings3
import Derived.Laws.Closers25
import Derived.Laws.Closers25b
import Derived.BigCall
import Derived.BigGuard
import Derived.Test.YtcaiakbaklopmaaGreatDoorCScriptSaysCard1
import Derived.Test.YtcaiakbaklopmaaGreatDoorCScriptSaysCard2
namespace Go.Proofs.YtcaiakbaklopmaaGreatDoor.Q
open Go.RowKit Go.Proofs.YtcaiakbaklopmaaGreatDoorW.PrintWords Go.Proofs.YtcaiakbaklopmaaGreatDoorW.PrintLast Go.Proofs.YtcaiakbaklopmaaGreatDoorW.PrintMore
attribute [local go_sem] max2_int min2_int max_two min_two max_three min_three max_four min_four   -- for this text's walks alone
set_option linter.unusedVariables false
set_option linter.unusedSimpArgs false

def errW : Option Int → Value
  | none => .nilIface
  | some c => .iface 260 (.int .i64 c)
theorem errW_none : errW none = .nilIface := rfl
theorem errW_some (c : Int) : errW (some c) = .iface 260 (.int .i64 c) := rfl

structure S106 where
  f0 : Int
  f1 : Int
structure S68 where
  f0 : Int
  f1 : Int
  f2 : (List Int)
structure S108 where
  f0 : (List Int)
  f1 : S68
  f2 : S68
  f3 : S68
  f4 : S68
  f5 : (List Int)
  f6 : S68
  f7 : S68
  f8 : S68
structure S206 where
  f0 : Int
  f1 : Int
structure S382 where
  f0 : (List Int)
  f1 : (List Int)
structure S499 where
  f0 : Int
  f1 : Int
  f2 : (List Int)
structure S547 where
  f0 : S499
  f1 : (List Int)
end Go.Proofs.YtcaiakbaklopmaaGreatDoor.Q

namespace Go.Proofs.YtcaiakbaklopmaaGreatDoor.Q
open Go.RowKit Go.Proofs.YtcaiakbaklopmaaGreatDoorW.PrintWords Go.Proofs.YtcaiakbaklopmaaGreatDoorW.PrintLast Go.Proofs.YtcaiakbaklopmaaGreatDoorW.PrintMore
attribute [local go_sem] max2_int min2_int max_two min_two max_three min_three max_four min_four   -- for this text's walks alone
set_option linter.unusedVariables false
set_option linter.unusedSimpArgs false

theorem eqA34 (d : Nat) (w : World) (x0 y0 : Int) (x1 y1 : Int) (x2 y2 : Int) (x3 y3 : Int) (x4 y4 : Int) :
    (Op.equalIn (d + 2) 34 (.agg #[.int .i64 x0, .int .u32 x1, .int .i64 x2, .int .i64 x3, .int .i64 x4]) (.agg #[.int .i64 y0, .int .u32 y1, .int .i64 y2, .int .i64 y3, .int .i64 y4])).run Tryz.prog w = .ok (x0 == y0 && (x1 == y1 && (x2 == y2 && (x3 == y3 && (x4 == y4))))) w := by
  refine eqA_of Tryz.underlying34 (by kernel_rfl) ?_
  refine eqf_cons (by rfl) (by go_simp; rfl) (by go_simp; rfl) (by go_simp) ?_
  refine eqf_cons (by rfl) (by go_simp; rfl) (by go_simp; rfl) (by go_simp) ?_
  refine eqf_cons (by rfl) (by go_simp; rfl) (by go_simp; rfl) (by go_simp) ?_
  refine eqf_cons (by rfl) (by go_simp; rfl) (by go_simp; rfl) (by go_simp) ?_
  exact eqf_last (by rfl) (by go_simp; rfl) (by go_simp; rfl) (by go_simp)
end Go.Proofs.YtcaiakbaklopmaaGreatDoor.Q

namespace Go.Proofs.YtcaiakbaklopmaaGreatDoor.Q
open Go.RowKit Go.Proofs.YtcaiakbaklopmaaGreatDoorW.PrintWords Go.Proofs.YtcaiakbaklopmaaGreatDoorW.PrintLast Go.Proofs.YtcaiakbaklopmaaGreatDoorW.PrintMore
attribute [local go_sem] max2_int min2_int max_two min_two max_three min_three max_four min_four   -- for this text's walks alone
set_option linter.unusedVariables false
set_option linter.unusedSimpArgs false

mutual
def credenzaref23_Right.j0 : Nat → Bool → Int → Int → Int → Int → Int → Option (Int)
 | 0, _, _, _, _, _, _ => none
 | k + 1, x10, x593000, x593001, x593002, x593003, x593004 => if x10 = true then (some 29) else (if x593000 = 1 then (if x593000 = 5 then (if x593002 = 0 then (credenzaref23_Right.j1 k false x593000 x593001 x593002 x593003 x593004) else (credenzaref23_Right.j1 k true x593000 x593001 x593002 x593003 x593004)) else (credenzaref23_Right.j1 k (x593004 != 0) x593000 x593001 x593002 x593003 x593004)) else (if x593003 = 0 then (if x593000 = 5 then (if x593002 = 0 then (credenzaref23_Right.j1 k false x593000 x593001 x593002 x593003 x593004) else (credenzaref23_Right.j1 k true x593000 x593001 x593002 x593003 x593004)) else (credenzaref23_Right.j1 k (x593004 != 0) x593000 x593001 x593002 x593003 x593004)) else (credenzaref23_Right.j1 k true x593000 x593001 x593002 x593003 x593004)))
def credenzaref23_Right.j1 : Nat → Bool → Int → Int → Int → Int → Int → Option (Int)
 | 0, _, _, _, _, _, _ => none
 | k + 1, x38, x593000, x593001, x593002, x593003, x593004 => if x38 = true then (some 10) else (if x593002 < 0 then (some 11) else (if x593002 > 1024 then (some 11) else (if x593000 = 1 then (if x593002 = 1024 then (some 11) else (if x593003 < 0 then (some 11) else (if x593003 > 255 then (some 11) else (if x593004 > 255 then (some 11) else (if x593000 = 5 then (if x593004 < 1 then (some 11) else (some 0)) else (some 0)))))) else (if x593003 < 0 then (some 11) else (if x593003 > 255 then (some 11) else (if x593004 > 255 then (some 11) else (if x593000 = 5 then (if x593004 < 1 then (some 11) else (some 0)) else (some 0))))))))
end
def credenzaref23_Right.f (k : Nat) (a0_0 : Int) (a0_1 : Int) (a0_2 : Int) (a0_3 : Int) (a0_4 : Int) : Option (Int) := if a0_0 < 1 then (credenzaref23_Right.j0 k true a0_0 a0_1 a0_2 a0_3 a0_4) else (credenzaref23_Right.j0 k (decide (a0_0 > 5)) a0_0 a0_1 a0_2 a0_3 a0_4)
set_option maxHeartbeats 8000000 in
set_option maxRecDepth 100000 in
theorem credenzaref23_Right.calls (k : Nat) (a0_0 : Int) (a0_1 : Int) (a0_2 : Int) (a0_3 : Int) (a0_4 : Int) (r : Int) (w : World) (h : credenzaref23_Right.f k a0_0 a0_1 a0_2 a0_3 a0_4 = some r) :
  Calls Tryz.prog 10 #[.agg #[.int .i64 a0_0, .int .u32 a0_1, .int .i64 a0_2, .int .i64 a0_3, .int .i64 a0_4]] w fun e w' => e = .returned (.int .i64 r) ∧ Below w.heap.size w w' := by
 have hu34 := Tryz.underlying34
 have HB := Aside0.mk (Below.refl w.heap.size w)
 have H : (if a0_0 < 1 then (credenzaref23_Right.j0 k true a0_0 a0_1 a0_2 a0_3 a0_4) else (credenzaref23_Right.j0 k (decide (a0_0 > 5)) a0_0 a0_1 a0_2 a0_3 a0_4)) = some r := h
 clear h
 have HC2 := Aside0.mk H
 clear H
 go_enter Tryz.func10, Tryz.ntmps10
 go_upto_region 1 with (first | ((with_reducible refine gate_dst (N := 1) rfl ?_); refine box_event ?hg (N := 1) ?hd (cs := #[.int .i64 a0_0, .int .u32 a0_1, .int .i64 a0_2, .int .i64 a0_3, .int .i64 a0_4]) (t := 34) ?hr ?_; (case hd => rfl); (case hg => rfl); (case hr => first | (go_simp; done) | (go_simp; rfl)); intro gb592 hg w3 hbox hb; have n0_ := Aside0.mk (below_step (by repeat (first | (with_reducible first | exact HB.out | apply below_alloc | apply pw_below_drewN | apply below_drew1) | exact HB.out)) hb); have n1_ := Aside0.mk (hbox); have n2_ := Aside0.mk ((by rw [hg]; exact (below_size (by repeat (first | (with_reducible first | exact HB.out | apply below_alloc | apply pw_below_drewN | apply below_drew1) | exact HB.out))) : w.heap.size ≤ gb592)); have n3_ := Aside0.mk ((by rw [hg]; exact (below_size (by repeat (first | (with_reducible first | exact HB.out | apply below_alloc | apply pw_below_drewN | apply below_drew1) | exact HB.out))) : w.heap.size ≤ gb592)); clear HB; have HB := n0_; have BK592 := n1_; have GW592 := n2_; have GE592 := n3_; clear n0_ n1_ n2_ n3_; clear hb hbox hg))
 (try simp only [Act.put, List.setIfInBounds_toArray, List.set_cons_zero, List.set_cons_succ])
 go_cut [10] (fun v10 wc => ∃ (kq : Nat) (x10_1 : Bool), v10 = .bool x10_1 ∧ Aside0 (credenzaref23_Right.j0 kq x10_1 a0_0 a0_1 a0_2 a0_3 a0_4 = some r) ∧ Aside0 (kq ≤ k) ∧ Aside0 (wc.heap[gb592]? = some (.cells #[.int .i64 a0_0, .int .u32 a0_1, .int .i64 a0_2, .int .i64 a0_3, .int .i64 a0_4] 34 (0, 0))) ∧ Aside0 (Below w.heap.size w wc))
 case first =>
  have H := HC2.out
  clear HC2
  by_cases c4 : a0_0 < 1
  ·rw [if_pos c4] at H
   have c4b0 : decide (a0_0 < 1) = true := decide_eq_true c4
   clear c4
   (first | rw [c4b0] | (simp only [i64_w, i32_w]; rw [c4b0]) | skip)
   have H' := Aside0.mk H
   clear H
   have hcz5_0 : w3.cell? ⟨gb592, 0, none⟩ = some (.int .i64 a0_0) := (blk_cell BK592.out 0).trans rfl
   have hcz5_1 : w3.cell? ⟨gb592, 1, none⟩ = some (.int .u32 a0_1) := (blk_cell BK592.out 1).trans rfl
   have hcz5_2 : w3.cell? ⟨gb592, 2, none⟩ = some (.int .i64 a0_2) := (blk_cell BK592.out 2).trans rfl
   have hcz5_3 : w3.cell? ⟨gb592, 3, none⟩ = some (.int .i64 a0_3) := (blk_cell BK592.out 3).trans rfl
   have hcz5_4 : w3.cell? ⟨gb592, 4, none⟩ = some (.int .i64 a0_4) := (blk_cell BK592.out 4).trans rfl
   have hfz5_0 := blk_frozen BK592.out 0
   have hfz5_1 := blk_frozen BK592.out 1
   have hfz5_2 := blk_frozen BK592.out 2
   have hfz5_3 := blk_frozen BK592.out 3
   have hfz5_4 := blk_frozen BK592.out 4
   go_wp2
   go_meet
   case rel => exact ⟨_, (true), (by first | rfl | (simp; done) | (simp [*]; done)), H', ⟨by first | omega | exact Nat.le_refl _⟩, ⟨by (with_reducible repeat (first | refine blk_drewN ?_ _ | refine blk_drew ?_ | refine blk_alloc ?_ _)); exact BK592.out⟩, ⟨by repeat (first | (with_reducible first | exact HB.out | apply below_alloc | apply pw_below_drewN | apply below_drew1 | refine below_set ?_ GE592.out) | exact HB.out)⟩⟩
  ·rw [if_neg c4] at H
   have c4b0 : decide (a0_0 < 1) = false := decide_eq_false c4
   clear c4
   (first | rw [c4b0] | (simp only [i64_w, i32_w]; rw [c4b0]) | skip)
   have H' := Aside0.mk H
   clear H
   have hcz6_0 : w3.cell? ⟨gb592, 0, none⟩ = some (.int .i64 a0_0) := (blk_cell BK592.out 0).trans rfl
   have hcz6_1 : w3.cell? ⟨gb592, 1, none⟩ = some (.int .u32 a0_1) := (blk_cell BK592.out 1).trans rfl
   have hcz6_2 : w3.cell? ⟨gb592, 2, none⟩ = some (.int .i64 a0_2) := (blk_cell BK592.out 2).trans rfl
   have hcz6_3 : w3.cell? ⟨gb592, 3, none⟩ = some (.int .i64 a0_3) := (blk_cell BK592.out 3).trans rfl
   have hcz6_4 : w3.cell? ⟨gb592, 4, none⟩ = some (.int .i64 a0_4) := (blk_cell BK592.out 4).trans rfl
   have hfz6_0 := blk_frozen BK592.out 0
   have hfz6_1 := blk_frozen BK592.out 1
   have hfz6_2 := blk_frozen BK592.out 2
   have hfz6_3 := blk_frozen BK592.out 3
   have hfz6_4 := blk_frozen BK592.out 4
   go_wp2
   go_meet
   case rel => exact ⟨_, (decide (a0_0 > 5)), (by first | rfl | (simp; done) | (simp [*]; done)), H', ⟨by first | omega | exact Nat.le_refl _⟩, ⟨by (with_reducible repeat (first | refine blk_drewN ?_ _ | refine blk_drew ?_ | refine blk_alloc ?_ _)); exact BK592.out⟩, ⟨by repeat (first | (with_reducible first | exact HB.out | apply below_alloc | apply pw_below_drewN | apply below_drew1 | refine below_set ?_ GE592.out) | exact HB.out)⟩⟩
 case rest =>
  clear HC2
  try clear c1
  try clear p2
  try clear c4
  try clear c4b0
  try clear hcz5_0
  try clear hcz5_1
  try clear hcz5_2
  try clear hcz5_3
  try clear hcz5_4
  try clear hcz6_0
  try clear hcz6_1
  try clear hcz6_2
  try clear hcz6_3
  try clear hcz6_4
  try clear hfz5_0
  try clear hfz5_1
  try clear hfz5_2
  try clear hfz5_3
  try clear hfz5_4
  try clear hfz6_0
  try clear hfz6_1
  try clear hfz6_2
  try clear hfz6_3
  try clear hfz6_4
  obtain ⟨kq, x10_1, rfl, HA, HJ1, BK592, HB⟩ := hcut
  cases kq with
  | zero => exact absurd HA.out (by simp [credenzaref23_Right.j0])
  | succ kj1 =>
   have H := HA.out
   clear HA
   simp only [credenzaref23_Right.j0] at H
   by_cases c7 : x10_1 = true
   ·subst c7
    have H1 : (some 29) = some r := by rw [if_pos rfl] at H; exact H
    clear H
    have H := H1
    clear H1
    obtain rfl := Option.some.inj H
    go_wp2
    go_ret
    exact ⟨by first | rfl | (simp [errW_none, errW_some] <;> rfl) | (simp [*, errW_none, errW_some] <;> rfl), by repeat (first | (with_reducible first | exact HB.out | apply below_alloc | apply pw_below_drewN | apply below_drew1 | refine below_set ?_ GE592.out) | exact HB.out)⟩
   ·replace c7 := Bool.eq_false_iff.mpr c7
    subst c7
    have H1 : (if a0_0 = 1 then (if a0_0 = 5 then (if a0_2 = 0 then (credenzaref23_Right.j1 kj1 false a0_0 a0_1 a0_2 a0_3 a0_4) else (credenzaref23_Right.j1 kj1 true a0_0 a0_1 a0_2 a0_3 a0_4)) else (credenzaref23_Right.j1 kj1 (a0_4 != 0) a0_0 a0_1 a0_2 a0_3 a0_4)) else (if a0_3 = 0 then (if a0_0 = 5 then (if a0_2 = 0 then (credenzaref23_Right.j1 kj1 false a0_0 a0_1 a0_2 a0_3 a0_4) else (credenzaref23_Right.j1 kj1 true a0_0 a0_1 a0_2 a0_3 a0_4)) else (credenzaref23_Right.j1 kj1 (a0_4 != 0) a0_0 a0_1 a0_2 a0_3 a0_4)) else (credenzaref23_Right.j1 kj1 true a0_0 a0_1 a0_2 a0_3 a0_4))) = some r := by rw [if_neg (show ¬ (false = true) by decide)] at H; exact H
    clear H
    have H := H1
    clear H1
    have HC8 := Aside0.mk H
    clear H
    go_upto_region 3 with (fail)
    go_cut [38] (fun v38 wc => ∃ (kq : Nat) (x38_7 : Bool), v38 = .bool x38_7 ∧ Aside0 (credenzaref23_Right.j1 kq x38_7 a0_0 a0_1 a0_2 a0_3 a0_4 = some r) ∧ Aside0 (kq ≤ kj1) ∧ Aside0 (wc.heap[gb592]? = some (.cells #[.int .i64 a0_0, .int .u32 a0_1, .int .i64 a0_2, .int .i64 a0_3, .int .i64 a0_4] 34 (0, 0))) ∧ Aside0 (Below w.heap.size w wc))
    case first =>
     have H := HC8.out
     clear HC8
     by_cases c9 : a0_0 = 1
     ·rw [if_pos c9] at H
      have c9b0 : (a0_0 == 1) = true := beq_iff_eq.mpr c9
      have c9b1 : (a0_0 != 1) = false := bne_eq_false_iff_eq.mpr c9
      clear c9
      (first | rw [c9b0] | (simp only [i64_w, i32_w]; rw [c9b0]) | skip)
      by_cases c10 : a0_0 = 5
      ·rw [if_pos c10] at H
       have c10b0 : (a0_0 == 5) = true := beq_iff_eq.mpr c10
       have c10b1 : (a0_0 != 5) = false := bne_eq_false_iff_eq.mpr c10
       clear c10
       by_cases c11 : a0_2 = 0
       ·rw [if_pos c11] at H
        have c11b0 : (a0_2 == 0) = true := beq_iff_eq.mpr c11
        have c11b1 : (a0_2 != 0) = false := bne_eq_false_iff_eq.mpr c11
        clear c11
        have H' := Aside0.mk H
        clear H
        have hcz12_0 : wc.cell? ⟨gb592, 0, none⟩ = some (.int .i64 a0_0) := (blk_cell BK592.out 0).trans rfl
        have hcz12_1 : wc.cell? ⟨gb592, 1, none⟩ = some (.int .u32 a0_1) := (blk_cell BK592.out 1).trans rfl
        have hcz12_2 : wc.cell? ⟨gb592, 2, none⟩ = some (.int .i64 a0_2) := (blk_cell BK592.out 2).trans rfl
        have hcz12_3 : wc.cell? ⟨gb592, 3, none⟩ = some (.int .i64 a0_3) := (blk_cell BK592.out 3).trans rfl
        have hcz12_4 : wc.cell? ⟨gb592, 4, none⟩ = some (.int .i64 a0_4) := (blk_cell BK592.out 4).trans rfl
        have hfz12_0 := blk_frozen BK592.out 0
        have hfz12_1 := blk_frozen BK592.out 1
        have hfz12_2 := blk_frozen BK592.out 2
        have hfz12_3 := blk_frozen BK592.out 3
        have hfz12_4 := blk_frozen BK592.out 4
        go_wp2
        go_meet
        case rel => exact ⟨_, (false), (by first | rfl | (simp; done) | (simp [*]; done)), H', ⟨by have := HJ1.out; first | omega | exact Nat.le_refl _⟩, ⟨by (with_reducible repeat (first | refine blk_drewN ?_ _ | refine blk_drew ?_ | refine blk_alloc ?_ _)); exact BK592.out⟩, ⟨by repeat (first | (with_reducible first | exact HB.out | apply below_alloc | apply pw_below_drewN | apply below_drew1 | refine below_set ?_ GE592.out) | exact HB.out)⟩⟩
       ·rw [if_neg c11] at H
        have c11b0 : (a0_2 == 0) = false := beq_eq_false_iff_ne.mpr c11
        have c11b1 : (a0_2 != 0) = true := bne_iff_ne.mpr c11
        have H' := Aside0.mk H
        clear H
        have hcz13_0 : wc.cell? ⟨gb592, 0, none⟩ = some (.int .i64 a0_0) := (blk_cell BK592.out 0).trans rfl
        have hcz13_1 : wc.cell? ⟨gb592, 1, none⟩ = some (.int .u32 a0_1) := (blk_cell BK592.out 1).trans rfl
        have hcz13_2 : wc.cell? ⟨gb592, 2, none⟩ = some (.int .i64 a0_2) := (blk_cell BK592.out 2).trans rfl
        have hcz13_3 : wc.cell? ⟨gb592, 3, none⟩ = some (.int .i64 a0_3) := (blk_cell BK592.out 3).trans rfl
        have hcz13_4 : wc.cell? ⟨gb592, 4, none⟩ = some (.int .i64 a0_4) := (blk_cell BK592.out 4).trans rfl
        have hfz13_0 := blk_frozen BK592.out 0
        have hfz13_1 := blk_frozen BK592.out 1
        have hfz13_2 := blk_frozen BK592.out 2
        have hfz13_3 := blk_frozen BK592.out 3
        have hfz13_4 := blk_frozen BK592.out 4
        go_wp2
        go_meet
        case rel => exact ⟨_, (true), (by first | rfl | (simp; done) | (simp [*]; done)), H', ⟨by have := HJ1.out; first | omega | exact Nat.le_refl _⟩, ⟨by (with_reducible repeat (first | refine blk_drewN ?_ _ | refine blk_drew ?_ | refine blk_alloc ?_ _)); exact BK592.out⟩, ⟨by repeat (first | (with_reducible first | exact HB.out | apply below_alloc | apply pw_below_drewN | apply below_drew1 | refine below_set ?_ GE592.out) | exact HB.out)⟩⟩
      ·rw [if_neg c10] at H
       have c10b0 : (a0_0 == 5) = false := beq_eq_false_iff_ne.mpr c10
       have c10b1 : (a0_0 != 5) = true := bne_iff_ne.mpr c10
       have H' := Aside0.mk H
       clear H
       have hcz14_0 : wc.cell? ⟨gb592, 0, none⟩ = some (.int .i64 a0_0) := (blk_cell BK592.out 0).trans rfl
       have hcz14_1 : wc.cell? ⟨gb592, 1, none⟩ = some (.int .u32 a0_1) := (blk_cell BK592.out 1).trans rfl
       have hcz14_2 : wc.cell? ⟨gb592, 2, none⟩ = some (.int .i64 a0_2) := (blk_cell BK592.out 2).trans rfl
       have hcz14_3 : wc.cell? ⟨gb592, 3, none⟩ = some (.int .i64 a0_3) := (blk_cell BK592.out 3).trans rfl
       have hcz14_4 : wc.cell? ⟨gb592, 4, none⟩ = some (.int .i64 a0_4) := (blk_cell BK592.out 4).trans rfl
       have hfz14_0 := blk_frozen BK592.out 0
       have hfz14_1 := blk_frozen BK592.out 1
       have hfz14_2 := blk_frozen BK592.out 2
       have hfz14_3 := blk_frozen BK592.out 3
       have hfz14_4 := blk_frozen BK592.out 4
       go_wp2
       go_meet
       case rel => exact ⟨_, ((a0_4 != 0)), (by first | rfl | (simp; done) | (simp [*]; done)), H', ⟨by have := HJ1.out; first | omega | exact Nat.le_refl _⟩, ⟨by (with_reducible repeat (first | refine blk_drewN ?_ _ | refine blk_drew ?_ | refine blk_alloc ?_ _)); exact BK592.out⟩, ⟨by repeat (first | (with_reducible first | exact HB.out | apply below_alloc | apply pw_below_drewN | apply below_drew1 | refine below_set ?_ GE592.out) | exact HB.out)⟩⟩
     ·rw [if_neg c9] at H
      have c9b0 : (a0_0 == 1) = false := beq_eq_false_iff_ne.mpr c9
      have c9b1 : (a0_0 != 1) = true := bne_iff_ne.mpr c9
      (first | rw [c9b0] | (simp only [i64_w, i32_w]; rw [c9b0]) | skip)
      by_cases c15 : a0_3 = 0
      ·rw [if_pos c15] at H
       have c15b0 : (a0_3 == 0) = true := beq_iff_eq.mpr c15
       have c15b1 : (a0_3 != 0) = false := bne_eq_false_iff_eq.mpr c15
       clear c15
       by_cases c16 : a0_0 = 5
       ·rw [if_pos c16] at H
        have c16b0 : (a0_0 == 5) = true := beq_iff_eq.mpr c16
        have c16b1 : (a0_0 != 5) = false := bne_eq_false_iff_eq.mpr c16
        clear c16
        by_cases c17 : a0_2 = 0
        ·rw [if_pos c17] at H
         have c17b0 : (a0_2 == 0) = true := beq_iff_eq.mpr c17
         have c17b1 : (a0_2 != 0) = false := bne_eq_false_iff_eq.mpr c17
         clear c17
         have H' := Aside0.mk H
         clear H
         have hcz18_0 : wc.cell? ⟨gb592, 0, none⟩ = some (.int .i64 a0_0) := (blk_cell BK592.out 0).trans rfl
         have hcz18_1 : wc.cell? ⟨gb592, 1, none⟩ = some (.int .u32 a0_1) := (blk_cell BK592.out 1).trans rfl
         have hcz18_2 : wc.cell? ⟨gb592, 2, none⟩ = some (.int .i64 a0_2) := (blk_cell BK592.out 2).trans rfl
         have hcz18_3 : wc.cell? ⟨gb592, 3, none⟩ = some (.int .i64 a0_3) := (blk_cell BK592.out 3).trans rfl
         have hcz18_4 : wc.cell? ⟨gb592, 4, none⟩ = some (.int .i64 a0_4) := (blk_cell BK592.out 4).trans rfl
         have hfz18_0 := blk_frozen BK592.out 0
         have hfz18_1 := blk_frozen BK592.out 1
         have hfz18_2 := blk_frozen BK592.out 2
         have hfz18_3 := blk_frozen BK592.out 3
         have hfz18_4 := blk_frozen BK592.out 4
         go_wp2
         go_meet
         case rel => exact ⟨_, (false), (by first | rfl | (simp; done) | (simp [*]; done)), H', ⟨by have := HJ1.out; first | omega | exact Nat.le_refl _⟩, ⟨by (with_reducible repeat (first | refine blk_drewN ?_ _ | refine blk_drew ?_ | refine blk_alloc ?_ _)); exact BK592.out⟩, ⟨by repeat (first | (with_reducible first | exact HB.out | apply below_alloc | apply pw_below_drewN | apply below_drew1 | refine below_set ?_ GE592.out) | exact HB.out)⟩⟩
        ·rw [if_neg c17] at H
         have c17b0 : (a0_2 == 0) = false := beq_eq_false_iff_ne.mpr c17
         have c17b1 : (a0_2 != 0) = true := bne_iff_ne.mpr c17
         have H' := Aside0.mk H
         clear H
         have hcz19_0 : wc.cell? ⟨gb592, 0, none⟩ = some (.int .i64 a0_0) := (blk_cell BK592.out 0).trans rfl
         have hcz19_1 : wc.cell? ⟨gb592, 1, none⟩ = some (.int .u32 a0_1) := (blk_cell BK592.out 1).trans rfl
         have hcz19_2 : wc.cell? ⟨gb592, 2, none⟩ = some (.int .i64 a0_2) := (blk_cell BK592.out 2).trans rfl
         have hcz19_3 : wc.cell? ⟨gb592, 3, none⟩ = some (.int .i64 a0_3) := (blk_cell BK592.out 3).trans rfl
         have hcz19_4 : wc.cell? ⟨gb592, 4, none⟩ = some (.int .i64 a0_4) := (blk_cell BK592.out 4).trans rfl
         have hfz19_0 := blk_frozen BK592.out 0
         have hfz19_1 := blk_frozen BK592.out 1
         have hfz19_2 := blk_frozen BK592.out 2
         have hfz19_3 := blk_frozen BK592.out 3
         have hfz19_4 := blk_frozen BK592.out 4
         go_wp2
         go_meet
         case rel => exact ⟨_, (true), (by first | rfl | (simp; done) | (simp [*]; done)), H', ⟨by have := HJ1.out; first | omega | exact Nat.le_refl _⟩, ⟨by (with_reducible repeat (first | refine blk_drewN ?_ _ | refine blk_drew ?_ | refine blk_alloc ?_ _)); exact BK592.out⟩, ⟨by repeat (first | (with_reducible first | exact HB.out | apply below_alloc | apply pw_below_drewN | apply below_drew1 | refine below_set ?_ GE592.out) | exact HB.out)⟩⟩
       ·rw [if_neg c16] at H
        have c16b0 : (a0_0 == 5) = false := beq_eq_false_iff_ne.mpr c16
        have c16b1 : (a0_0 != 5) = true := bne_iff_ne.mpr c16
        have H' := Aside0.mk H
        clear H
        have hcz20_0 : wc.cell? ⟨gb592, 0, none⟩ = some (.int .i64 a0_0) := (blk_cell BK592.out 0).trans rfl
        have hcz20_1 : wc.cell? ⟨gb592, 1, none⟩ = some (.int .u32 a0_1) := (blk_cell BK592.out 1).trans rfl
        have hcz20_2 : wc.cell? ⟨gb592, 2, none⟩ = some (.int .i64 a0_2) := (blk_cell BK592.out 2).trans rfl
        have hcz20_3 : wc.cell? ⟨gb592, 3, none⟩ = some (.int .i64 a0_3) := (blk_cell BK592.out 3).trans rfl
        have hcz20_4 : wc.cell? ⟨gb592, 4, none⟩ = some (.int .i64 a0_4) := (blk_cell BK592.out 4).trans rfl
        have hfz20_0 := blk_frozen BK592.out 0
        have hfz20_1 := blk_frozen BK592.out 1
        have hfz20_2 := blk_frozen BK592.out 2
        have hfz20_3 := blk_frozen BK592.out 3
        have hfz20_4 := blk_frozen BK592.out 4
        go_wp2
        go_meet
        case rel => exact ⟨_, ((a0_4 != 0)), (by first | rfl | (simp; done) | (simp [*]; done)), H', ⟨by have := HJ1.out; first | omega | exact Nat.le_refl _⟩, ⟨by (with_reducible repeat (first | refine blk_drewN ?_ _ | refine blk_drew ?_ | refine blk_alloc ?_ _)); exact BK592.out⟩, ⟨by repeat (first | (with_reducible first | exact HB.out | apply below_alloc | apply pw_below_drewN | apply below_drew1 | refine below_set ?_ GE592.out) | exact HB.out)⟩⟩
      ·rw [if_neg c15] at H
       have c15b0 : (a0_3 == 0) = false := beq_eq_false_iff_ne.mpr c15
       have c15b1 : (a0_3 != 0) = true := bne_iff_ne.mpr c15
       have H' := Aside0.mk H
       clear H
       have hcz21_0 : wc.cell? ⟨gb592, 0, none⟩ = some (.int .i64 a0_0) := (blk_cell BK592.out 0).trans rfl
       have hcz21_1 : wc.cell? ⟨gb592, 1, none⟩ = some (.int .u32 a0_1) := (blk_cell BK592.out 1).trans rfl
       have hcz21_2 : wc.cell? ⟨gb592, 2, none⟩ = some (.int .i64 a0_2) := (blk_cell BK592.out 2).trans rfl
       have hcz21_3 : wc.cell? ⟨gb592, 3, none⟩ = some (.int .i64 a0_3) := (blk_cell BK592.out 3).trans rfl
       have hcz21_4 : wc.cell? ⟨gb592, 4, none⟩ = some (.int .i64 a0_4) := (blk_cell BK592.out 4).trans rfl
       have hfz21_0 := blk_frozen BK592.out 0
       have hfz21_1 := blk_frozen BK592.out 1
       have hfz21_2 := blk_frozen BK592.out 2
       have hfz21_3 := blk_frozen BK592.out 3
       have hfz21_4 := blk_frozen BK592.out 4
       go_wp2
       go_meet
       case rel => exact ⟨_, (true), (by first | rfl | (simp; done) | (simp [*]; done)), H', ⟨by have := HJ1.out; first | omega | exact Nat.le_refl _⟩, ⟨by (with_reducible repeat (first | refine blk_drewN ?_ _ | refine blk_drew ?_ | refine blk_alloc ?_ _)); exact BK592.out⟩, ⟨by repeat (first | (with_reducible first | exact HB.out | apply below_alloc | apply pw_below_drewN | apply below_drew1 | refine below_set ?_ GE592.out) | exact HB.out)⟩⟩
    case rest =>
     clear HC8
     try clear c1
     try clear p2
     try clear c4
     try clear c4b0
     try clear c7
     try clear c9
     try clear c9b0
     try clear c9b1
     try clear c10
     try clear c10b0
     try clear c10b1
     try clear c11
     try clear c11b0
     try clear c11b1
     try clear c15
     try clear c15b0
     try clear c15b1
     try clear c16
     try clear c16b0
     try clear c16b1
     try clear c17
     try clear c17b0
     try clear c17b1
     try clear hcz12_0
     try clear hcz12_1
     try clear hcz12_2
     try clear hcz12_3
     try clear hcz12_4
     try clear hcz13_0
     try clear hcz13_1
     try clear hcz13_2
     try clear hcz13_3
     try clear hcz13_4
     try clear hcz14_0
     try clear hcz14_1
     try clear hcz14_2
     try clear hcz14_3
     try clear hcz14_4
     try clear hcz18_0
     try clear hcz18_1
     try clear hcz18_2
     try clear hcz18_3
     try clear hcz18_4
     try clear hcz19_0
     try clear hcz19_1
     try clear hcz19_2
     try clear hcz19_3
     try clear hcz19_4
     try clear hcz20_0
     try clear hcz20_1
     try clear hcz20_2
     try clear hcz20_3
     try clear hcz20_4
     try clear hcz21_0
     try clear hcz21_1
     try clear hcz21_2
     try clear hcz21_3
     try clear hcz21_4
     try clear hcz5_0
     try clear hcz5_1
     try clear hcz5_2
     try clear hcz5_3
     try clear hcz5_4
     try clear hcz6_0
     try clear hcz6_1
     try clear hcz6_2
     try clear hcz6_3
     try clear hcz6_4
     try clear hfz12_0
     try clear hfz12_1
     try clear hfz12_2
     try clear hfz12_3
     try clear hfz12_4
     try clear hfz13_0
     try clear hfz13_1
     try clear hfz13_2
     try clear hfz13_3
     try clear hfz13_4
     try clear hfz14_0
     try clear hfz14_1
     try clear hfz14_2
     try clear hfz14_3
     try clear hfz14_4
     try clear hfz18_0
     try clear hfz18_1
     try clear hfz18_2
     try clear hfz18_3
     try clear hfz18_4
     try clear hfz19_0
     try clear hfz19_1
     try clear hfz19_2
     try clear hfz19_3
     try clear hfz19_4
     try clear hfz20_0
     try clear hfz20_1
     try clear hfz20_2
     try clear hfz20_3
     try clear hfz20_4
     try clear hfz21_0
     try clear hfz21_1
     try clear hfz21_2
     try clear hfz21_3
     try clear hfz21_4
     try clear hfz5_0
     try clear hfz5_1
     try clear hfz5_2
     try clear hfz5_3
     try clear hfz5_4
     try clear hfz6_0
     try clear hfz6_1
     try clear hfz6_2
     try clear hfz6_3
     try clear hfz6_4
     try clear p2
     obtain ⟨kq, x38_7, rfl, HA, HJ7, BK592, HB⟩ := hcut
     cases kq with
     | zero => exact absurd HA.out (by simp [credenzaref23_Right.j1])
     | succ kj7 =>
      have H := HA.out
      clear HA
      simp only [credenzaref23_Right.j1] at H
      by_cases c22 : x38_7 = true
      ·subst c22
       have H1 : (some 10) = some r := by rw [if_pos rfl] at H; exact H
       clear H
       have H := H1
       clear H1
       obtain rfl := Option.some.inj H
       go_wp2
       go_ret
       exact ⟨by first | rfl | (simp [errW_none, errW_some] <;> rfl) | (simp [*, errW_none, errW_some] <;> rfl), by repeat (first | (with_reducible first | exact HB.out | apply below_alloc | apply pw_below_drewN | apply below_drew1 | refine below_set ?_ GE592.out) | exact HB.out)⟩
      ·replace c22 := Bool.eq_false_iff.mpr c22
       subst c22
       have H1 : (if a0_2 < 0 then (some 11) else (if a0_2 > 1024 then (some 11) else (if a0_0 = 1 then (if a0_2 = 1024 then (some 11) else (if a0_3 < 0 then (some 11) else (if a0_3 > 255 then (some 11) else (if a0_4 > 255 then (some 11) else (if a0_0 = 5 then (if a0_4 < 1 then (some 11) else (some 0)) else (some 0)))))) else (if a0_3 < 0 then (some 11) else (if a0_3 > 255 then (some 11) else (if a0_4 > 255 then (some 11) else (if a0_0 = 5 then (if a0_4 < 1 then (some 11) else (some 0)) else (some 0)))))))) = some r := by rw [if_neg (show ¬ (false = true) by decide)] at H; exact H
       clear H
       have H := H1
       clear H1
       by_cases c23 : a0_2 < 0
       ·rw [if_pos c23] at H
        have c23b0 : decide (a0_2 < 0) = true := decide_eq_true c23
        clear c23
        obtain rfl := Option.some.inj H
        have hcz24_0 : wc.cell? ⟨gb592, 0, none⟩ = some (.int .i64 a0_0) := (blk_cell BK592.out 0).trans rfl
        have hcz24_1 : wc.cell? ⟨gb592, 1, none⟩ = some (.int .u32 a0_1) := (blk_cell BK592.out 1).trans rfl
        have hcz24_2 : wc.cell? ⟨gb592, 2, none⟩ = some (.int .i64 a0_2) := (blk_cell BK592.out 2).trans rfl
        have hcz24_3 : wc.cell? ⟨gb592, 3, none⟩ = some (.int .i64 a0_3) := (blk_cell BK592.out 3).trans rfl
        have hcz24_4 : wc.cell? ⟨gb592, 4, none⟩ = some (.int .i64 a0_4) := (blk_cell BK592.out 4).trans rfl
        have hfz24_0 := blk_frozen BK592.out 0
        have hfz24_1 := blk_frozen BK592.out 1
        have hfz24_2 := blk_frozen BK592.out 2
        have hfz24_3 := blk_frozen BK592.out 3
        have hfz24_4 := blk_frozen BK592.out 4
        go_wp2
        go_ret
        exact ⟨by first | rfl | (simp [errW_none, errW_some] <;> rfl) | (simp [*, errW_none, errW_some] <;> rfl), by repeat (first | (with_reducible first | exact HB.out | apply below_alloc | apply pw_below_drewN | apply below_drew1 | refine below_set ?_ GE592.out) | exact HB.out)⟩
       ·rw [if_neg c23] at H
        have c23b0 : decide (a0_2 < 0) = false := decide_eq_false c23
        clear c23
        by_cases c25 : a0_2 > 1024
        ·rw [if_pos c25] at H
         have c25b0 : decide (1024 < a0_2) = true := decide_eq_true c25
         clear c25
         obtain rfl := Option.some.inj H
         have hcz26_0 : wc.cell? ⟨gb592, 0, none⟩ = some (.int .i64 a0_0) := (blk_cell BK592.out 0).trans rfl
         have hcz26_1 : wc.cell? ⟨gb592, 1, none⟩ = some (.int .u32 a0_1) := (blk_cell BK592.out 1).trans rfl
         have hcz26_2 : wc.cell? ⟨gb592, 2, none⟩ = some (.int .i64 a0_2) := (blk_cell BK592.out 2).trans rfl
         have hcz26_3 : wc.cell? ⟨gb592, 3, none⟩ = some (.int .i64 a0_3) := (blk_cell BK592.out 3).trans rfl
         have hcz26_4 : wc.cell? ⟨gb592, 4, none⟩ = some (.int .i64 a0_4) := (blk_cell BK592.out 4).trans rfl
         have hfz26_0 := blk_frozen BK592.out 0
         have hfz26_1 := blk_frozen BK592.out 1
         have hfz26_2 := blk_frozen BK592.out 2
         have hfz26_3 := blk_frozen BK592.out 3
         have hfz26_4 := blk_frozen BK592.out 4
         go_wp2
         go_ret
         exact ⟨by first | rfl | (simp [errW_none, errW_some] <;> rfl) | (simp [*, errW_none, errW_some] <;> rfl), by repeat (first | (with_reducible first | exact HB.out | apply below_alloc | apply pw_below_drewN | apply below_drew1 | refine below_set ?_ GE592.out) | exact HB.out)⟩
        ·rw [if_neg c25] at H
         have c25b0 : decide (1024 < a0_2) = false := decide_eq_false c25
         clear c25
         by_cases c27 : a0_0 = 1
         ·rw [if_pos c27] at H
          have c27b0 : (a0_0 == 1) = true := beq_iff_eq.mpr c27
          have c27b1 : (a0_0 != 1) = false := bne_eq_false_iff_eq.mpr c27
          clear c27
          by_cases c28 : a0_2 = 1024
          ·rw [if_pos c28] at H
           have c28b0 : (a0_2 == 1024) = true := beq_iff_eq.mpr c28
           have c28b1 : (a0_2 != 1024) = false := bne_eq_false_iff_eq.mpr c28
           clear c28
           obtain rfl := Option.some.inj H
           have hcz29_0 : wc.cell? ⟨gb592, 0, none⟩ = some (.int .i64 a0_0) := (blk_cell BK592.out 0).trans rfl
           have hcz29_1 : wc.cell? ⟨gb592, 1, none⟩ = some (.int .u32 a0_1) := (blk_cell BK592.out 1).trans rfl
           have hcz29_2 : wc.cell? ⟨gb592, 2, none⟩ = some (.int .i64 a0_2) := (blk_cell BK592.out 2).trans rfl
           have hcz29_3 : wc.cell? ⟨gb592, 3, none⟩ = some (.int .i64 a0_3) := (blk_cell BK592.out 3).trans rfl
           have hcz29_4 : wc.cell? ⟨gb592, 4, none⟩ = some (.int .i64 a0_4) := (blk_cell BK592.out 4).trans rfl
           have hfz29_0 := blk_frozen BK592.out 0
           have hfz29_1 := blk_frozen BK592.out 1
           have hfz29_2 := blk_frozen BK592.out 2
           have hfz29_3 := blk_frozen BK592.out 3
           have hfz29_4 := blk_frozen BK592.out 4
           go_wp2
           go_ret
           exact ⟨by first | rfl | (simp [errW_none, errW_some] <;> rfl) | (simp [*, errW_none, errW_some] <;> rfl), by repeat (first | (with_reducible first | exact HB.out | apply below_alloc | apply pw_below_drewN | apply below_drew1 | refine below_set ?_ GE592.out) | exact HB.out)⟩
          ·rw [if_neg c28] at H
           have c28b0 : (a0_2 == 1024) = false := beq_eq_false_iff_ne.mpr c28
           have c28b1 : (a0_2 != 1024) = true := bne_iff_ne.mpr c28
           by_cases c30 : a0_3 < 0
           ·rw [if_pos c30] at H
            have c30b0 : decide (a0_3 < 0) = true := decide_eq_true c30
            clear c30
            obtain rfl := Option.some.inj H
            have hcz31_0 : wc.cell? ⟨gb592, 0, none⟩ = some (.int .i64 a0_0) := (blk_cell BK592.out 0).trans rfl
            have hcz31_1 : wc.cell? ⟨gb592, 1, none⟩ = some (.int .u32 a0_1) := (blk_cell BK592.out 1).trans rfl
            have hcz31_2 : wc.cell? ⟨gb592, 2, none⟩ = some (.int .i64 a0_2) := (blk_cell BK592.out 2).trans rfl
            have hcz31_3 : wc.cell? ⟨gb592, 3, none⟩ = some (.int .i64 a0_3) := (blk_cell BK592.out 3).trans rfl
            have hcz31_4 : wc.cell? ⟨gb592, 4, none⟩ = some (.int .i64 a0_4) := (blk_cell BK592.out 4).trans rfl
            have hfz31_0 := blk_frozen BK592.out 0
            have hfz31_1 := blk_frozen BK592.out 1
            have hfz31_2 := blk_frozen BK592.out 2
            have hfz31_3 := blk_frozen BK592.out 3
            have hfz31_4 := blk_frozen BK592.out 4
            go_wp2
            go_ret
            exact ⟨by first | rfl | (simp [errW_none, errW_some] <;> rfl) | (simp [*, errW_none, errW_some] <;> rfl), by repeat (first | (with_reducible first | exact HB.out | apply below_alloc | apply pw_below_drewN | apply below_drew1 | refine below_set ?_ GE592.out) | exact HB.out)⟩
           ·rw [if_neg c30] at H
            have c30b0 : decide (a0_3 < 0) = false := decide_eq_false c30
            clear c30
            by_cases c32 : a0_3 > 255
            ·rw [if_pos c32] at H
             have c32b0 : decide (255 < a0_3) = true := decide_eq_true c32
             clear c32
             obtain rfl := Option.some.inj H
             have hcz33_0 : wc.cell? ⟨gb592, 0, none⟩ = some (.int .i64 a0_0) := (blk_cell BK592.out 0).trans rfl
             have hcz33_1 : wc.cell? ⟨gb592, 1, none⟩ = some (.int .u32 a0_1) := (blk_cell BK592.out 1).trans rfl
             have hcz33_2 : wc.cell? ⟨gb592, 2, none⟩ = some (.int .i64 a0_2) := (blk_cell BK592.out 2).trans rfl
             have hcz33_3 : wc.cell? ⟨gb592, 3, none⟩ = some (.int .i64 a0_3) := (blk_cell BK592.out 3).trans rfl
             have hcz33_4 : wc.cell? ⟨gb592, 4, none⟩ = some (.int .i64 a0_4) := (blk_cell BK592.out 4).trans rfl
             have hfz33_0 := blk_frozen BK592.out 0
             have hfz33_1 := blk_frozen BK592.out 1
             have hfz33_2 := blk_frozen BK592.out 2
             have hfz33_3 := blk_frozen BK592.out 3
             have hfz33_4 := blk_frozen BK592.out 4
             go_wp2
             go_ret
             exact ⟨by first | rfl | (simp [errW_none, errW_some] <;> rfl) | (simp [*, errW_none, errW_some] <;> rfl), by repeat (first | (with_reducible first | exact HB.out | apply below_alloc | apply pw_below_drewN | apply below_drew1 | refine below_set ?_ GE592.out) | exact HB.out)⟩
            ·rw [if_neg c32] at H
             have c32b0 : decide (255 < a0_3) = false := decide_eq_false c32
             clear c32
             by_cases c34 : a0_4 > 255
             ·rw [if_pos c34] at H
              have c34b0 : decide (255 < a0_4) = true := decide_eq_true c34
              clear c34
              obtain rfl := Option.some.inj H
              have hcz35_0 : wc.cell? ⟨gb592, 0, none⟩ = some (.int .i64 a0_0) := (blk_cell BK592.out 0).trans rfl
              have hcz35_1 : wc.cell? ⟨gb592, 1, none⟩ = some (.int .u32 a0_1) := (blk_cell BK592.out 1).trans rfl
              have hcz35_2 : wc.cell? ⟨gb592, 2, none⟩ = some (.int .i64 a0_2) := (blk_cell BK592.out 2).trans rfl
              have hcz35_3 : wc.cell? ⟨gb592, 3, none⟩ = some (.int .i64 a0_3) := (blk_cell BK592.out 3).trans rfl
              have hcz35_4 : wc.cell? ⟨gb592, 4, none⟩ = some (.int .i64 a0_4) := (blk_cell BK592.out 4).trans rfl
              have hfz35_0 := blk_frozen BK592.out 0
              have hfz35_1 := blk_frozen BK592.out 1
              have hfz35_2 := blk_frozen BK592.out 2
              have hfz35_3 := blk_frozen BK592.out 3
              have hfz35_4 := blk_frozen BK592.out 4
              go_wp2
              go_ret
              exact ⟨by first | rfl | (simp [errW_none, errW_some] <;> rfl) | (simp [*, errW_none, errW_some] <;> rfl), by repeat (first | (with_reducible first | exact HB.out | apply below_alloc | apply pw_below_drewN | apply below_drew1 | refine below_set ?_ GE592.out) | exact HB.out)⟩
             ·rw [if_neg c34] at H
              have c34b0 : decide (255 < a0_4) = false := decide_eq_false c34
              clear c34
              by_cases c36 : a0_0 = 5
              ·rw [if_pos c36] at H
               have c36b0 : (a0_0 == 5) = true := beq_iff_eq.mpr c36
               have c36b1 : (a0_0 != 5) = false := bne_eq_false_iff_eq.mpr c36
               clear c36
               by_cases c37 : a0_4 < 1
               ·rw [if_pos c37] at H
                have c37b0 : decide (a0_4 < 1) = true := decide_eq_true c37
                clear c37
                obtain rfl := Option.some.inj H
                have hcz38_0 : wc.cell? ⟨gb592, 0, none⟩ = some (.int .i64 a0_0) := (blk_cell BK592.out 0).trans rfl
                have hcz38_1 : wc.cell? ⟨gb592, 1, none⟩ = some (.int .u32 a0_1) := (blk_cell BK592.out 1).trans rfl
                have hcz38_2 : wc.cell? ⟨gb592, 2, none⟩ = some (.int .i64 a0_2) := (blk_cell BK592.out 2).trans rfl
                have hcz38_3 : wc.cell? ⟨gb592, 3, none⟩ = some (.int .i64 a0_3) := (blk_cell BK592.out 3).trans rfl
                have hcz38_4 : wc.cell? ⟨gb592, 4, none⟩ = some (.int .i64 a0_4) := (blk_cell BK592.out 4).trans rfl
                have hfz38_0 := blk_frozen BK592.out 0
                have hfz38_1 := blk_frozen BK592.out 1
                have hfz38_2 := blk_frozen BK592.out 2
                have hfz38_3 := blk_frozen BK592.out 3
                have hfz38_4 := blk_frozen BK592.out 4
                go_wp2
                go_ret
                exact ⟨by first | rfl | (simp [errW_none, errW_some] <;> rfl) | (simp [*, errW_none, errW_some] <;> rfl), by repeat (first | (with_reducible first | exact HB.out | apply below_alloc | apply pw_below_drewN | apply below_drew1 | refine below_set ?_ GE592.out) | exact HB.out)⟩
               ·rw [if_neg c37] at H
                have c37b0 : decide (a0_4 < 1) = false := decide_eq_false c37
                clear c37
                obtain rfl := Option.some.inj H
                have hcz39_0 : wc.cell? ⟨gb592, 0, none⟩ = some (.int .i64 a0_0) := (blk_cell BK592.out 0).trans rfl
                have hcz39_1 : wc.cell? ⟨gb592, 1, none⟩ = some (.int .u32 a0_1) := (blk_cell BK592.out 1).trans rfl
                have hcz39_2 : wc.cell? ⟨gb592, 2, none⟩ = some (.int .i64 a0_2) := (blk_cell BK592.out 2).trans rfl
                have hcz39_3 : wc.cell? ⟨gb592, 3, none⟩ = some (.int .i64 a0_3) := (blk_cell BK592.out 3).trans rfl
                have hcz39_4 : wc.cell? ⟨gb592, 4, none⟩ = some (.int .i64 a0_4) := (blk_cell BK592.out 4).trans rfl
                have hfz39_0 := blk_frozen BK592.out 0
                have hfz39_1 := blk_frozen BK592.out 1
                have hfz39_2 := blk_frozen BK592.out 2
                have hfz39_3 := blk_frozen BK592.out 3
                have hfz39_4 := blk_frozen BK592.out 4
                go_wp2
                go_ret
                exact ⟨by first | rfl | (simp [errW_none, errW_some] <;> rfl) | (simp [*, errW_none, errW_some] <;> rfl), by repeat (first | (with_reducible first | exact HB.out | apply below_alloc | apply pw_below_drewN | apply below_drew1 | refine below_set ?_ GE592.out) | exact HB.out)⟩
              ·rw [if_neg c36] at H
               have c36b0 : (a0_0 == 5) = false := beq_eq_false_iff_ne.mpr c36
               have c36b1 : (a0_0 != 5) = true := bne_iff_ne.mpr c36
               obtain rfl := Option.some.inj H
               have hcz40_0 : wc.cell? ⟨gb592, 0, none⟩ = some (.int .i64 a0_0) := (blk_cell BK592.out 0).trans rfl
               have hcz40_1 : wc.cell? ⟨gb592, 1, none⟩ = some (.int .u32 a0_1) := (blk_cell BK592.out 1).trans rfl
               have hcz40_2 : wc.cell? ⟨gb592, 2, none⟩ = some (.int .i64 a0_2) := (blk_cell BK592.out 2).trans rfl
               have hcz40_3 : wc.cell? ⟨gb592, 3, none⟩ = some (.int .i64 a0_3) := (blk_cell BK592.out 3).trans rfl
               have hcz40_4 : wc.cell? ⟨gb592, 4, none⟩ = some (.int .i64 a0_4) := (blk_cell BK592.out 4).trans rfl
               have hfz40_0 := blk_frozen BK592.out 0
               have hfz40_1 := blk_frozen BK592.out 1
               have hfz40_2 := blk_frozen BK592.out 2
               have hfz40_3 := blk_frozen BK592.out 3
               have hfz40_4 := blk_frozen BK592.out 4
               go_wp2
               go_ret
               exact ⟨by first | rfl | (simp [errW_none, errW_some] <;> rfl) | (simp [*, errW_none, errW_some] <;> rfl), by repeat (first | (with_reducible first | exact HB.out | apply below_alloc | apply pw_below_drewN | apply below_drew1 | refine below_set ?_ GE592.out) | exact HB.out)⟩
         ·rw [if_neg c27] at H
          have c27b0 : (a0_0 == 1) = false := beq_eq_false_iff_ne.mpr c27
          have c27b1 : (a0_0 != 1) = true := bne_iff_ne.mpr c27
          by_cases c41 : a0_3 < 0
          ·rw [if_pos c41] at H
           have c41b0 : decide (a0_3 < 0) = true := decide_eq_true c41
           clear c41
           obtain rfl := Option.some.inj H
           have hcz42_0 : wc.cell? ⟨gb592, 0, none⟩ = some (.int .i64 a0_0) := (blk_cell BK592.out 0).trans rfl
           have hcz42_1 : wc.cell? ⟨gb592, 1, none⟩ = some (.int .u32 a0_1) := (blk_cell BK592.out 1).trans rfl
           have hcz42_2 : wc.cell? ⟨gb592, 2, none⟩ = some (.int .i64 a0_2) := (blk_cell BK592.out 2).trans rfl
           have hcz42_3 : wc.cell? ⟨gb592, 3, none⟩ = some (.int .i64 a0_3) := (blk_cell BK592.out 3).trans rfl
           have hcz42_4 : wc.cell? ⟨gb592, 4, none⟩ = some (.int .i64 a0_4) := (blk_cell BK592.out 4).trans rfl
           have hfz42_0 := blk_frozen BK592.out 0
           have hfz42_1 := blk_frozen BK592.out 1
           have hfz42_2 := blk_frozen BK592.out 2
           have hfz42_3 := blk_frozen BK592.out 3
           have hfz42_4 := blk_frozen BK592.out 4
           go_wp2
           go_ret
           exact ⟨by first | rfl | (simp [errW_none, errW_some] <;> rfl) | (simp [*, errW_none, errW_some] <;> rfl), by repeat (first | (with_reducible first | exact HB.out | apply below_alloc | apply pw_below_drewN | apply below_drew1 | refine below_set ?_ GE592.out) | exact HB.out)⟩
          ·rw [if_neg c41] at H
           have c41b0 : decide (a0_3 < 0) = false := decide_eq_false c41
           clear c41
           by_cases c43 : a0_3 > 255
           ·rw [if_pos c43] at H
            have c43b0 : decide (255 < a0_3) = true := decide_eq_true c43
            clear c43
            obtain rfl := Option.some.inj H
            have hcz44_0 : wc.cell? ⟨gb592, 0, none⟩ = some (.int .i64 a0_0) := (blk_cell BK592.out 0).trans rfl
            have hcz44_1 : wc.cell? ⟨gb592, 1, none⟩ = some (.int .u32 a0_1) := (blk_cell BK592.out 1).trans rfl
            have hcz44_2 : wc.cell? ⟨gb592, 2, none⟩ = some (.int .i64 a0_2) := (blk_cell BK592.out 2).trans rfl
            have hcz44_3 : wc.cell? ⟨gb592, 3, none⟩ = some (.int .i64 a0_3) := (blk_cell BK592.out 3).trans rfl
            have hcz44_4 : wc.cell? ⟨gb592, 4, none⟩ = some (.int .i64 a0_4) := (blk_cell BK592.out 4).trans rfl
            have hfz44_0 := blk_frozen BK592.out 0
            have hfz44_1 := blk_frozen BK592.out 1
            have hfz44_2 := blk_frozen BK592.out 2
            have hfz44_3 := blk_frozen BK592.out 3
            have hfz44_4 := blk_frozen BK592.out 4
            go_wp2
            go_ret
            exact ⟨by first | rfl | (simp [errW_none, errW_some] <;> rfl) | (simp [*, errW_none, errW_some] <;> rfl), by repeat (first | (with_reducible first | exact HB.out | apply below_alloc | apply pw_below_drewN | apply below_drew1 | refine below_set ?_ GE592.out) | exact HB.out)⟩
           ·rw [if_neg c43] at H
            have c43b0 : decide (255 < a0_3) = false := decide_eq_false c43
            clear c43
            by_cases c45 : a0_4 > 255
            ·rw [if_pos c45] at H
             have c45b0 : decide (255 < a0_4) = true := decide_eq_true c45
             clear c45
             obtain rfl := Option.some.inj H
             have hcz46_0 : wc.cell? ⟨gb592, 0, none⟩ = some (.int .i64 a0_0) := (blk_cell BK592.out 0).trans rfl
             have hcz46_1 : wc.cell? ⟨gb592, 1, none⟩ = some (.int .u32 a0_1) := (blk_cell BK592.out 1).trans rfl
             have hcz46_2 : wc.cell? ⟨gb592, 2, none⟩ = some (.int .i64 a0_2) := (blk_cell BK592.out 2).trans rfl
             have hcz46_3 : wc.cell? ⟨gb592, 3, none⟩ = some (.int .i64 a0_3) := (blk_cell BK592.out 3).trans rfl
             have hcz46_4 : wc.cell? ⟨gb592, 4, none⟩ = some (.int .i64 a0_4) := (blk_cell BK592.out 4).trans rfl
             have hfz46_0 := blk_frozen BK592.out 0
             have hfz46_1 := blk_frozen BK592.out 1
             have hfz46_2 := blk_frozen BK592.out 2
             have hfz46_3 := blk_frozen BK592.out 3
             have hfz46_4 := blk_frozen BK592.out 4
             go_wp2
             go_ret
             exact ⟨by first | rfl | (simp [errW_none, errW_some] <;> rfl) | (simp [*, errW_none, errW_some] <;> rfl), by repeat (first | (with_reducible first | exact HB.out | apply below_alloc | apply pw_below_drewN | apply below_drew1 | refine below_set ?_ GE592.out) | exact HB.out)⟩
            ·rw [if_neg c45] at H
             have c45b0 : decide (255 < a0_4) = false := decide_eq_false c45
             clear c45
             by_cases c47 : a0_0 = 5
             ·rw [if_pos c47] at H
              have c47b0 : (a0_0 == 5) = true := beq_iff_eq.mpr c47
              have c47b1 : (a0_0 != 5) = false := bne_eq_false_iff_eq.mpr c47
              clear c47
              by_cases c48 : a0_4 < 1
              ·rw [if_pos c48] at H
               have c48b0 : decide (a0_4 < 1) = true := decide_eq_true c48
               clear c48
               obtain rfl := Option.some.inj H
               have hcz49_0 : wc.cell? ⟨gb592, 0, none⟩ = some (.int .i64 a0_0) := (blk_cell BK592.out 0).trans rfl
               have hcz49_1 : wc.cell? ⟨gb592, 1, none⟩ = some (.int .u32 a0_1) := (blk_cell BK592.out 1).trans rfl
               have hcz49_2 : wc.cell? ⟨gb592, 2, none⟩ = some (.int .i64 a0_2) := (blk_cell BK592.out 2).trans rfl
               have hcz49_3 : wc.cell? ⟨gb592, 3, none⟩ = some (.int .i64 a0_3) := (blk_cell BK592.out 3).trans rfl
               have hcz49_4 : wc.cell? ⟨gb592, 4, none⟩ = some (.int .i64 a0_4) := (blk_cell BK592.out 4).trans rfl
               have hfz49_0 := blk_frozen BK592.out 0
               have hfz49_1 := blk_frozen BK592.out 1
               have hfz49_2 := blk_frozen BK592.out 2
               have hfz49_3 := blk_frozen BK592.out 3
               have hfz49_4 := blk_frozen BK592.out 4
               go_wp2
               go_ret
               exact ⟨by first | rfl | (simp [errW_none, errW_some] <;> rfl) | (simp [*, errW_none, errW_some] <;> rfl), by repeat (first | (with_reducible first | exact HB.out | apply below_alloc | apply pw_below_drewN | apply below_drew1 | refine below_set ?_ GE592.out) | exact HB.out)⟩
              ·rw [if_neg c48] at H
               have c48b0 : decide (a0_4 < 1) = false := decide_eq_false c48
               clear c48
               obtain rfl := Option.some.inj H
               have hcz50_0 : wc.cell? ⟨gb592, 0, none⟩ = some (.int .i64 a0_0) := (blk_cell BK592.out 0).trans rfl
               have hcz50_1 : wc.cell? ⟨gb592, 1, none⟩ = some (.int .u32 a0_1) := (blk_cell BK592.out 1).trans rfl
               have hcz50_2 : wc.cell? ⟨gb592, 2, none⟩ = some (.int .i64 a0_2) := (blk_cell BK592.out 2).trans rfl
               have hcz50_3 : wc.cell? ⟨gb592, 3, none⟩ = some (.int .i64 a0_3) := (blk_cell BK592.out 3).trans rfl
               have hcz50_4 : wc.cell? ⟨gb592, 4, none⟩ = some (.int .i64 a0_4) := (blk_cell BK592.out 4).trans rfl
               have hfz50_0 := blk_frozen BK592.out 0
               have hfz50_1 := blk_frozen BK592.out 1
               have hfz50_2 := blk_frozen BK592.out 2
               have hfz50_3 := blk_frozen BK592.out 3
               have hfz50_4 := blk_frozen BK592.out 4
               go_wp2
               go_ret
               exact ⟨by first | rfl | (simp [errW_none, errW_some] <;> rfl) | (simp [*, errW_none, errW_some] <;> rfl), by repeat (first | (with_reducible first | exact HB.out | apply below_alloc | apply pw_below_drewN | apply below_drew1 | refine below_set ?_ GE592.out) | exact HB.out)⟩
             ·rw [if_neg c47] at H
              have c47b0 : (a0_0 == 5) = false := beq_eq_false_iff_ne.mpr c47
              have c47b1 : (a0_0 != 5) = true := bne_iff_ne.mpr c47
              obtain rfl := Option.some.inj H
              have hcz51_0 : wc.cell? ⟨gb592, 0, none⟩ = some (.int .i64 a0_0) := (blk_cell BK592.out 0).trans rfl
              have hcz51_1 : wc.cell? ⟨gb592, 1, none⟩ = some (.int .u32 a0_1) := (blk_cell BK592.out 1).trans rfl
              have hcz51_2 : wc.cell? ⟨gb592, 2, none⟩ = some (.int .i64 a0_2) := (blk_cell BK592.out 2).trans rfl
              have hcz51_3 : wc.cell? ⟨gb592, 3, none⟩ = some (.int .i64 a0_3) := (blk_cell BK592.out 3).trans rfl
              have hcz51_4 : wc.cell? ⟨gb592, 4, none⟩ = some (.int .i64 a0_4) := (blk_cell BK592.out 4).trans rfl
              have hfz51_0 := blk_frozen BK592.out 0
              have hfz51_1 := blk_frozen BK592.out 1
              have hfz51_2 := blk_frozen BK592.out 2
              have hfz51_3 := blk_frozen BK592.out 3
              have hfz51_4 := blk_frozen BK592.out 4
              go_wp2
              go_ret
              exact ⟨by first | rfl | (simp [errW_none, errW_some] <;> rfl) | (simp [*, errW_none, errW_some] <;> rfl), by repeat (first | (with_reducible first | exact HB.out | apply below_alloc | apply pw_below_drewN | apply below_drew1 | refine below_set ?_ GE592.out) | exact HB.out)⟩

end Go.Proofs.YtcaiakbaklopmaaGreatDoor.Q

namespace Go.Proofs.YtcaiakbaklopmaaGreatDoor.SayE
open Go Go.RowKit Go.Proofs.YtcaiakbaklopmaaGreatDoorW.PrintWords Go.Proofs.YtcaiakbaklopmaaGreatDoorW.PrintLast Go.Proofs.YtcaiakbaklopmaaGreatDoorW.PrintMore
section
variable {P : Program} {ops : Array Oper} {rest : List Oper} {o : Oper} {a : Act} {Q : Exit → Act → World → Prop} {W W0 : World} {gb : Nat} {ob : Obj}
theorem map_event (hgd : o.guard = none) {N : Tmp} (_hd : o.dst = some N) {t : TypeId} (ho : o.op = .makeMap t none) (BK : W.heap[gb]? = some ob) (HB : Below W0.heap.size W0 W)
    (h : ∀ gm w', w'.heap[gb]? = some ob → Below W0.heap.size W0 w' → (w'.heap[gm]? = some (.map #[] 0) ∧ gm ≠ gb ∧ W0.heap.size ≤ gm) → wpList P ops Q rest (a.put o.dst (.map (some gm))) w') : wpList P ops Q (o :: rest) a W :=
  Kd.event_run hgd (v := .map (some W.heap.size)) (w1 := W.alloc (.map #[] 0)) (by simp [execOp, ho]; rfl) (h W.heap.size _ (blk_alloc BK _) (below_alloc HB _) ⟨blk_new W _, Nat.ne_of_gt (Array.getElem?_eq_some_iff.1 BK).1, HB.size⟩)
theorem checkKey_int {kt : TypeId} {kd : IntKind} (hk : P.underlying kt = some (.int kd)) (b : Bool) (v : Value) (w : World) : (Instr.checkKey b 10000 kt v).run P w = .ok () w := by
  have h : ∀ d, (Instr.checkKey b (d + 1) kt v).run P w = .ok () w := fun d => by simp [Instr.checkKey, run_underlying hk]
  exact h 9999
theorem ins_event (hgd : o.guard = none) (hd : o.dst = none) {t kt et : TypeId} {m : Tmp} {n : Int} {s : ByteArray} (ho : o.op = .insert t (.tmp m) (.const (.int .i64 n)) (.const (.string s)))
    (hu : P.underlying t = some (.map kt et)) (hk : P.underlying kt = some (.int .i64)) {gm : Nat} (hm : a.eval (.tmp m) = .map (some gm)) {es : Array MapEntry} {c : Nat} (BM : W.heap[gm]? = some (.map es c) ∧ gm ≠ gb ∧ W0.heap.size ≤ gm)
    (hf : Instr.findNow (.int .i64) (.int .i64 n) es.toList 0 = some none) (BK : W.heap[gb]? = some ob) (HB : Below W0.heap.size W0 W)
    (h : ∀ w', w'.heap[gb]? = some ob → Below W0.heap.size W0 w' → (w'.heap[gm]? = some (.map (es.push { key := .int .i64 n, val := .string s, born := c }) (c + 1)) ∧ gm ≠ gb ∧ W0.heap.size ≤ gm) → wpList P ops Q rest a w') : wpList P ops Q (o :: rest) a W := by
  have hlt : gm < W.heap.size := (Array.getElem?_eq_some_iff.1 BM.1).1
  have hc : a.eval (.const (.int .i64 n)) = .int .i64 n := rfl
  have hs : a.eval (.const (.string s)) = .string s := rfl
  have hrun : (execOp a.eval o).run P W = .ok .skip { W with heap := W.heap.setIfInBounds gm (.map (es.push { key := .int .i64 n, val := .string s, born := c }) (c + 1)) } := by
    simp [execOp, ho, hm, hc, hs, Instr.mapUpdate, run_underlying hu, MapKept.run_getObj_map BM.1, checkKey_int hk, MapKept.run_findKey hk hf, MapKept.run_setObj_map _ BM.1]
  refine wpList_plain hgd fun K hK => ?_
  unfold Oper.wp
  rw [hrun, Oper.upon_skip, hd]
  refine hK _ _ (h _ ?_ ?_ ⟨?_, BM.2⟩)
  · simp [BM.2.1, BK]
  · refine ⟨HB.os, HB.tape, HB.output, by simpa using HB.size, fun i hi => ?_⟩
    have hne : gm ≠ i := by have := BM.2.2; omega
    simp only [Array.getElem?_setIfInBounds_ne hne]
    exact HB.block i hi
  · simp [hlt]
theorem look_run {t kt et : TypeId} {x i : Operand} (ho : o.op = .lookup t x i false) (hu : P.underlying t = some (.map kt et)) (hk : P.underlying kt = some (.int .i64)) {gm : Nat} {es : Array MapEntry} {c j : Nat} {n : Int} {v : Value}
    (hx : a.eval x = .map (some gm)) (hi : a.eval i = .int .i64 n) (hs : W.heap[gm]? = some (.map es c)) (hf : Instr.findNow (.int .i64) (.int .i64 n) es.toList 0 = some (some (j, v))) : (execOp a.eval o).run P W = .ok (.value v) W := by
  simp [execOp, ho, hx, hi, Instr.lookup, run_underlying hu, MapKept.run_getObj_map hs, checkKey_int hk, MapKept.run_findKey hk hf]
end
def sayMap : Array MapEntry := ((#[].push { key := .int .i64 2, val := .string ⟨#[32, 115, 116, 111, 112, 112, 101, 100]⟩, born := 0 }).push { key := .int .i64 3, val := .string ⟨#[32, 108, 101, 110, 103, 116, 104]⟩, born := 0 + 1 }).push { key := .int .i64 4, val := .string ⟨#[32, 99, 97, 110, 99, 101, 108, 108, 101, 100]⟩, born := 0 + 1 + 1 }
theorem find2 : Instr.findNow (.int .i64) (.int .i64 2) sayMap.toList 0 = some (some (0, .string ⟨#[32, 115, 116, 111, 112, 112, 101, 100]⟩)) := by simp [sayMap, Instr.findNow, Instr.sameNow]
theorem find3 : Instr.findNow (.int .i64) (.int .i64 3) sayMap.toList 0 = some (some (1, .string ⟨#[32, 108, 101, 110, 103, 116, 104]⟩)) := by simp [sayMap, Instr.findNow, Instr.sameNow]
theorem find4 : Instr.findNow (.int .i64) (.int .i64 4) sayMap.toList 0 = some (some (2, .string ⟨#[32, 99, 97, 110, 99, 101, 108, 108, 101, 100]⟩)) := by simp [sayMap, Instr.findNow, Instr.sameNow]
end Go.Proofs.YtcaiakbaklopmaaGreatDoor.SayE

namespace Go.Proofs.YtcaiakbaklopmaaGreatDoor.TierN
open Go.RowKit Go.Sort Go.Lib Go.Proofs.YtcaiakbaklopmaaGreatDoor
set_option linter.unusedVariables false

set_option maxHeartbeats 6400000 in
set_option maxRecDepth 100000 in
theorem formatUint_in (u : Nat) (hu64 : u < 18446744073709551616) (w : World) (hG : Gl w) :
    Calls Tryz.prog 51 #[.int .u64 u, .int .i64 10] w fun e w' => e = .returned (.string ⟨(Lib.decDigits u).toArray⟩) ∧ Below w.heap.size w w' := by
  have hG' := Lib.hid hG
  clear hG
  by_cases hs : u < 100
  · have hsz : (u : Int) < 100 := by omega
    go_enter Tryz.func51, Tryz.ntmps51
    go_wp2_with (go_at_call 70; refine (Tryz.internal_strconv_small u hs _).mono ?_; rintro e w' ⟨rfl, rfl⟩)
    go_ret
    exact ⟨rfl, Below.refl _ _⟩
  · have hsz : ¬ (u : Int) < 100 := by omega
    have hu1 : 1 ≤ u := by omega
    have hnd20 : Lib.nDigits u ≤ 20 := by have := Lib.numDigits_eq u hu1 hu64; split at this <;> omega
    have hal : Tryz.prog.arrayLen 148 = 24 := by kernel_rfl
    have hsl : ∀ W, (Instr.sliceAt 148 (.pointer (some ⟨w.heap.size, 0, none⟩)) none (some (.int .i64 (Lib.nDigits u : Int))) none).run Tryz.prog W = .ok (.slice (some ⟨w.heap.size, 0, none⟩) (Lib.nDigits u) 24) W := fun W => by
      rw [run_sliceAt_array_h W 148 ⟨w.heap.size, 0, none⟩ (by kernel_rfl) .i64 (Lib.nDigits u : Int) (by omega) (by rw [hal]; omega)]
      go_simp
    have hH0 := Lib.holds_zero0 w 148 (Lib.nDigits u) (by omega)
    have hfmt := Tryz.internal_strconv_formatBase10 w.heap.size 0 24 u (Array.replicate (Lib.nDigits u) 0) (w.alloc (.cells Lib.zeros24 148)) hH0 (by rw [Array.size_replicate]; exact Lib.lt_pow_nDigits u) hu64 (by rw [Array.size_replicate]; omega)
    rw [Array.size_replicate] at hfmt
    have HH0 := Lib.hid hH0
    have hND := Tryz.internal_strconv_numDigits u hu1 hu64 (w.alloc (.cells Lib.zeros24 148)) (Lib.tabIs_alloc hG'.out.tab _)
    clear hH0 hal
    go_enter Tryz.func51, Tryz.ntmps51
    go_wp2_with (go_at_call 71; refine hND.mono ?_; rintro e w' ⟨rfl, rfl⟩)
    go_at_call 72
    refine hfmt.mono ?_
    rintro e w' ⟨rfl, k, v', dk, rfl, hF⟩
    have hcv : (convert 23 9 (.slice (some ⟨w.heap.size, 0, none⟩) (Lib.nDigits u) 24)).run Tryz.prog ((putRow (fun (b : UInt8) => Value.int .u8 (b.toNat : Int)) (w.alloc (.cells Lib.zeros24 148)) w.heap.size 0 dk).drewN k) = .ok (.string ⟨(Lib.decDigits u).toArray⟩) ((putRow (fun (b : UInt8) => Value.int .u8 (b.toNat : Int)) (w.alloc (.cells Lib.zeros24 148)) w.heap.size 0 dk).drewN k) := by
      have h := run_convert_bytes_back (P := Tryz.prog) ((putRow (fun (b : UInt8) => Value.int .u8 (b.toNat : Int)) (w.alloc (.cells Lib.zeros24 148)) w.heap.size 0 dk).drewN k) 23 9 5 ⟨w.heap.size, 0, none⟩ 24 (Lib.decDigits u) Tryz.underlying23 Tryz.underlying5 Tryz.underlying9 (fun j hj => by
        rw [Lib.row_is_numeral hF j hj, Lib.add_plain, World.cell?_drewN]
        exact cell?_putRow (fun (b : UInt8) => Value.int .u8 (b.toNat : Int)) _ w.heap.size 0 _ dk HH0.out (by rw [hF.size, Array.size_replicate]) j (by rw [hF.size]; rw [Lib.decDigits_length] at hj; exact hj))
      rw [Lib.decDigits_length] at h
      exact h
    obtain ⟨os, eo⟩ := Lib.fin_at w (.cells Lib.zeros24 148) dk k 0
    have HB := Lib.hid (show Below w.heap.size w ((putRow (fun (b : UInt8) => Value.int .u8 (b.toNat : Int)) (w.alloc (.cells Lib.zeros24 148)) w.heap.size 0 dk).drewN k) from eo ▸ grown_below k os)
    clear eo
    go_wp2
    go_ret
    exact ⟨rfl, HB.out⟩

theorem formatUint (u : Nat) (hu64 : u < 18446744073709551616) (w : World) (hG : Gl w) :
    Calls Tryz.prog 30 #[.int .u64 u, .int .i64 10] w fun e w' => e = .returned (.string ⟨(Lib.decDigits u).toArray⟩) ∧ Below w.heap.size w w' := by
  have h := Lib.hid (formatUint_in u hu64 w hG)
  clear hG
  go_enter Tryz.func30, Tryz.ntmps30
  go_wp2_with (go_at_call 51; refine h.out.mono ?_; rintro e w' ⟨rfl, hb⟩; have HB := Lib.hid hb; clear hb)
  go_ret
  exact ⟨rfl, HB.out⟩

end Go.Proofs.YtcaiakbaklopmaaGreatDoor.TierN

namespace Go.Proofs.YtcaiakbaklopmaaGreatDoor.Q
open Go.RowKit Go.Proofs.YtcaiakbaklopmaaGreatDoorW.PrintWords Go.Proofs.YtcaiakbaklopmaaGreatDoorW.PrintLast Go.Proofs.YtcaiakbaklopmaaGreatDoorW.PrintMore
attribute [local go_sem] max2_int min2_int max_two min_two max_three min_three max_four min_four   -- for this text's walks alone
set_option linter.unusedVariables false
set_option linter.unusedSimpArgs false

def strconv_FormatUint_30.f (a0 a1 : Int) : Option ByteArray := if 0 ≤ a0 ∧ a0 < 18446744073709551616 ∧ a1 = 10 then some ⟨(Lib.decDigits a0.toNat).toArray⟩ else none
theorem strconv_FormatUint_30.calls (a0 a1 : Int) (r : ByteArray) (w : World) (hG : Gl w) (h : strconv_FormatUint_30.f a0 a1 = some r) :
  Calls Tryz.prog 30 #[.int .u64 a0, .int .i64 a1] w fun e w' => e = .returned (.string r) ∧ Below w.heap.size w w' := by
 unfold strconv_FormatUint_30.f at h
 split at h
 ·next hc =>
  obtain rfl := Option.some.inj h
  obtain ⟨h0, h1, rfl⟩ := hc
  obtain ⟨u, rfl⟩ : ∃ u : Nat, a0 = u := ⟨a0.toNat, by omega⟩
  rw [Int.toNat_natCast]
  exact TierN.formatUint u (by omega) w hG
 ·cases h

end Go.Proofs.YtcaiakbaklopmaaGreatDoor.Q

namespace Go.Proofs.YtcaiakbaklopmaaGreatDoor.Q
open Go.RowKit Go.Proofs.YtcaiakbaklopmaaGreatDoorW.PrintWords Go.Proofs.YtcaiakbaklopmaaGreatDoorW.PrintLast Go.Proofs.YtcaiakbaklopmaaGreatDoorW.PrintMore
attribute [local go_sem] max2_int min2_int max_two min_two max_three min_three max_four min_four   -- for this text's walks alone
set_option linter.unusedVariables false
set_option linter.unusedSimpArgs false

def digs : Nat → Nat → List UInt8
 | 0, _ => []
 | k + 1, u => if u < 10 then [UInt8.ofNat (48 + u)] else digs k (u / 10) ++ [UInt8.ofNat (48 + u % 10)]
theorem digs_eq : ∀ (k u : Nat), u < 10 ^ k → 0 < k → digs k u = Lib.decDigits u
 | k + 1, u, h, _ => by
  rw [digs, Lib.decDigits]
  by_cases c : u < 10
  ·rw [if_pos c, dif_pos c]
  ·rw [if_neg c, dif_neg c]
   have hk : 0 < k := by
    cases k with
    | zero => simp at h; omega
    | succ k => omega
   rw [digs_eq k (u / 10) (by rw [Nat.pow_succ] at h; omega) hk]
def itoaF (n : Int) : List UInt8 := if n < 0 then 45 :: digs 20 n.natAbs else digs 20 n.toNat
theorem itoaF_eq (n : Int) (h0 : -9223372036854775808 ≤ n) (h1 : n ≤ 9223372036854775807) : itoaF n = Lib.itoa n := by
 have hp : (10 : Nat) ^ 20 = 100000000000000000000 := by decide
 unfold itoaF Lib.itoa
 rw [digs_eq 20 n.natAbs (by omega) (by omega), digs_eq 20 n.toNat (by omega) (by omega)]
def strconv_Itoa_52.f (a0 : Int) : Option ByteArray := if -9223372036854775808 ≤ a0 ∧ a0 ≤ 9223372036854775807 then some ⟨(itoaF a0).toArray⟩ else none
theorem strconv_Itoa_52.calls (a0 : Int) (r : ByteArray) (w : World) (hG : Gl w) (h : strconv_Itoa_52.f a0 = some r) :
  Calls Tryz.prog 52 #[.int .i64 a0] w fun e w' => e = .returned (.string r) ∧ Below w.heap.size w w' := by
 unfold strconv_Itoa_52.f at h
 split at h
 ·next hc =>
  obtain rfl := Option.some.inj h
  rw [itoaF_eq a0 hc.1 hc.2]
  refine (Tryz.strconv_Itoa a0 hc.1 hc.2 w hG.tab).mono ?_
  rintro e w' ⟨rfl, k, os, rfl⟩
  exact ⟨rfl, grown_below k os⟩
 ·cases h

end Go.Proofs.YtcaiakbaklopmaaGreatDoor.Q

namespace Go.Proofs.YtcaiakbaklopmaaGreatDoor.Q
open Go.RowKit Go.Proofs.YtcaiakbaklopmaaGreatDoorW.PrintWords Go.Proofs.YtcaiakbaklopmaaGreatDoorW.PrintLast Go.Proofs.YtcaiakbaklopmaaGreatDoorW.PrintMore
attribute [local go_sem] max2_int min2_int max_two min_two max_three min_three max_four min_four   -- for this text's walks alone
set_option linter.unusedVariables false
set_option linter.unusedSimpArgs false

def script_text.l0 : Nat → ByteArray → List Int → Int → Int → Option (ByteArray)
 | 0, _, _, _, _ => none
 | k + 1, x3, x6, x7, x8 => if x8 < x7 then (if 0 ≤ x8 then (if x8 < (x6.length : Int) then ((strconv_Itoa_52.f (rd x6 x8)).bind fun t169 => (if 1 + t169.size ≤ 9223372036854775807 then (if x3.size + (1 + t169.size) ≤ 9223372036854775807 then (script_text.l0 k (x3 ++ ((⟨#[32]⟩ : ByteArray) ++ t169)) x6 x7 (wrap64 (x8 + 1))) else (none)) else (none))) else (none)) else (none)) else (some x3)
def script_text.f (k : Nat) (l0 : List Int) : Option (ByteArray) := script_text.l0 k (⟨#[]⟩ : ByteArray) l0 (l0.length : Int) 0
theorem script_text.mono_l : ∀ k, (∀ y0 y1 y2 y3, LeO (script_text.l0 k y0 y1 y2 y3) (script_text.l0 (k + 1) y0 y1 y2 y3))
 | 0 => fun _ _ _ _ r h => by simp [script_text.l0] at h
 | k + 1 => by
  have ih0 := script_text.mono_l k
  ·intro y0 y1 y2 y3
   unfold script_text.l0
   repeat' first
   | (with_reducible exact ih0 _ _ _ _)
   | (with_reducible exact LeO.refl _)
   | (with_reducible exact LeO.none _)
   | (with_reducible refine LeO.ite ?_ ?_)
   | (with_reducible refine LeO.bind ?_ (fun _ => ?_))
   | exact ih0 _ _ _ _
   | exact LeO.none _
   | refine LeO.ite ?_ ?_
   | refine LeO.bind ?_ (fun _ => ?_)
theorem script_text.mono : ∀ a0 k, LeO (script_text.f k a0) (script_text.f (k + 1) a0) := by
 intro a0 k
 have ih0 := script_text.mono_l k
 unfold script_text.f
 repeat' first
   | (with_reducible exact ih0 _ _ _ _)
   | (with_reducible exact LeO.refl _)
   | (with_reducible exact LeO.none _)
   | (with_reducible refine LeO.ite ?_ ?_)
   | (with_reducible refine LeO.bind ?_ (fun _ => ?_))
   | exact ih0 _ _ _ _
   | exact LeO.none _
   | refine LeO.ite ?_ ?_
   | refine LeO.bind ?_ (fun _ => ?_)
set_option maxHeartbeats 8000000 in
set_option maxRecDepth 100000 in
theorem script_text.calls (k : Nat) (A0 : Option Addr) (c0 : Nat) (l0 : List Int) (r : ByteArray) (w : World) (hr0 : Kd.C (Kd.int .i64) w A0 l0.length l0) (hc0 : l0.length ≤ c0) (hG : Gl w) (h : script_text.f k l0 = some r) :
  Calls Tryz.prog 31 #[.slice A0 l0.length c0] w fun e w' => e = .returned (.string r) ∧ Below w.heap.size w w' := by
 have HR0 := Aside0.mk hr0
 have HC0 := Aside0.mk hc0
 clear hr0 hc0
 have HB := Aside0.mk (Below.refl w.heap.size w)
 have H : (script_text.l0 k (⟨#[]⟩ : ByteArray) l0 (l0.length : Int) 0) = some r := h
 clear h
 have H' := Aside0.mk H
 clear H
 go_enter Tryz.func31, Tryz.ntmps31
 go_wp2
 go_loopg [3, 8] k (fun kq v3 v8 w' => ∃ (x3_1 : ByteArray) (x8_1 : Int), v3 = .string x3_1 ∧ v8 = .int .i64 x8_1 ∧ Aside0 (script_text.l0 kq x3_1 l0 (l0.length : Int) x8_1 = some r) ∧ Aside0 (kq ≤ k) ∧ Aside0 (Below w.heap.size w w'))
 case atStart => exact ⟨((⟨#[]⟩ : ByteArray)), (0), (by first | rfl | (simp; done) | (simp [*]; done)), (by first | rfl | (simp; done) | (simp [*]; done)), H', ⟨Nat.le_refl _⟩, ⟨by repeat (first | (with_reducible first | exact HB.out | apply below_alloc | apply pw_below_drewN | apply below_drew1) | exact HB.out)⟩⟩
 case round =>
  clear H'
  obtain ⟨x3_1, x8_1, rfl, rfl, HA, HK1, HB⟩ := hrel
  cases gk with
  | zero => exact absurd HA.out (by simp [script_text.l0])
  | succ k1 =>
   have H := HA.out
   clear HA
   simp only [script_text.l0] at H
   by_cases c2 : x8_1 < (l0.length : Int)
   ·rw [if_pos c2] at H
    have c2b0 : decide (x8_1 < (l0.length : Int)) = true := decide_eq_true c2
    clear c2
    by_cases c3 : 0 ≤ x8_1
    ·rw [if_pos c3] at H
     have c3b0 : decide (0 ≤ x8_1) = true := decide_eq_true c3
     clear c3
     by_cases c4 : x8_1 < (l0.length : Int)
     ·rw [if_pos c4] at H
      have c4b0 : decide (x8_1 < (l0.length : Int)) = true := decide_eq_true c4
      clear c4
      replace H := Option.bind_eq_some_iff.mp H
      obtain ⟨t169, A50, H⟩ := H
      replace H : (if 1 + t169.size ≤ 9223372036854775807 then (if x3_1.size + (1 + t169.size) ≤ 9223372036854775807 then (script_text.l0 k1 (x3_1 ++ ((⟨#[32]⟩ : ByteArray) ++ t169)) l0 (l0.length : Int) (wrap64 (x8_1 + 1))) else (none)) else (none)) = some r := H
      have A5 := Aside0.mk A50
      clear A50
      by_cases c6 : 1 + t169.size ≤ 9223372036854775807
      ·rw [if_pos c6] at H
       have c6b0 := eq_true c6
       have c6b1 : decide (1 + t169.size ≤ 9223372036854775807) = true := decide_eq_true c6
       try have c6b2 : (9223372036854775807 < 1 + t169.size) = False := eq_false (Nat.not_lt.2 c6)
       by_cases c7 : x3_1.size + (1 + t169.size) ≤ 9223372036854775807
       ·rw [if_pos c7] at H
        have c7b0 := eq_true c7
        have c7b1 : decide (x3_1.size + (1 + t169.size) ≤ 9223372036854775807) = true := decide_eq_true c7
        try have c7b2 : (9223372036854775807 < x3_1.size + (1 + t169.size)) = False := eq_false (Nat.not_lt.2 c7)
        have H' := Aside0.mk H
        clear H
        have p168 : 0 ≤ (x8_1 : Int) := of_decide_eq_true (by first | (with_reducible assumption) | assumption)
        have q168 : x8_1 < (l0.length : Int) := of_decide_eq_true (by first | (with_reducible assumption) | assumption)
        obtain ⟨ad168, e168, hx168_0⟩ := Kd.at_int HR0.out x8_1 p168 q168
        cases e168
        replace hx168_0 := (HB.out.cell (World.block_lt_of_cell? w _ hx168_0)).trans hx168_0
        replace p168 := eq_true p168
        replace q168 := eq_true q168
        go_wp2_with (first | ((with_reducible refine gate_callee (f := 52) rfl ?_); refine goesL_ (some 14) rfl rfl Tryz.func52 (by kernel_rfl) rfl #[.int .i64 (rd l0 x8_1)] rfl (by (try simp only [List.map_toArray, List.map_cons, List.map_nil]); first | done | rfl | (simp only [List.length_drop, List.length_take]; rfl)) ?_; (with_reducible refine (strconv_Itoa_52.calls (rd l0 x8_1) t169 _ ?side1 A5.out).mono ?_); (case side1 => exact hG.below (by repeat (first | (with_reducible first | exact HB.out | apply below_alloc | apply pw_below_drewN | apply below_drew1) | exact HB.out))); rintro e w8 ⟨rfl, hb⟩; refine ⟨_, rfl, ?_⟩; have n0_ := Aside0.mk (below_step (by repeat (first | (with_reducible first | exact HB.out | apply below_alloc | apply pw_below_drewN | apply below_drew1) | exact HB.out)) hb); clear HB; have HB := n0_; clear n0_; (try clear hb); (try clear hb2); (try clear hk); (try clear hi)))
        go_roundg k1
        case measure => have := HK1.out; omega
        case rel => exact ⟨(x3_1 ++ ((⟨#[32]⟩ : ByteArray) ++ t169)), (wrap64 (x8_1 + 1)), (by first | rfl | (simp; done) | (simp [*]; done)), (by first | rfl | (simp; done) | (simp [*]; done)), H', ⟨by have := HK1.out; omega⟩, ⟨by repeat (first | (with_reducible first | exact HB.out | apply below_alloc | apply pw_below_drewN | apply below_drew1) | exact HB.out)⟩⟩
       ·rw [if_neg c7] at H
        exact absurd H (by simp)
      ·rw [if_neg c6] at H
       exact absurd H (by simp)
     ·rw [if_neg c4] at H
      exact absurd H (by simp)
    ·rw [if_neg c3] at H
     exact absurd H (by simp)
   ·rw [if_neg c2] at H
    have c2b0 : decide (x8_1 < (l0.length : Int)) = false := decide_eq_false c2
    clear c2
    obtain rfl := Option.some.inj H
    go_wp2
    go_ret
    exact ⟨by first | rfl | (simp [errW_none, errW_some] <;> rfl) | (simp [*, errW_none, errW_some] <;> rfl), by repeat (first | (with_reducible first | exact HB.out | apply below_alloc | apply pw_below_drewN | apply below_drew1) | exact HB.out)⟩

end Go.Proofs.YtcaiakbaklopmaaGreatDoor.Q

namespace Go.Proofs.YtcaiakbaklopmaaGreatDoor.Q
open Go.RowKit Go.Proofs.YtcaiakbaklopmaaGreatDoorW.PrintWords Go.Proofs.YtcaiakbaklopmaaGreatDoorW.PrintLast Go.Proofs.YtcaiakbaklopmaaGreatDoorW.PrintMore
attribute [local go_sem] max2_int min2_int max_two min_two max_three min_three max_four min_four   -- for this text's walks alone
set_option linter.unusedVariables false
set_option linter.unusedSimpArgs false

def script_Say.f (k : Nat) (a0_0 : Int) (a0_1 : Int) (a0_2 : Int) (a0_3 : Int) (a0_4 : Int) : Option (ByteArray) := (strconv_FormatUint_30.f (IntKind.u64.wrap (a0_1)) 10).bind fun t171 => (if a0_0 = 1 then (if t171.size + 6 ≤ 9223372036854775807 then ((script_text.f k (([a0_2, a0_3] : List Int))).bind fun t175 => (if t171.size + 6 + t175.size ≤ 9223372036854775807 then (some ((t171 ++ (⟨#[32, 116, 111, 107, 101, 110]⟩ : ByteArray)) ++ t175)) else (none))) else (none)) else (if a0_0 = 5 then (if t171.size + 8 ≤ 9223372036854775807 then ((script_text.f k (([a0_4] : List Int))).bind fun t179 => (if t171.size + 8 + t179.size ≤ 9223372036854775807 then (some ((t171 ++ (⟨#[32, 114, 101, 102, 117, 115, 101, 100]⟩ : ByteArray)) ++ t179)) else (none))) else (none)) else (if a0_0 = 2 then (if t171.size + 8 ≤ 9223372036854775807 then ((script_text.f k (([a0_2] : List Int))).bind fun t183 => (if t171.size + 8 + t183.size ≤ 9223372036854775807 then (some ((t171 ++ (⟨#[32, 115, 116, 111, 112, 112, 101, 100]⟩ : ByteArray)) ++ t183)) else (none))) else (none)) else (if a0_0 = 3 then (if t171.size + 7 ≤ 9223372036854775807 then ((script_text.f k (([a0_2] : List Int))).bind fun t183 => (if t171.size + 7 + t183.size ≤ 9223372036854775807 then (some ((t171 ++ (⟨#[32, 108, 101, 110, 103, 116, 104]⟩ : ByteArray)) ++ t183)) else (none))) else (none)) else (if a0_0 = 4 then (if t171.size + 10 ≤ 9223372036854775807 then ((script_text.f k (([a0_2] : List Int))).bind fun t183 => (if t171.size + 10 + t183.size ≤ 9223372036854775807 then (some ((t171 ++ (⟨#[32, 99, 97, 110, 99, 101, 108, 108, 101, 100]⟩ : ByteArray)) ++ t183)) else (none))) else (none)) else (none))))))
def script_Say.T8 : Bool × List (List Nat × List Nat) := (true, [([], []), ([], []), ([], []), ([2], [2]), ([1, 3], [1, 3]), ([0, 4], [0, 4]), ([], []), ([6], [6]), ([7], [7]), ([8], [8]), ([5, 9], [5, 9]), ([10, 9, 0, 1, 2, 3, 4, 5, 6, 7, 8, 9, 10], [10])])
def script_Say.B8 : List Nat := [0, 0, 0, 4, 14, 31, 0, 64, 192, 448, 1023, 2047]
theorem script_Say.tab8 : rtab .any (opsOf Tryz.f11 8) = script_Say.T8 := by kernel_rfl
theorem script_Say.bits8 : waitsOk script_Say.T8.2 script_Say.B8 = true := by kernel_rfl
set_option maxHeartbeats 8000000 in
set_option maxRecDepth 100000 in
theorem script_Say.calls (k : Nat) (a0_0 : Int) (a0_1 : Int) (a0_2 : Int) (a0_3 : Int) (a0_4 : Int) (r : ByteArray) (w : World) (hG : Gl w) (h : script_Say.f k a0_0 a0_1 a0_2 a0_3 a0_4 = some r) :
  Calls Tryz.prog 11 #[.agg #[.int .i64 a0_0, .int .u32 a0_1, .int .i64 a0_2, .int .i64 a0_3, .int .i64 a0_4]] w fun e w' => e = .returned (.string r) ∧ Below w.heap.size w w' := by
 have hu32 := Tryz.underlying32
 have HB := Aside0.mk (Below.refl w.heap.size w)
 have H : ((strconv_FormatUint_30.f (IntKind.u64.wrap (a0_1)) 10).bind fun t171 => (if a0_0 = 1 then (if t171.size + 6 ≤ 9223372036854775807 then ((script_text.f k (([a0_2, a0_3] : List Int))).bind fun t175 => (if t171.size + 6 + t175.size ≤ 9223372036854775807 then (some ((t171 ++ (⟨#[32, 116, 111, 107, 101, 110]⟩ : ByteArray)) ++ t175)) else (none))) else (none)) else (if a0_0 = 5 then (if t171.size + 8 ≤ 9223372036854775807 then ((script_text.f k (([a0_4] : List Int))).bind fun t179 => (if t171.size + 8 + t179.size ≤ 9223372036854775807 then (some ((t171 ++ (⟨#[32, 114, 101, 102, 117, 115, 101, 100]⟩ : ByteArray)) ++ t179)) else (none))) else (none)) else (if a0_0 = 2 then (if t171.size + 8 ≤ 9223372036854775807 then ((script_text.f k (([a0_2] : List Int))).bind fun t183 => (if t171.size + 8 + t183.size ≤ 9223372036854775807 then (some ((t171 ++ (⟨#[32, 115, 116, 111, 112, 112, 101, 100]⟩ : ByteArray)) ++ t183)) else (none))) else (none)) else (if a0_0 = 3 then (if t171.size + 7 ≤ 9223372036854775807 then ((script_text.f k (([a0_2] : List Int))).bind fun t183 => (if t171.size + 7 + t183.size ≤ 9223372036854775807 then (some ((t171 ++ (⟨#[32, 108, 101, 110, 103, 116, 104]⟩ : ByteArray)) ++ t183)) else (none))) else (none)) else (if a0_0 = 4 then (if t171.size + 10 ≤ 9223372036854775807 then ((script_text.f k (([a0_2] : List Int))).bind fun t183 => (if t171.size + 10 + t183.size ≤ 9223372036854775807 then (some ((t171 ++ (⟨#[32, 99, 97, 110, 99, 101, 108, 108, 101, 100]⟩ : ByteArray)) ++ t183)) else (none))) else (none)) else (none))))))) = some r := h
 clear h
 replace H := Option.bind_eq_some_iff.mp H
 obtain ⟨t171, A20, H⟩ := H
 replace H : (if a0_0 = 1 then (if t171.size + 6 ≤ 9223372036854775807 then ((script_text.f k (([a0_2, a0_3] : List Int))).bind fun t175 => (if t171.size + 6 + t175.size ≤ 9223372036854775807 then (some ((t171 ++ (⟨#[32, 116, 111, 107, 101, 110]⟩ : ByteArray)) ++ t175)) else (none))) else (none)) else (if a0_0 = 5 then (if t171.size + 8 ≤ 9223372036854775807 then ((script_text.f k (([a0_4] : List Int))).bind fun t179 => (if t171.size + 8 + t179.size ≤ 9223372036854775807 then (some ((t171 ++ (⟨#[32, 114, 101, 102, 117, 115, 101, 100]⟩ : ByteArray)) ++ t179)) else (none))) else (none)) else (if a0_0 = 2 then (if t171.size + 8 ≤ 9223372036854775807 then ((script_text.f k (([a0_2] : List Int))).bind fun t183 => (if t171.size + 8 + t183.size ≤ 9223372036854775807 then (some ((t171 ++ (⟨#[32, 115, 116, 111, 112, 112, 101, 100]⟩ : ByteArray)) ++ t183)) else (none))) else (none)) else (if a0_0 = 3 then (if t171.size + 7 ≤ 9223372036854775807 then ((script_text.f k (([a0_2] : List Int))).bind fun t183 => (if t171.size + 7 + t183.size ≤ 9223372036854775807 then (some ((t171 ++ (⟨#[32, 108, 101, 110, 103, 116, 104]⟩ : ByteArray)) ++ t183)) else (none))) else (none)) else (if a0_0 = 4 then (if t171.size + 10 ≤ 9223372036854775807 then ((script_text.f k (([a0_2] : List Int))).bind fun t183 => (if t171.size + 10 + t183.size ≤ 9223372036854775807 then (some ((t171 ++ (⟨#[32, 99, 97, 110, 99, 101, 108, 108, 101, 100]⟩ : ByteArray)) ++ t183)) else (none))) else (none)) else (none)))))) = some r := H
 have A2 := Aside0.mk A20
 clear A20
 by_cases c3 : a0_0 = 1
 ·rw [if_pos c3] at H
  have c3b0 : (a0_0 == 1) = true := beq_iff_eq.mpr c3
  have c3b1 : (a0_0 != 1) = false := bne_eq_false_iff_eq.mpr c3
  clear c3
  by_cases c4 : t171.size + 6 ≤ 9223372036854775807
  ·rw [if_pos c4] at H
   have c4b0 := eq_true c4
   have c4b1 : decide (t171.size + 6 ≤ 9223372036854775807) = true := decide_eq_true c4
   try have c4b2 : (9223372036854775807 < t171.size + 6) = False := eq_false (Nat.not_lt.2 c4)
   obtain ⟨y172, hy172⟩ : ∃ y_ : List Int, y_ = (([a0_2, a0_3] : List Int)) := ⟨_, rfl⟩
   replace H : ((script_text.f k y172).bind fun t175 => (if t171.size + 6 + t175.size ≤ 9223372036854775807 then (some ((t171 ++ (⟨#[32, 116, 111, 107, 101, 110]⟩ : ByteArray)) ++ t175)) else (none))) = some r := by first | (rw [hy172]; with_reducible exact H) | (have H2_ := (Option.bind_some _ _).symm.trans H; rw [hy172]; with_reducible exact H2_) | (have H2_ := (Option.bind_some _ _).symm.trans H; with_reducible exact H2_) | with_reducible exact H | (rw [hy172]; exact H) | exact H
   have Ny172 := Aside0.mk hy172
   clear hy172
   replace H := Option.bind_eq_some_iff.mp H
   obtain ⟨t175, A50, H⟩ := H
   replace H : (if t171.size + 6 + t175.size ≤ 9223372036854775807 then (some ((t171 ++ (⟨#[32, 116, 111, 107, 101, 110]⟩ : ByteArray)) ++ t175)) else (none)) = some r := H
   have A5 := Aside0.mk A50
   clear A50
   by_cases c6 : t171.size + 6 + t175.size ≤ 9223372036854775807
   ·rw [if_pos c6] at H
    have c6b0 := eq_true c6
    have c6b1 : decide (t171.size + 6 + t175.size ≤ 9223372036854775807) = true := decide_eq_true c6
    try have c6b2 : (9223372036854775807 < t171.size + 6 + t175.size) = False := eq_false (Nat.not_lt.2 c6)
    obtain rfl := Option.some.inj H
    go_enter Tryz.func11, Tryz.ntmps11
    go_wp2_with (first | ((with_reducible refine gate_dst (N := 1) rfl ?_); refine box_event ?hg (N := 1) ?hd (cs := #[.int .i64 a0_0, .int .u32 a0_1, .int .i64 a0_2, .int .i64 a0_3, .int .i64 a0_4]) (t := 32) ?hr ?_; (case hd => rfl); (case hg => rfl); (case hr => first | (go_simp; done) | (go_simp; rfl)); intro gb170 hg w7 hbox hb; have n0_ := Aside0.mk (below_step (by repeat (first | (with_reducible first | exact HB.out | apply below_alloc | apply pw_below_drewN | apply below_drew1) | exact HB.out)) hb); have n1_ := Aside0.mk (hbox); have n2_ := Aside0.mk ((by rw [hg]; exact (below_size (by repeat (first | (with_reducible first | exact HB.out | apply below_alloc | apply pw_below_drewN | apply below_drew1) | exact HB.out))) : w.heap.size ≤ gb170)); have n3_ := Aside0.mk ((by rw [hg]; exact (below_size (by repeat (first | (with_reducible first | exact HB.out | apply below_alloc | apply pw_below_drewN | apply below_drew1) | exact HB.out))) : w.heap.size ≤ gb170)); clear HB; have HB := n0_; have BK170 := n1_; have GW170 := n2_; have GE170 := n3_; clear n0_ n1_ n2_ n3_; clear hb hbox hg; have hcz8_0 : w7.cell? ⟨gb170, 0, none⟩ = some (.int .i64 a0_0) := (blk_cell BK170.out 0).trans rfl; have hcz8_1 : w7.cell? ⟨gb170, 1, none⟩ = some (.int .u32 a0_1) := (blk_cell BK170.out 1).trans rfl; have hcz8_2 : w7.cell? ⟨gb170, 2, none⟩ = some (.int .i64 a0_2) := (blk_cell BK170.out 2).trans rfl; have hcz8_3 : w7.cell? ⟨gb170, 3, none⟩ = some (.int .i64 a0_3) := (blk_cell BK170.out 3).trans rfl; have hcz8_4 : w7.cell? ⟨gb170, 4, none⟩ = some (.int .i64 a0_4) := (blk_cell BK170.out 4).trans rfl; have hfz8_0 := blk_frozen BK170.out 0; have hfz8_1 := blk_frozen BK170.out 1; have hfz8_2 := blk_frozen BK170.out 2; have hfz8_3 := blk_frozen BK170.out 3; have hfz8_4 := blk_frozen BK170.out 4) | ((with_reducible refine gate_callee (f := 30) rfl ?_); refine goesL_ (some 8) rfl rfl Tryz.func30 (by kernel_rfl) rfl #[.int .u64 (IntKind.u64.wrap (a0_1)), .int .i64 10] rfl (by (try simp only [List.map_toArray, List.map_cons, List.map_nil]); first | done | rfl | (simp only [List.length_drop, List.length_take]; rfl)) ?_; (with_reducible refine (strconv_FormatUint_30.calls (IntKind.u64.wrap (a0_1)) 10 t171 _ ?side1 A2.out).mono ?_); (case side1 => exact hG.below (by repeat (first | (with_reducible first | exact HB.out | apply below_alloc | apply pw_below_drewN | apply below_drew1 | refine below_set ?_ GE170.out) | exact HB.out))); rintro e w9 ⟨rfl, hb⟩; refine ⟨_, rfl, ?_⟩; have n0_ := Aside0.mk (blk_below (g := gb170) (o := .cells #[.int .i64 a0_0, .int .u32 a0_1, .int .i64 a0_2, .int .i64 a0_3, .int .i64 a0_4] 32 (0, 0)) (by (with_reducible repeat (first | refine blk_drewN ?_ _ | refine blk_drew ?_ | refine blk_alloc ?_ _)); exact BK170.out) hb); have n1_ := Aside0.mk (below_step (by repeat (first | (with_reducible first | exact HB.out | apply below_alloc | apply pw_below_drewN | apply below_drew1 | refine below_set ?_ GE170.out) | exact HB.out)) hb); clear BK170; clear HB; have BK170 := n0_; have HB := n1_; clear n0_ n1_; (try clear hb); (try clear hb2); (try clear hk); (try clear hi); have hcz10_0 : w9.cell? ⟨gb170, 0, none⟩ = some (.int .i64 a0_0) := (blk_cell BK170.out 0).trans rfl; have hcz10_1 : w9.cell? ⟨gb170, 1, none⟩ = some (.int .u32 a0_1) := (blk_cell BK170.out 1).trans rfl; have hcz10_2 : w9.cell? ⟨gb170, 2, none⟩ = some (.int .i64 a0_2) := (blk_cell BK170.out 2).trans rfl; have hcz10_3 : w9.cell? ⟨gb170, 3, none⟩ = some (.int .i64 a0_3) := (blk_cell BK170.out 3).trans rfl; have hcz10_4 : w9.cell? ⟨gb170, 4, none⟩ = some (.int .i64 a0_4) := (blk_cell BK170.out 4).trans rfl; have hfz10_0 := blk_frozen BK170.out 0; have hfz10_1 := blk_frozen BK170.out 1; have hfz10_2 := blk_frozen BK170.out 2; have hfz10_3 := blk_frozen BK170.out 3; have hfz10_4 := blk_frozen BK170.out 4) | ((with_reducible refine gate_dst (N := 19) rfl ?_); refine Kd.R_lit (Kd.int .i64) _ 3 ?hg (N := 19) ?hd (xs := ([a0_2, a0_3] : List Int)) (inner := [.int .i64 a0_2, .int .i64 a0_3]) (ok := fun _ => True) (okp := fun _ => True) ?hr ?hp (fun _ hk => hk) trivial (Below.refl _ _) (Nat.le_refl _) (by simp) ?_; (case hd => rfl); (case hg => rfl); (case hr => first | (go_simp; done) | (go_simp; rfl)); (case hp => exact (Reps.one (show Kd.M (Kd.int .i64) _ _ _ a0_2 [.int .i64 a0_2] from rfl) (Reps.one (show Kd.M (Kd.int .i64) _ _ _ a0_3 [.int .i64 a0_3] from rfl) (Reps.none _ _)))); intro v173 w11 ho12 hb hg_ hnew_; clear hg_ hnew_; (first | rw [← Ny172.out] at ho12 | (simp only [Int.reduceToNat] at ho12; rw [← Ny172.out] at ho12)); have n0_ := Aside0.mk (Kd.R_lower ho12 (below_size (by repeat (first | (with_reducible first | exact HB.out | apply below_alloc | apply pw_below_drewN | apply below_drew1 | refine below_set ?_ GE170.out) | exact HB.out)))); have n1_ := Aside0.mk (blk_below (g := gb170) (o := .cells #[.int .i64 a0_0, .int .u32 a0_1, .int .i64 a0_2, .int .i64 a0_3, .int .i64 a0_4] 32 (0, 0)) (by (with_reducible repeat (first | refine blk_drewN ?_ _ | refine blk_drew ?_ | refine blk_alloc ?_ _)); exact BK170.out) hb); have n2_ := Aside0.mk (below_step (by repeat (first | (with_reducible first | exact HB.out | apply below_alloc | apply pw_below_drewN | apply below_drew1 | refine below_set ?_ GE170.out) | exact HB.out)) hb); clear BK170; clear HB; have HO174 := n0_; have BK170 := n1_; have HB := n2_; clear n0_ n1_ n2_; clear hb ho12; obtain ⟨Ao13, co13, eo13⟩ := Kd.R_slice HO174.out; subst eo13) | ((with_reducible refine gate_callee (f := 31) rfl ?_); refine goesL_ (some 20) rfl rfl Tryz.func31 (by kernel_rfl) rfl #[.slice Ao13 y172.length co13] rfl (by (try simp only [List.map_toArray, List.map_cons, List.map_nil]); first | done | rfl | (simp only [List.length_drop, List.length_take]; rfl)) ?_; (with_reducible refine (script_text.calls k _ _ y172 t175 _ ?side1 ?side2 ?side3 A5.out).mono ?_); (case side1 => repeat (first | exact (Kd.R_reads' HO174.out).2.2 | (with_reducible refine Kd.C_alloc ?_ _) | (with_reducible refine Kd.C_drewN ?_ _) | (with_reducible refine Kd.C_drew ?_))); (case side2 => exact (Kd.R_reads' HO174.out).2.1); (case side3 => exact hG.below (by repeat (first | (with_reducible first | exact HB.out | apply below_alloc | apply pw_below_drewN | apply below_drew1 | refine below_set ?_ GE170.out) | exact HB.out))); rintro e w14 ⟨rfl, hb⟩; refine ⟨_, rfl, ?_⟩; have n0_ := Aside0.mk (Kd.R_below (by (with_reducible repeat (first | apply Kd.R_alloc | apply Kd.R_drewN | apply Kd.R_drew)); exact HO174.out) hb); have n1_ := Aside0.mk (blk_below (g := gb170) (o := .cells #[.int .i64 a0_0, .int .u32 a0_1, .int .i64 a0_2, .int .i64 a0_3, .int .i64 a0_4] 32 (0, 0)) (by (with_reducible repeat (first | refine blk_drewN ?_ _ | refine blk_drew ?_ | refine blk_alloc ?_ _)); exact BK170.out) hb); have n2_ := Aside0.mk (below_step (by repeat (first | (with_reducible first | exact HB.out | apply below_alloc | apply pw_below_drewN | apply below_drew1 | refine below_set ?_ GE170.out) | exact HB.out)) hb); clear HO174; clear BK170; clear HB; have HO174 := n0_; have BK170 := n1_; have HB := n2_; clear n0_ n1_ n2_; (try clear hb); (try clear hb2); (try clear hk); (try clear hi)))
    go_ret
    exact ⟨by first | rfl | (simp [errW_none, errW_some] <;> rfl) | (simp [*, errW_none, errW_some] <;> rfl), by repeat (first | (with_reducible first | exact HB.out | apply below_alloc | apply pw_below_drewN | apply below_drew1 | refine below_set ?_ GE170.out) | exact HB.out)⟩
   ·rw [if_neg c6] at H
    exact absurd H (by simp)
  ·rw [if_neg c4] at H
   exact absurd H (by simp)
 ·rw [if_neg c3] at H
  have c3b0 : (a0_0 == 1) = false := beq_eq_false_iff_ne.mpr c3
  have c3b1 : (a0_0 != 1) = true := bne_iff_ne.mpr c3
  by_cases c15 : a0_0 = 5
  ·rw [if_pos c15] at H
   have c15b0 : (a0_0 == 5) = true := beq_iff_eq.mpr c15
   have c15b1 : (a0_0 != 5) = false := bne_eq_false_iff_eq.mpr c15
   clear c15
   by_cases c16 : t171.size + 8 ≤ 9223372036854775807
   ·rw [if_pos c16] at H
    have c16b0 := eq_true c16
    have c16b1 : decide (t171.size + 8 ≤ 9223372036854775807) = true := decide_eq_true c16
    try have c16b2 : (9223372036854775807 < t171.size + 8) = False := eq_false (Nat.not_lt.2 c16)
    obtain ⟨y176, hy176⟩ : ∃ y_ : List Int, y_ = (([a0_4] : List Int)) := ⟨_, rfl⟩
    replace H : ((script_text.f k y176).bind fun t179 => (if t171.size + 8 + t179.size ≤ 9223372036854775807 then (some ((t171 ++ (⟨#[32, 114, 101, 102, 117, 115, 101, 100]⟩ : ByteArray)) ++ t179)) else (none))) = some r := by first | (rw [hy176]; with_reducible exact H) | (have H2_ := (Option.bind_some _ _).symm.trans H; rw [hy176]; with_reducible exact H2_) | (have H2_ := (Option.bind_some _ _).symm.trans H; with_reducible exact H2_) | with_reducible exact H | (rw [hy176]; exact H) | exact H
    have Ny176 := Aside0.mk hy176
    clear hy176
    replace H := Option.bind_eq_some_iff.mp H
    obtain ⟨t179, A170, H⟩ := H
    replace H : (if t171.size + 8 + t179.size ≤ 9223372036854775807 then (some ((t171 ++ (⟨#[32, 114, 101, 102, 117, 115, 101, 100]⟩ : ByteArray)) ++ t179)) else (none)) = some r := H
    have A17 := Aside0.mk A170
    clear A170
    by_cases c18 : t171.size + 8 + t179.size ≤ 9223372036854775807
    ·rw [if_pos c18] at H
     have c18b0 := eq_true c18
     have c18b1 : decide (t171.size + 8 + t179.size ≤ 9223372036854775807) = true := decide_eq_true c18
     try have c18b2 : (9223372036854775807 < t171.size + 8 + t179.size) = False := eq_false (Nat.not_lt.2 c18)
     obtain rfl := Option.some.inj H
     go_enter Tryz.func11, Tryz.ntmps11
     go_wp2_with (first | ((with_reducible refine gate_dst (N := 1) rfl ?_); refine box_event ?hg (N := 1) ?hd (cs := #[.int .i64 a0_0, .int .u32 a0_1, .int .i64 a0_2, .int .i64 a0_3, .int .i64 a0_4]) (t := 32) ?hr ?_; (case hd => rfl); (case hg => rfl); (case hr => first | (go_simp; done) | (go_simp; rfl)); intro gb170 hg w19 hbox hb; have n0_ := Aside0.mk (below_step (by repeat (first | (with_reducible first | exact HB.out | apply below_alloc | apply pw_below_drewN | apply below_drew1) | exact HB.out)) hb); have n1_ := Aside0.mk (hbox); have n2_ := Aside0.mk ((by rw [hg]; exact (below_size (by repeat (first | (with_reducible first | exact HB.out | apply below_alloc | apply pw_below_drewN | apply below_drew1) | exact HB.out))) : w.heap.size ≤ gb170)); have n3_ := Aside0.mk ((by rw [hg]; exact (below_size (by repeat (first | (with_reducible first | exact HB.out | apply below_alloc | apply pw_below_drewN | apply below_drew1) | exact HB.out))) : w.heap.size ≤ gb170)); clear HB; have HB := n0_; have BK170 := n1_; have GW170 := n2_; have GE170 := n3_; clear n0_ n1_ n2_ n3_; clear hb hbox hg; have hcz20_0 : w19.cell? ⟨gb170, 0, none⟩ = some (.int .i64 a0_0) := (blk_cell BK170.out 0).trans rfl; have hcz20_1 : w19.cell? ⟨gb170, 1, none⟩ = some (.int .u32 a0_1) := (blk_cell BK170.out 1).trans rfl; have hcz20_2 : w19.cell? ⟨gb170, 2, none⟩ = some (.int .i64 a0_2) := (blk_cell BK170.out 2).trans rfl; have hcz20_3 : w19.cell? ⟨gb170, 3, none⟩ = some (.int .i64 a0_3) := (blk_cell BK170.out 3).trans rfl; have hcz20_4 : w19.cell? ⟨gb170, 4, none⟩ = some (.int .i64 a0_4) := (blk_cell BK170.out 4).trans rfl; have hfz20_0 := blk_frozen BK170.out 0; have hfz20_1 := blk_frozen BK170.out 1; have hfz20_2 := blk_frozen BK170.out 2; have hfz20_3 := blk_frozen BK170.out 3; have hfz20_4 := blk_frozen BK170.out 4) | ((with_reducible refine gate_callee (f := 30) rfl ?_); refine goesL_ (some 8) rfl rfl Tryz.func30 (by kernel_rfl) rfl #[.int .u64 (IntKind.u64.wrap (a0_1)), .int .i64 10] rfl (by (try simp only [List.map_toArray, List.map_cons, List.map_nil]); first | done | rfl | (simp only [List.length_drop, List.length_take]; rfl)) ?_; (with_reducible refine (strconv_FormatUint_30.calls (IntKind.u64.wrap (a0_1)) 10 t171 _ ?side1 A2.out).mono ?_); (case side1 => exact hG.below (by repeat (first | (with_reducible first | exact HB.out | apply below_alloc | apply pw_below_drewN | apply below_drew1 | refine below_set ?_ GE170.out) | exact HB.out))); rintro e w21 ⟨rfl, hb⟩; refine ⟨_, rfl, ?_⟩; have n0_ := Aside0.mk (blk_below (g := gb170) (o := .cells #[.int .i64 a0_0, .int .u32 a0_1, .int .i64 a0_2, .int .i64 a0_3, .int .i64 a0_4] 32 (0, 0)) (by (with_reducible repeat (first | refine blk_drewN ?_ _ | refine blk_drew ?_ | refine blk_alloc ?_ _)); exact BK170.out) hb); have n1_ := Aside0.mk (below_step (by repeat (first | (with_reducible first | exact HB.out | apply below_alloc | apply pw_below_drewN | apply below_drew1 | refine below_set ?_ GE170.out) | exact HB.out)) hb); clear BK170; clear HB; have BK170 := n0_; have HB := n1_; clear n0_ n1_; (try clear hb); (try clear hb2); (try clear hk); (try clear hi); have hcz22_0 : w21.cell? ⟨gb170, 0, none⟩ = some (.int .i64 a0_0) := (blk_cell BK170.out 0).trans rfl; have hcz22_1 : w21.cell? ⟨gb170, 1, none⟩ = some (.int .u32 a0_1) := (blk_cell BK170.out 1).trans rfl; have hcz22_2 : w21.cell? ⟨gb170, 2, none⟩ = some (.int .i64 a0_2) := (blk_cell BK170.out 2).trans rfl; have hcz22_3 : w21.cell? ⟨gb170, 3, none⟩ = some (.int .i64 a0_3) := (blk_cell BK170.out 3).trans rfl; have hcz22_4 : w21.cell? ⟨gb170, 4, none⟩ = some (.int .i64 a0_4) := (blk_cell BK170.out 4).trans rfl; have hfz22_0 := blk_frozen BK170.out 0; have hfz22_1 := blk_frozen BK170.out 1; have hfz22_2 := blk_frozen BK170.out 2; have hfz22_3 := blk_frozen BK170.out 3; have hfz22_4 := blk_frozen BK170.out 4) | ((with_reducible refine gate_dst (N := 28) rfl ?_); refine Kd.R_lit (Kd.int .i64) _ 3 ?hg (N := 28) ?hd (xs := ([a0_4] : List Int)) (inner := [.int .i64 a0_4]) (ok := fun _ => True) (okp := fun _ => True) ?hr ?hp (fun _ hk => hk) trivial (Below.refl _ _) (Nat.le_refl _) (by simp) ?_; (case hd => rfl); (case hg => rfl); (case hr => first | (go_simp; done) | (go_simp; rfl)); (case hp => exact (Reps.one (show Kd.M (Kd.int .i64) _ _ _ a0_4 [.int .i64 a0_4] from rfl) (Reps.none _ _))); intro v177 w23 ho24 hb hg_ hnew_; clear hg_ hnew_; (first | rw [← Ny176.out] at ho24 | (simp only [Int.reduceToNat] at ho24; rw [← Ny176.out] at ho24)); have n0_ := Aside0.mk (Kd.R_lower ho24 (below_size (by repeat (first | (with_reducible first | exact HB.out | apply below_alloc | apply pw_below_drewN | apply below_drew1 | refine below_set ?_ GE170.out) | exact HB.out)))); have n1_ := Aside0.mk (blk_below (g := gb170) (o := .cells #[.int .i64 a0_0, .int .u32 a0_1, .int .i64 a0_2, .int .i64 a0_3, .int .i64 a0_4] 32 (0, 0)) (by (with_reducible repeat (first | refine blk_drewN ?_ _ | refine blk_drew ?_ | refine blk_alloc ?_ _)); exact BK170.out) hb); have n2_ := Aside0.mk (below_step (by repeat (first | (with_reducible first | exact HB.out | apply below_alloc | apply pw_below_drewN | apply below_drew1 | refine below_set ?_ GE170.out) | exact HB.out)) hb); clear BK170; clear HB; have HO178 := n0_; have BK170 := n1_; have HB := n2_; clear n0_ n1_ n2_; clear hb ho24; obtain ⟨Ao25, co25, eo25⟩ := Kd.R_slice HO178.out; subst eo25) | ((with_reducible refine gate_callee (f := 31) rfl ?_); refine goesL_ (some 29) rfl rfl Tryz.func31 (by kernel_rfl) rfl #[.slice Ao25 y176.length co25] rfl (by (try simp only [List.map_toArray, List.map_cons, List.map_nil]); first | done | rfl | (simp only [List.length_drop, List.length_take]; rfl)) ?_; (with_reducible refine (script_text.calls k _ _ y176 t179 _ ?side1 ?side2 ?side3 A17.out).mono ?_); (case side1 => repeat (first | exact (Kd.R_reads' HO178.out).2.2 | (with_reducible refine Kd.C_alloc ?_ _) | (with_reducible refine Kd.C_drewN ?_ _) | (with_reducible refine Kd.C_drew ?_))); (case side2 => exact (Kd.R_reads' HO178.out).2.1); (case side3 => exact hG.below (by repeat (first | (with_reducible first | exact HB.out | apply below_alloc | apply pw_below_drewN | apply below_drew1 | refine below_set ?_ GE170.out) | exact HB.out))); rintro e w26 ⟨rfl, hb⟩; refine ⟨_, rfl, ?_⟩; have n0_ := Aside0.mk (Kd.R_below (by (with_reducible repeat (first | apply Kd.R_alloc | apply Kd.R_drewN | apply Kd.R_drew)); exact HO178.out) hb); have n1_ := Aside0.mk (blk_below (g := gb170) (o := .cells #[.int .i64 a0_0, .int .u32 a0_1, .int .i64 a0_2, .int .i64 a0_3, .int .i64 a0_4] 32 (0, 0)) (by (with_reducible repeat (first | refine blk_drewN ?_ _ | refine blk_drew ?_ | refine blk_alloc ?_ _)); exact BK170.out) hb); have n2_ := Aside0.mk (below_step (by repeat (first | (with_reducible first | exact HB.out | apply below_alloc | apply pw_below_drewN | apply below_drew1 | refine below_set ?_ GE170.out) | exact HB.out)) hb); clear HO178; clear BK170; clear HB; have HO178 := n0_; have BK170 := n1_; have HB := n2_; clear n0_ n1_ n2_; (try clear hb); (try clear hb2); (try clear hk); (try clear hi)))
     go_ret
     exact ⟨by first | rfl | (simp [errW_none, errW_some] <;> rfl) | (simp [*, errW_none, errW_some] <;> rfl), by repeat (first | (with_reducible first | exact HB.out | apply below_alloc | apply pw_below_drewN | apply below_drew1 | refine below_set ?_ GE170.out) | exact HB.out)⟩
    ·rw [if_neg c18] at H
     exact absurd H (by simp)
   ·rw [if_neg c16] at H
    exact absurd H (by simp)
  ·rw [if_neg c15] at H
   have c15b0 : (a0_0 == 5) = false := beq_eq_false_iff_ne.mpr c15
   have c15b1 : (a0_0 != 5) = true := bne_iff_ne.mpr c15
   by_cases d2 : a0_0 = 2
   ·rw [if_pos d2] at H
    subst d2
    by_cases c27 : t171.size + 8 ≤ 9223372036854775807
    ·rw [if_pos c27] at H
     have c27b0 := eq_true c27
     have c27b1 : decide (t171.size + 8 ≤ 9223372036854775807) = true := decide_eq_true c27
     try have c27b2 : (9223372036854775807 < t171.size + 8) = False := eq_false (Nat.not_lt.2 c27)
     obtain ⟨y180, hy180⟩ : ∃ y_ : List Int, y_ = (([a0_2] : List Int)) := ⟨_, rfl⟩
     replace H : ((script_text.f k y180).bind fun t183 => (if t171.size + 8 + t183.size ≤ 9223372036854775807 then (some ((t171 ++ (⟨#[32, 115, 116, 111, 112, 112, 101, 100]⟩ : ByteArray)) ++ t183)) else (none))) = some r := by first | (rw [hy180]; with_reducible exact H) | (have H2_ := (Option.bind_some _ _).symm.trans H; rw [hy180]; with_reducible exact H2_) | (have H2_ := (Option.bind_some _ _).symm.trans H; with_reducible exact H2_) | with_reducible exact H | (rw [hy180]; exact H) | exact H
     have Ny180 := Aside0.mk hy180
     clear hy180
     replace H := Option.bind_eq_some_iff.mp H
     obtain ⟨t183, A280, H⟩ := H
     replace H : (if t171.size + 8 + t183.size ≤ 9223372036854775807 then (some ((t171 ++ (⟨#[32, 115, 116, 111, 112, 112, 101, 100]⟩ : ByteArray)) ++ t183)) else (none)) = some r := H
     have A28 := Aside0.mk A280
     clear A280
     by_cases c29 : t171.size + 8 + t183.size ≤ 9223372036854775807
     ·rw [if_pos c29] at H
      have c29b0 := eq_true c29
      have c29b1 : decide (t171.size + 8 + t183.size ≤ 9223372036854775807) = true := decide_eq_true c29
      try have c29b2 : (9223372036854775807 < t171.size + 8 + t183.size) = False := eq_false (Nat.not_lt.2 c29)
      obtain rfl := Option.some.inj H
      go_enter Tryz.func11, Tryz.ntmps11
      try go_wp2_with (first | ((with_reducible refine gate_dst (N := 31) rfl ?_); refine SayE.map_event rfl rfl rfl BK170.out HB.out ?_; intro gm w32 b1 b2 b3; have n0_ := Aside0.mk b1; have n1_ := Aside0.mk b2; have n2_ := Aside0.mk b3; clear BK170 HB b1 b2 b3; have BK170 := n0_; have HB := n1_; have BM := n2_; clear n0_ n1_ n2_) | ((with_reducible refine gate_dst (N := 1) rfl ?_); refine box_event ?hg (N := 1) ?hd (cs := #[.int .i64 2, .int .u32 a0_1, .int .i64 a0_2, .int .i64 a0_3, .int .i64 a0_4]) (t := 32) ?hr ?_; (case hd => rfl); (case hg => rfl); (case hr => first | (go_simp; done) | (go_simp; rfl)); intro gb170 hg w30 hbox hb; have n0_ := Aside0.mk (below_step (by repeat (first | (with_reducible first | exact HB.out | apply below_alloc | apply pw_below_drewN | apply below_drew1) | exact HB.out)) hb); have n1_ := Aside0.mk (hbox); have n2_ := Aside0.mk ((by rw [hg]; exact (below_size (by repeat (first | (with_reducible first | exact HB.out | apply below_alloc | apply pw_below_drewN | apply below_drew1) | exact HB.out))) : w.heap.size ≤ gb170)); have n3_ := Aside0.mk ((by rw [hg]; exact (below_size (by repeat (first | (with_reducible first | exact HB.out | apply below_alloc | apply pw_below_drewN | apply below_drew1) | exact HB.out))) : w.heap.size ≤ gb170)); clear HB; have HB := n0_; have BK170 := n1_; have GW170 := n2_; have GE170 := n3_; clear n0_ n1_ n2_ n3_; clear hb hbox hg; have hcz31_0 : w30.cell? ⟨gb170, 0, none⟩ = some (.int .i64 2) := (blk_cell BK170.out 0).trans rfl; have hcz31_1 : w30.cell? ⟨gb170, 1, none⟩ = some (.int .u32 a0_1) := (blk_cell BK170.out 1).trans rfl; have hcz31_2 : w30.cell? ⟨gb170, 2, none⟩ = some (.int .i64 a0_2) := (blk_cell BK170.out 2).trans rfl; have hcz31_3 : w30.cell? ⟨gb170, 3, none⟩ = some (.int .i64 a0_3) := (blk_cell BK170.out 3).trans rfl; have hcz31_4 : w30.cell? ⟨gb170, 4, none⟩ = some (.int .i64 a0_4) := (blk_cell BK170.out 4).trans rfl; have hfz31_0 := blk_frozen BK170.out 0; have hfz31_1 := blk_frozen BK170.out 1; have hfz31_2 := blk_frozen BK170.out 2; have hfz31_3 := blk_frozen BK170.out 3; have hfz31_4 := blk_frozen BK170.out 4) | ((with_reducible refine gate_callee (f := 30) rfl ?_); refine goesL_ (some 8) rfl rfl Tryz.func30 (by kernel_rfl) rfl #[.int .u64 (IntKind.u64.wrap (a0_1)), .int .i64 10] rfl (by (try simp only [List.map_toArray, List.map_cons, List.map_nil]); first | done | rfl | (simp only [List.length_drop, List.length_take]; rfl)) ?_; (with_reducible refine (strconv_FormatUint_30.calls (IntKind.u64.wrap (a0_1)) 10 t171 _ ?side1 A2.out).mono ?_); (case side1 => exact hG.below (by repeat (first | (with_reducible first | exact HB.out | apply below_alloc | apply pw_below_drewN | apply below_drew1 | refine below_set ?_ GE170.out) | exact HB.out))); rintro e w32 ⟨rfl, hb⟩; refine ⟨_, rfl, ?_⟩; have n0_ := Aside0.mk (blk_below (g := gb170) (o := .cells #[.int .i64 2, .int .u32 a0_1, .int .i64 a0_2, .int .i64 a0_3, .int .i64 a0_4] 32 (0, 0)) (by (with_reducible repeat (first | refine blk_drewN ?_ _ | refine blk_drew ?_ | refine blk_alloc ?_ _)); exact BK170.out) hb); have n1_ := Aside0.mk (below_step (by repeat (first | (with_reducible first | exact HB.out | apply below_alloc | apply pw_below_drewN | apply below_drew1 | refine below_set ?_ GE170.out) | exact HB.out)) hb); clear BK170; clear HB; have BK170 := n0_; have HB := n1_; clear n0_ n1_; (try clear hb); (try clear hb2); (try clear hk); (try clear hi); have hcz33_0 : w32.cell? ⟨gb170, 0, none⟩ = some (.int .i64 2) := (blk_cell BK170.out 0).trans rfl; have hcz33_1 : w32.cell? ⟨gb170, 1, none⟩ = some (.int .u32 a0_1) := (blk_cell BK170.out 1).trans rfl; have hcz33_2 : w32.cell? ⟨gb170, 2, none⟩ = some (.int .i64 a0_2) := (blk_cell BK170.out 2).trans rfl; have hcz33_3 : w32.cell? ⟨gb170, 3, none⟩ = some (.int .i64 a0_3) := (blk_cell BK170.out 3).trans rfl; have hcz33_4 : w32.cell? ⟨gb170, 4, none⟩ = some (.int .i64 a0_4) := (blk_cell BK170.out 4).trans rfl; have hfz33_0 := blk_frozen BK170.out 0; have hfz33_1 := blk_frozen BK170.out 1; have hfz33_2 := blk_frozen BK170.out 2; have hfz33_3 := blk_frozen BK170.out 3; have hfz33_4 := blk_frozen BK170.out 4) | (refine SayE.ins_event rfl rfl rfl Tryz.underlying94 Tryz.underlying3 rfl BM.out rfl BK170.out HB.out ?_; intro w32 b1 b2 b3; have n0_ := Aside0.mk b1; have n1_ := Aside0.mk b2; have n2_ := Aside0.mk b3; clear BK170 HB BM b1 b2 b3; have BK170 := n0_; have HB := n1_; have BM := n2_; clear n0_ n1_ n2_))
      have n0_ : Aside0 (w32.heap[gm]? = some (.map SayE.sayMap 3)) := ⟨BM.out.1⟩
      clear BM
      have BM := n0_
      clear n0_
      have nM_ := Aside0.mk (blk_drew BM.out)
      clear BM
      have BM := nM_
      clear nM_
      have n0_ := Aside0.mk (blk_drew BK170.out)
      have n1_ := Aside0.mk (below_drew1 HB.out)
      clear BK170
      clear HB
      have BK170 := n0_
      have HB := n1_
      clear n0_ n1_
      refine start_ (n := 12) (S := fun w' => w'.cell? ⟨gb170, 0, none⟩ = some (.int .i64 2) ∧ w'.cell? ⟨gb170, 1, none⟩ = some (.int .u32 a0_1) ∧ w'.cell? ⟨gb170, 2, none⟩ = some (.int .i64 a0_2) ∧ w'.cell? ⟨gb170, 3, none⟩ = some (.int .i64 a0_3) ∧ w'.cell? ⟨gb170, 4, none⟩ = some (.int .i64 a0_4) ∧ w'.heap[gm]? = some (.map SayE.sayMap 3)) (ds := []) #[false, false, false, false, false, false, false, false, false, false, false, false] (by kernel_rfl) rfl rfl ⟨(blk_cell BK170.out 0).trans rfl, (blk_cell BK170.out 1).trans rfl, (blk_cell BK170.out 2).trans rfl, (blk_cell BK170.out 3).trans rfl, (blk_cell BK170.out 4).trans rfl, BM.out⟩ (fun hHeld => ?_); refine with_tabW script_Say.tab8 script_Say.bits8 (fun HT_ HW_ => ?_)
      generalize w32.drew = w34 at BK170 HB BM hHeld ⊢
      refine pure_ (i := 0) (N := some 33) (v := ?_) (a' := ?_) #[true, false, false, false, false, false, false, false, false, false, false, false] rfl rfl (any_of HT_.out (by kernel_rfl)) (fun _ _ _ h => h) (Or.inl ⟨by rfl, ?_⟩) ?_ ?_
      rotate_left
      ·intro w'
       go_simp
       with_reducible rfl
      rotate_left
      ·simp only [Act.put, List.setIfInBounds_toArray, List.set_cons_zero, List.set_cons_succ, i64_w, i32_w]
       rfl
      refine pure_ (i := 1) (N := some 34) (v := ?_) (a' := ?_) #[true, true, false, false, false, false, false, false, false, false, false, false] rfl rfl (any_of HT_.out (by kernel_rfl)) (fun _ _ _ h => h) (Or.inl ⟨by rfl, ?_⟩) ?_ ?_
      rotate_left
      ·intro w'
       go_simp
       with_reducible rfl
      rotate_left
      ·simp only [Act.put, List.setIfInBounds_toArray, List.set_cons_zero, List.set_cons_succ, i64_w, i32_w]
       rfl
      refine pure_ (i := 2) (N := some 35) (v := ?_) (a' := ?_) #[true, true, true, false, false, false, false, false, false, false, false, false] rfl rfl (any_of HT_.out (by kernel_rfl)) (fun _ _ _ h => h) (Or.inl ⟨by rfl, ?_⟩) ?_ ?_
      rotate_left
      ·intro w'
       go_simp
       with_reducible rfl
      rotate_left
      ·simp only [Act.put, List.setIfInBounds_toArray, List.set_cons_zero, List.set_cons_succ, i64_w, i32_w]
       rfl
      refine pure_ (i := 6) (N := some 39) (v := ?_) (a' := ?_) #[true, true, true, false, false, false, true, false, false, false, false, false] rfl rfl (any_of HT_.out (by kernel_rfl)) (fun _ _ _ h => h) (Or.inl ⟨by rfl, ?_⟩) ?_ ?_
      rotate_left
      ·intro w'
       go_simp
       with_reducible rfl
      rotate_left
      ·simp only [Act.put, List.setIfInBounds_toArray, List.set_cons_zero, List.set_cons_succ, i64_w, i32_w]
       rfl
      refine take_ (i := 3) (N := some 36) (v := ?_) (a' := ?_) #[true, true, true, true, false, false, true, false, false, false, false, false] rfl rfl (take_ofW HT_.out HW_.out (by kernel_rfl)) (fun _ _ _ h => h) (Or.inl ⟨by rfl, ?_⟩) hHeld ?_ ?_
      rotate_left
      ·rintro w' ⟨s0, s1, s2, s3, s4, s5⟩
       go_simp
       with_reducible rfl
      rotate_left
      ·simp only [Act.put, List.setIfInBounds_toArray, List.set_cons_zero, List.set_cons_succ, i64_w, i32_w]
       rfl
      refine take_ (i := 4) (N := some 37) (v := ?_) (a' := ?_) #[true, true, true, true, true, false, true, false, false, false, false, false] rfl rfl (take_ofW HT_.out HW_.out (by kernel_rfl)) (fun _ _ _ h => h) (Or.inl ⟨by rfl, ?_⟩) hHeld ?_ ?_
      rotate_left
      ·rintro w' ⟨s0, s1, s2, s3, s4, s5⟩
       refine (SayE.look_run rfl Tryz.underlying94 Tryz.underlying3 rfl rfl s5 SayE.find2).trans ?_
       with_reducible rfl
      rotate_left
      ·simp only [Act.put, List.setIfInBounds_toArray, List.set_cons_zero, List.set_cons_succ, i64_w, i32_w]
       rfl
      refine pure_ (i := 5) (N := some 38) (v := ?_) (a' := ?_) #[true, true, true, true, true, true, true, false, false, false, false, false] rfl rfl (any_of HT_.out (by kernel_rfl)) (fun _ _ _ h => h) (Or.inl ⟨by rfl, ?_⟩) ?_ ?_
      rotate_left
      ·intro w'
       go_simp
       with_reducible rfl
      rotate_left
      ·simp only [Act.put, List.setIfInBounds_toArray, List.set_cons_zero, List.set_cons_succ, i64_w, i32_w]
       rfl
      refine take_ (i := 7) (N := some 40) (v := ?_) (a' := ?_) #[true, true, true, true, true, true, true, true, false, false, false, false] rfl rfl (take_ofW HT_.out HW_.out (by kernel_rfl)) (fun _ _ _ h => h) (Or.inl ⟨by rfl, ?_⟩) hHeld ?_ ?_
      rotate_left
      ·rintro w' ⟨s0, s1, s2, s3, s4, s5⟩
       go_simp
       with_reducible rfl
      rotate_left
      ·simp only [Act.put, List.setIfInBounds_toArray, List.set_cons_zero, List.set_cons_succ, i64_w, i32_w]
       rfl
      refine one_ (i := 8) (N := some 41) #[true, true, true, true, true, true, true, true, true, false, false, false] rfl rfl (one_of HT_.out (by kernel_rfl)) (by decide) (fun K hK => ?_)
      refine Kd.R_lit_step (Kd.int .i64) _ 3 ?hg (N := 41) ?hd (xs := ([a0_2] : List Int)) (inner := [.int .i64 a0_2]) (ok := fun _ => True) (okp := fun _ => True) ?hr ?hp (fun _ hk => hk) trivial (Below.refl _ _) (Nat.le_refl _) (by simp) ?_; (case hd => rfl); (case hg => rfl); (case hr => first | (go_simp; done) | (go_simp; rfl)); (case hp => exact (Reps.one (show Kd.M (Kd.int .i64) _ _ _ a0_2 [.int .i64 a0_2] from rfl) (Reps.none _ _)))
      intro v181 w35 ho36 hb hg_ hnew_
      clear hg_ hnew_
      (first | rw [← Ny180.out] at ho36 | (simp only [Int.reduceToNat] at ho36; rw [← Ny180.out] at ho36))
      have n0_ := Aside0.mk (Kd.R_lower ho36 (below_size (by repeat (first | (with_reducible first | exact HB.out | apply below_alloc | apply pw_below_drewN | apply below_drew1 | refine below_set ?_ GE170.out) | exact HB.out))))
      have n1_ := Aside0.mk (blk_below (g := gb170) (o := .cells #[.int .i64 2, .int .u32 a0_1, .int .i64 a0_2, .int .i64 a0_3, .int .i64 a0_4] 32 (0, 0)) (by (with_reducible repeat (first | refine blk_drewN ?_ _ | refine blk_drew ?_ | refine blk_alloc ?_ _)); exact BK170.out) hb)
      have nM_ := Aside0.mk (blk_below (g := gm) (o := .map SayE.sayMap 3) (by (with_reducible repeat (first | refine blk_drewN ?_ _ | refine blk_drew ?_ | refine blk_alloc ?_ _)); exact BM.out) hb)
      clear BM
      have BM := nM_
      clear nM_
      have n2_ := Aside0.mk (below_step (by repeat (first | (with_reducible first | exact HB.out | apply below_alloc | apply pw_below_drewN | apply below_drew1 | refine below_set ?_ GE170.out) | exact HB.out)) hb)
      clear BK170
      clear HB
      have HO182 := n0_
      have BK170 := n1_
      have HB := n2_
      clear n0_ n1_ n2_
      clear hb ho36
      obtain ⟨Ao37, co37, eo37⟩ := Kd.R_slice HO182.out
      (first | subst eo37 | (injection eo37 with f1_ f2_ f3_; have f4_ := f1_.symm; have f5_ := f3_.symm; clear f1_ f2_ f3_; subst f4_; subst f5_))
      refine hK.out _ _ ⟨(blk_cell BK170.out 0).trans rfl, (blk_cell BK170.out 1).trans rfl, (blk_cell BK170.out 2).trans rfl, (blk_cell BK170.out 3).trans rfl, (blk_cell BK170.out 4).trans rfl, BM.out⟩ (fun hHeld => ?_)
      clear hK K
      refine norm_ (a' := ?_) ?_ ?_
      rotate_left
      ·show Act.put _ (some 41) _ = _
       simp only [Act.put, List.setIfInBounds_toArray, List.set_cons_zero, List.set_cons_succ, i64_w, i32_w]
       rfl
      refine one_ (i := 9) (N := some 42) #[true, true, true, true, true, true, true, true, true, true, false, false] rfl rfl (one_of HT_.out (by kernel_rfl)) (by decide) (fun K hK => ?_)
      refine goes_ Tryz.func31 (by kernel_rfl) rfl #[.slice Ao37 y180.length co37] (by rfl) rfl rfl (by (try simp only [List.map_toArray, List.map_cons, List.map_nil]); first | done | rfl | (simp only [List.length_drop, List.length_take]; rfl)) ?_
      with_reducible refine (script_text.calls k _ _ y180 t183 _ ?side1 ?side2 ?side3 A28.out).mono ?_
      (case side1 => repeat (first | exact (Kd.R_reads' HO182.out).2.2 | (with_reducible refine Kd.C_alloc ?_ _) | (with_reducible refine Kd.C_drewN ?_ _) | (with_reducible refine Kd.C_drew ?_)))
      (case side2 => exact (Kd.R_reads' HO182.out).2.1)
      (case side3 => exact hG.below (by repeat (first | (with_reducible first | exact HB.out | apply below_alloc | apply pw_below_drewN | apply below_drew1 | refine below_set ?_ GE170.out) | exact HB.out)))
      rintro e w38 ⟨rfl, hb⟩
      refine ⟨_, rfl, ?_⟩
      have n0_ := Aside0.mk (Kd.R_below (by (with_reducible repeat (first | apply Kd.R_alloc | apply Kd.R_drewN | apply Kd.R_drew)); exact HO182.out) hb)
      have n1_ := Aside0.mk (blk_below (g := gb170) (o := .cells #[.int .i64 2, .int .u32 a0_1, .int .i64 a0_2, .int .i64 a0_3, .int .i64 a0_4] 32 (0, 0)) (by (with_reducible repeat (first | refine blk_drewN ?_ _ | refine blk_drew ?_ | refine blk_alloc ?_ _)); exact BK170.out) hb)
      have nM_ := Aside0.mk (blk_below (g := gm) (o := .map SayE.sayMap 3) (by (with_reducible repeat (first | refine blk_drewN ?_ _ | refine blk_drew ?_ | refine blk_alloc ?_ _)); exact BM.out) hb)
      clear BM
      have BM := nM_
      clear nM_
      have n2_ := Aside0.mk (below_step (by repeat (first | (with_reducible first | exact HB.out | apply below_alloc | apply pw_below_drewN | apply below_drew1 | refine below_set ?_ GE170.out) | exact HB.out)) hb)
      clear HO182
      clear BK170
      clear HB
      have HO182 := n0_
      have BK170 := n1_
      have HB := n2_
      clear n0_ n1_ n2_
      (try clear hb)
      (try clear hb2)
      (try clear hk)
      (try clear hi)
      refine hK.out _ _ ⟨(blk_cell BK170.out 0).trans rfl, (blk_cell BK170.out 1).trans rfl, (blk_cell BK170.out 2).trans rfl, (blk_cell BK170.out 3).trans rfl, (blk_cell BK170.out 4).trans rfl, BM.out⟩ (fun hHeld => ?_)
      clear hK K
      refine norm_ (a' := ?_) ?_ ?_
      rotate_left
      ·show Act.put _ (some 42) _ = _
       simp only [Act.put, List.setIfInBounds_toArray, List.set_cons_zero, List.set_cons_succ, i64_w, i32_w]
       rfl
      refine pure_ (i := 10) (N := some 43) (v := ?_) (a' := ?_) #[true, true, true, true, true, true, true, true, true, true, true, false] rfl rfl (any_of HT_.out (by kernel_rfl)) (fun _ _ _ h => h) (Or.inl ⟨by rfl, ?_⟩) ?_ ?_
      rotate_left
      ·intro w'
       go_simp
       with_reducible rfl
      rotate_left
      ·simp only [Act.put, List.setIfInBounds_toArray, List.set_cons_zero, List.set_cons_succ, i64_w, i32_w]
       rfl
      refine pure_ (i := 11) (N := some 2) (v := ?_) (a' := ?_) #[true, true, true, true, true, true, true, true, true, true, true, true] rfl rfl (any_of HT_.out (by kernel_rfl)) (fun _ _ _ h => h) (Or.inl ⟨by rfl, ?_⟩) ?_ ?_
      rotate_left
      ·intro w'
       go_simp
       with_reducible rfl
      rotate_left
      ·simp only [Act.put, List.setIfInBounds_toArray, List.set_cons_zero, List.set_cons_succ, i64_w, i32_w]
       rfl
      refine done_ (done_of HT_.out (by kernel_rfl)) ?_
      try go_wp2
      go_ret
      exact ⟨by first | rfl | (simp [errW_none, errW_some] <;> rfl) | (simp [*, errW_none, errW_some] <;> rfl), by repeat (first | (with_reducible first | exact HB.out | apply below_alloc | apply pw_below_drewN | apply below_drew1 | refine below_set ?_ GE170.out) | exact HB.out)⟩
     ·rw [if_neg c29] at H
      exact absurd H (by simp)
    ·rw [if_neg c27] at H
     exact absurd H (by simp)
   ·rw [if_neg d2] at H
    by_cases d3 : a0_0 = 3
    ·rw [if_pos d3] at H
     subst d3
     by_cases c27 : t171.size + 7 ≤ 9223372036854775807
     ·rw [if_pos c27] at H
      have c27b0 := eq_true c27
      have c27b1 : decide (t171.size + 7 ≤ 9223372036854775807) = true := decide_eq_true c27
      try have c27b2 : (9223372036854775807 < t171.size + 7) = False := eq_false (Nat.not_lt.2 c27)
      obtain ⟨y180, hy180⟩ : ∃ y_ : List Int, y_ = (([a0_2] : List Int)) := ⟨_, rfl⟩
      replace H : ((script_text.f k y180).bind fun t183 => (if t171.size + 7 + t183.size ≤ 9223372036854775807 then (some ((t171 ++ (⟨#[32, 108, 101, 110, 103, 116, 104]⟩ : ByteArray)) ++ t183)) else (none))) = some r := by first | (rw [hy180]; with_reducible exact H) | (have H2_ := (Option.bind_some _ _).symm.trans H; rw [hy180]; with_reducible exact H2_) | (have H2_ := (Option.bind_some _ _).symm.trans H; with_reducible exact H2_) | with_reducible exact H | (rw [hy180]; exact H) | exact H
      have Ny180 := Aside0.mk hy180
      clear hy180
      replace H := Option.bind_eq_some_iff.mp H
      obtain ⟨t183, A280, H⟩ := H
      replace H : (if t171.size + 7 + t183.size ≤ 9223372036854775807 then (some ((t171 ++ (⟨#[32, 108, 101, 110, 103, 116, 104]⟩ : ByteArray)) ++ t183)) else (none)) = some r := H
      have A28 := Aside0.mk A280
      clear A280
      by_cases c29 : t171.size + 7 + t183.size ≤ 9223372036854775807
      ·rw [if_pos c29] at H
       have c29b0 := eq_true c29
       have c29b1 : decide (t171.size + 7 + t183.size ≤ 9223372036854775807) = true := decide_eq_true c29
       try have c29b2 : (9223372036854775807 < t171.size + 7 + t183.size) = False := eq_false (Nat.not_lt.2 c29)
       obtain rfl := Option.some.inj H
       go_enter Tryz.func11, Tryz.ntmps11
       try go_wp2_with (first | ((with_reducible refine gate_dst (N := 31) rfl ?_); refine SayE.map_event rfl rfl rfl BK170.out HB.out ?_; intro gm w32 b1 b2 b3; have n0_ := Aside0.mk b1; have n1_ := Aside0.mk b2; have n2_ := Aside0.mk b3; clear BK170 HB b1 b2 b3; have BK170 := n0_; have HB := n1_; have BM := n2_; clear n0_ n1_ n2_) | ((with_reducible refine gate_dst (N := 1) rfl ?_); refine box_event ?hg (N := 1) ?hd (cs := #[.int .i64 3, .int .u32 a0_1, .int .i64 a0_2, .int .i64 a0_3, .int .i64 a0_4]) (t := 32) ?hr ?_; (case hd => rfl); (case hg => rfl); (case hr => first | (go_simp; done) | (go_simp; rfl)); intro gb170 hg w30 hbox hb; have n0_ := Aside0.mk (below_step (by repeat (first | (with_reducible first | exact HB.out | apply below_alloc | apply pw_below_drewN | apply below_drew1) | exact HB.out)) hb); have n1_ := Aside0.mk (hbox); have n2_ := Aside0.mk ((by rw [hg]; exact (below_size (by repeat (first | (with_reducible first | exact HB.out | apply below_alloc | apply pw_below_drewN | apply below_drew1) | exact HB.out))) : w.heap.size ≤ gb170)); have n3_ := Aside0.mk ((by rw [hg]; exact (below_size (by repeat (first | (with_reducible first | exact HB.out | apply below_alloc | apply pw_below_drewN | apply below_drew1) | exact HB.out))) : w.heap.size ≤ gb170)); clear HB; have HB := n0_; have BK170 := n1_; have GW170 := n2_; have GE170 := n3_; clear n0_ n1_ n2_ n3_; clear hb hbox hg; have hcz31_0 : w30.cell? ⟨gb170, 0, none⟩ = some (.int .i64 3) := (blk_cell BK170.out 0).trans rfl; have hcz31_1 : w30.cell? ⟨gb170, 1, none⟩ = some (.int .u32 a0_1) := (blk_cell BK170.out 1).trans rfl; have hcz31_2 : w30.cell? ⟨gb170, 2, none⟩ = some (.int .i64 a0_2) := (blk_cell BK170.out 2).trans rfl; have hcz31_3 : w30.cell? ⟨gb170, 3, none⟩ = some (.int .i64 a0_3) := (blk_cell BK170.out 3).trans rfl; have hcz31_4 : w30.cell? ⟨gb170, 4, none⟩ = some (.int .i64 a0_4) := (blk_cell BK170.out 4).trans rfl; have hfz31_0 := blk_frozen BK170.out 0; have hfz31_1 := blk_frozen BK170.out 1; have hfz31_2 := blk_frozen BK170.out 2; have hfz31_3 := blk_frozen BK170.out 3; have hfz31_4 := blk_frozen BK170.out 4) | ((with_reducible refine gate_callee (f := 30) rfl ?_); refine goesL_ (some 8) rfl rfl Tryz.func30 (by kernel_rfl) rfl #[.int .u64 (IntKind.u64.wrap (a0_1)), .int .i64 10] rfl (by (try simp only [List.map_toArray, List.map_cons, List.map_nil]); first | done | rfl | (simp only [List.length_drop, List.length_take]; rfl)) ?_; (with_reducible refine (strconv_FormatUint_30.calls (IntKind.u64.wrap (a0_1)) 10 t171 _ ?side1 A2.out).mono ?_); (case side1 => exact hG.below (by repeat (first | (with_reducible first | exact HB.out | apply below_alloc | apply pw_below_drewN | apply below_drew1 | refine below_set ?_ GE170.out) | exact HB.out))); rintro e w32 ⟨rfl, hb⟩; refine ⟨_, rfl, ?_⟩; have n0_ := Aside0.mk (blk_below (g := gb170) (o := .cells #[.int .i64 3, .int .u32 a0_1, .int .i64 a0_2, .int .i64 a0_3, .int .i64 a0_4] 32 (0, 0)) (by (with_reducible repeat (first | refine blk_drewN ?_ _ | refine blk_drew ?_ | refine blk_alloc ?_ _)); exact BK170.out) hb); have n1_ := Aside0.mk (below_step (by repeat (first | (with_reducible first | exact HB.out | apply below_alloc | apply pw_below_drewN | apply below_drew1 | refine below_set ?_ GE170.out) | exact HB.out)) hb); clear BK170; clear HB; have BK170 := n0_; have HB := n1_; clear n0_ n1_; (try clear hb); (try clear hb2); (try clear hk); (try clear hi); have hcz33_0 : w32.cell? ⟨gb170, 0, none⟩ = some (.int .i64 3) := (blk_cell BK170.out 0).trans rfl; have hcz33_1 : w32.cell? ⟨gb170, 1, none⟩ = some (.int .u32 a0_1) := (blk_cell BK170.out 1).trans rfl; have hcz33_2 : w32.cell? ⟨gb170, 2, none⟩ = some (.int .i64 a0_2) := (blk_cell BK170.out 2).trans rfl; have hcz33_3 : w32.cell? ⟨gb170, 3, none⟩ = some (.int .i64 a0_3) := (blk_cell BK170.out 3).trans rfl; have hcz33_4 : w32.cell? ⟨gb170, 4, none⟩ = some (.int .i64 a0_4) := (blk_cell BK170.out 4).trans rfl; have hfz33_0 := blk_frozen BK170.out 0; have hfz33_1 := blk_frozen BK170.out 1; have hfz33_2 := blk_frozen BK170.out 2; have hfz33_3 := blk_frozen BK170.out 3; have hfz33_4 := blk_frozen BK170.out 4) | (refine SayE.ins_event rfl rfl rfl Tryz.underlying94 Tryz.underlying3 rfl BM.out rfl BK170.out HB.out ?_; intro w32 b1 b2 b3; have n0_ := Aside0.mk b1; have n1_ := Aside0.mk b2; have n2_ := Aside0.mk b3; clear BK170 HB BM b1 b2 b3; have BK170 := n0_; have HB := n1_; have BM := n2_; clear n0_ n1_ n2_))
       have n0_ : Aside0 (w32.heap[gm]? = some (.map SayE.sayMap 3)) := ⟨BM.out.1⟩
       clear BM
       have BM := n0_
       clear n0_
       have nM_ := Aside0.mk (blk_drew BM.out)
       clear BM
       have BM := nM_
       clear nM_
       have n0_ := Aside0.mk (blk_drew BK170.out)
       have n1_ := Aside0.mk (below_drew1 HB.out)
       clear BK170
       clear HB
       have BK170 := n0_
       have HB := n1_
       clear n0_ n1_
       refine start_ (n := 12) (S := fun w' => w'.cell? ⟨gb170, 0, none⟩ = some (.int .i64 3) ∧ w'.cell? ⟨gb170, 1, none⟩ = some (.int .u32 a0_1) ∧ w'.cell? ⟨gb170, 2, none⟩ = some (.int .i64 a0_2) ∧ w'.cell? ⟨gb170, 3, none⟩ = some (.int .i64 a0_3) ∧ w'.cell? ⟨gb170, 4, none⟩ = some (.int .i64 a0_4) ∧ w'.heap[gm]? = some (.map SayE.sayMap 3)) (ds := []) #[false, false, false, false, false, false, false, false, false, false, false, false] (by kernel_rfl) rfl rfl ⟨(blk_cell BK170.out 0).trans rfl, (blk_cell BK170.out 1).trans rfl, (blk_cell BK170.out 2).trans rfl, (blk_cell BK170.out 3).trans rfl, (blk_cell BK170.out 4).trans rfl, BM.out⟩ (fun hHeld => ?_); refine with_tabW script_Say.tab8 script_Say.bits8 (fun HT_ HW_ => ?_)
       generalize w32.drew = w34 at BK170 HB BM hHeld ⊢
       refine pure_ (i := 0) (N := some 33) (v := ?_) (a' := ?_) #[true, false, false, false, false, false, false, false, false, false, false, false] rfl rfl (any_of HT_.out (by kernel_rfl)) (fun _ _ _ h => h) (Or.inl ⟨by rfl, ?_⟩) ?_ ?_
       rotate_left
       ·intro w'
        go_simp
        with_reducible rfl
       rotate_left
       ·simp only [Act.put, List.setIfInBounds_toArray, List.set_cons_zero, List.set_cons_succ, i64_w, i32_w]
        rfl
       refine pure_ (i := 1) (N := some 34) (v := ?_) (a' := ?_) #[true, true, false, false, false, false, false, false, false, false, false, false] rfl rfl (any_of HT_.out (by kernel_rfl)) (fun _ _ _ h => h) (Or.inl ⟨by rfl, ?_⟩) ?_ ?_
       rotate_left
       ·intro w'
        go_simp
        with_reducible rfl
       rotate_left
       ·simp only [Act.put, List.setIfInBounds_toArray, List.set_cons_zero, List.set_cons_succ, i64_w, i32_w]
        rfl
       refine pure_ (i := 2) (N := some 35) (v := ?_) (a' := ?_) #[true, true, true, false, false, false, false, false, false, false, false, false] rfl rfl (any_of HT_.out (by kernel_rfl)) (fun _ _ _ h => h) (Or.inl ⟨by rfl, ?_⟩) ?_ ?_
       rotate_left
       ·intro w'
        go_simp
        with_reducible rfl
       rotate_left
       ·simp only [Act.put, List.setIfInBounds_toArray, List.set_cons_zero, List.set_cons_succ, i64_w, i32_w]
        rfl
       refine pure_ (i := 6) (N := some 39) (v := ?_) (a' := ?_) #[true, true, true, false, false, false, true, false, false, false, false, false] rfl rfl (any_of HT_.out (by kernel_rfl)) (fun _ _ _ h => h) (Or.inl ⟨by rfl, ?_⟩) ?_ ?_
       rotate_left
       ·intro w'
        go_simp
        with_reducible rfl
       rotate_left
       ·simp only [Act.put, List.setIfInBounds_toArray, List.set_cons_zero, List.set_cons_succ, i64_w, i32_w]
        rfl
       refine take_ (i := 3) (N := some 36) (v := ?_) (a' := ?_) #[true, true, true, true, false, false, true, false, false, false, false, false] rfl rfl (take_ofW HT_.out HW_.out (by kernel_rfl)) (fun _ _ _ h => h) (Or.inl ⟨by rfl, ?_⟩) hHeld ?_ ?_
       rotate_left
       ·rintro w' ⟨s0, s1, s2, s3, s4, s5⟩
        go_simp
        with_reducible rfl
       rotate_left
       ·simp only [Act.put, List.setIfInBounds_toArray, List.set_cons_zero, List.set_cons_succ, i64_w, i32_w]
        rfl
       refine take_ (i := 4) (N := some 37) (v := ?_) (a' := ?_) #[true, true, true, true, true, false, true, false, false, false, false, false] rfl rfl (take_ofW HT_.out HW_.out (by kernel_rfl)) (fun _ _ _ h => h) (Or.inl ⟨by rfl, ?_⟩) hHeld ?_ ?_
       rotate_left
       ·rintro w' ⟨s0, s1, s2, s3, s4, s5⟩
        refine (SayE.look_run rfl Tryz.underlying94 Tryz.underlying3 rfl rfl s5 SayE.find3).trans ?_
        with_reducible rfl
       rotate_left
       ·simp only [Act.put, List.setIfInBounds_toArray, List.set_cons_zero, List.set_cons_succ, i64_w, i32_w]
        rfl
       refine pure_ (i := 5) (N := some 38) (v := ?_) (a' := ?_) #[true, true, true, true, true, true, true, false, false, false, false, false] rfl rfl (any_of HT_.out (by kernel_rfl)) (fun _ _ _ h => h) (Or.inl ⟨by rfl, ?_⟩) ?_ ?_
       rotate_left
       ·intro w'
        go_simp
        with_reducible rfl
       rotate_left
       ·simp only [Act.put, List.setIfInBounds_toArray, List.set_cons_zero, List.set_cons_succ, i64_w, i32_w]
        rfl
       refine take_ (i := 7) (N := some 40) (v := ?_) (a' := ?_) #[true, true, true, true, true, true, true, true, false, false, false, false] rfl rfl (take_ofW HT_.out HW_.out (by kernel_rfl)) (fun _ _ _ h => h) (Or.inl ⟨by rfl, ?_⟩) hHeld ?_ ?_
       rotate_left
       ·rintro w' ⟨s0, s1, s2, s3, s4, s5⟩
        go_simp
        with_reducible rfl
       rotate_left
       ·simp only [Act.put, List.setIfInBounds_toArray, List.set_cons_zero, List.set_cons_succ, i64_w, i32_w]
        rfl
       refine one_ (i := 8) (N := some 41) #[true, true, true, true, true, true, true, true, true, false, false, false] rfl rfl (one_of HT_.out (by kernel_rfl)) (by decide) (fun K hK => ?_)
       refine Kd.R_lit_step (Kd.int .i64) _ 3 ?hg (N := 41) ?hd (xs := ([a0_2] : List Int)) (inner := [.int .i64 a0_2]) (ok := fun _ => True) (okp := fun _ => True) ?hr ?hp (fun _ hk => hk) trivial (Below.refl _ _) (Nat.le_refl _) (by simp) ?_; (case hd => rfl); (case hg => rfl); (case hr => first | (go_simp; done) | (go_simp; rfl)); (case hp => exact (Reps.one (show Kd.M (Kd.int .i64) _ _ _ a0_2 [.int .i64 a0_2] from rfl) (Reps.none _ _)))
       intro v181 w35 ho36 hb hg_ hnew_
       clear hg_ hnew_
       (first | rw [← Ny180.out] at ho36 | (simp only [Int.reduceToNat] at ho36; rw [← Ny180.out] at ho36))
       have n0_ := Aside0.mk (Kd.R_lower ho36 (below_size (by repeat (first | (with_reducible first | exact HB.out | apply below_alloc | apply pw_below_drewN | apply below_drew1 | refine below_set ?_ GE170.out) | exact HB.out))))
       have n1_ := Aside0.mk (blk_below (g := gb170) (o := .cells #[.int .i64 3, .int .u32 a0_1, .int .i64 a0_2, .int .i64 a0_3, .int .i64 a0_4] 32 (0, 0)) (by (with_reducible repeat (first | refine blk_drewN ?_ _ | refine blk_drew ?_ | refine blk_alloc ?_ _)); exact BK170.out) hb)
       have nM_ := Aside0.mk (blk_below (g := gm) (o := .map SayE.sayMap 3) (by (with_reducible repeat (first | refine blk_drewN ?_ _ | refine blk_drew ?_ | refine blk_alloc ?_ _)); exact BM.out) hb)
       clear BM
       have BM := nM_
       clear nM_
       have n2_ := Aside0.mk (below_step (by repeat (first | (with_reducible first | exact HB.out | apply below_alloc | apply pw_below_drewN | apply below_drew1 | refine below_set ?_ GE170.out) | exact HB.out)) hb)
       clear BK170
       clear HB
       have HO182 := n0_
       have BK170 := n1_
       have HB := n2_
       clear n0_ n1_ n2_
       clear hb ho36
       obtain ⟨Ao37, co37, eo37⟩ := Kd.R_slice HO182.out
       (first | subst eo37 | (injection eo37 with f1_ f2_ f3_; have f4_ := f1_.symm; have f5_ := f3_.symm; clear f1_ f2_ f3_; subst f4_; subst f5_))
       refine hK.out _ _ ⟨(blk_cell BK170.out 0).trans rfl, (blk_cell BK170.out 1).trans rfl, (blk_cell BK170.out 2).trans rfl, (blk_cell BK170.out 3).trans rfl, (blk_cell BK170.out 4).trans rfl, BM.out⟩ (fun hHeld => ?_)
       clear hK K
       refine norm_ (a' := ?_) ?_ ?_
       rotate_left
       ·show Act.put _ (some 41) _ = _
        simp only [Act.put, List.setIfInBounds_toArray, List.set_cons_zero, List.set_cons_succ, i64_w, i32_w]
        rfl
       refine one_ (i := 9) (N := some 42) #[true, true, true, true, true, true, true, true, true, true, false, false] rfl rfl (one_of HT_.out (by kernel_rfl)) (by decide) (fun K hK => ?_)
       refine goes_ Tryz.func31 (by kernel_rfl) rfl #[.slice Ao37 y180.length co37] (by rfl) rfl rfl (by (try simp only [List.map_toArray, List.map_cons, List.map_nil]); first | done | rfl | (simp only [List.length_drop, List.length_take]; rfl)) ?_
       with_reducible refine (script_text.calls k _ _ y180 t183 _ ?side1 ?side2 ?side3 A28.out).mono ?_
       (case side1 => repeat (first | exact (Kd.R_reads' HO182.out).2.2 | (with_reducible refine Kd.C_alloc ?_ _) | (with_reducible refine Kd.C_drewN ?_ _) | (with_reducible refine Kd.C_drew ?_)))
       (case side2 => exact (Kd.R_reads' HO182.out).2.1)
       (case side3 => exact hG.below (by repeat (first | (with_reducible first | exact HB.out | apply below_alloc | apply pw_below_drewN | apply below_drew1 | refine below_set ?_ GE170.out) | exact HB.out)))
       rintro e w38 ⟨rfl, hb⟩
       refine ⟨_, rfl, ?_⟩
       have n0_ := Aside0.mk (Kd.R_below (by (with_reducible repeat (first | apply Kd.R_alloc | apply Kd.R_drewN | apply Kd.R_drew)); exact HO182.out) hb)
       have n1_ := Aside0.mk (blk_below (g := gb170) (o := .cells #[.int .i64 3, .int .u32 a0_1, .int .i64 a0_2, .int .i64 a0_3, .int .i64 a0_4] 32 (0, 0)) (by (with_reducible repeat (first | refine blk_drewN ?_ _ | refine blk_drew ?_ | refine blk_alloc ?_ _)); exact BK170.out) hb)
       have nM_ := Aside0.mk (blk_below (g := gm) (o := .map SayE.sayMap 3) (by (with_reducible repeat (first | refine blk_drewN ?_ _ | refine blk_drew ?_ | refine blk_alloc ?_ _)); exact BM.out) hb)
       clear BM
       have BM := nM_
       clear nM_
       have n2_ := Aside0.mk (below_step (by repeat (first | (with_reducible first | exact HB.out | apply below_alloc | apply pw_below_drewN | apply below_drew1 | refine below_set ?_ GE170.out) | exact HB.out)) hb)
       clear HO182
       clear BK170
       clear HB
       have HO182 := n0_
       have BK170 := n1_
       have HB := n2_
       clear n0_ n1_ n2_
       (try clear hb)
       (try clear hb2)
       (try clear hk)
       (try clear hi)
       refine hK.out _ _ ⟨(blk_cell BK170.out 0).trans rfl, (blk_cell BK170.out 1).trans rfl, (blk_cell BK170.out 2).trans rfl, (blk_cell BK170.out 3).trans rfl, (blk_cell BK170.out 4).trans rfl, BM.out⟩ (fun hHeld => ?_)
       clear hK K
       refine norm_ (a' := ?_) ?_ ?_
       rotate_left
       ·show Act.put _ (some 42) _ = _
        simp only [Act.put, List.setIfInBounds_toArray, List.set_cons_zero, List.set_cons_succ, i64_w, i32_w]
        rfl
       refine pure_ (i := 10) (N := some 43) (v := ?_) (a' := ?_) #[true, true, true, true, true, true, true, true, true, true, true, false] rfl rfl (any_of HT_.out (by kernel_rfl)) (fun _ _ _ h => h) (Or.inl ⟨by rfl, ?_⟩) ?_ ?_
       rotate_left
       ·intro w'
        go_simp
        with_reducible rfl
       rotate_left
       ·simp only [Act.put, List.setIfInBounds_toArray, List.set_cons_zero, List.set_cons_succ, i64_w, i32_w]
        rfl
       refine pure_ (i := 11) (N := some 2) (v := ?_) (a' := ?_) #[true, true, true, true, true, true, true, true, true, true, true, true] rfl rfl (any_of HT_.out (by kernel_rfl)) (fun _ _ _ h => h) (Or.inl ⟨by rfl, ?_⟩) ?_ ?_
       rotate_left
       ·intro w'
        go_simp
        with_reducible rfl
       rotate_left
       ·simp only [Act.put, List.setIfInBounds_toArray, List.set_cons_zero, List.set_cons_succ, i64_w, i32_w]
        rfl
       refine done_ (done_of HT_.out (by kernel_rfl)) ?_
       try go_wp2
       go_ret
       exact ⟨by first | rfl | (simp [errW_none, errW_some] <;> rfl) | (simp [*, errW_none, errW_some] <;> rfl), by repeat (first | (with_reducible first | exact HB.out | apply below_alloc | apply pw_below_drewN | apply below_drew1 | refine below_set ?_ GE170.out) | exact HB.out)⟩
      ·rw [if_neg c29] at H
       exact absurd H (by simp)
     ·rw [if_neg c27] at H
      exact absurd H (by simp)
    ·rw [if_neg d3] at H
     by_cases d4 : a0_0 = 4
     ·rw [if_pos d4] at H
      subst d4
      by_cases c27 : t171.size + 10 ≤ 9223372036854775807
      ·rw [if_pos c27] at H
       have c27b0 := eq_true c27
       have c27b1 : decide (t171.size + 10 ≤ 9223372036854775807) = true := decide_eq_true c27
       try have c27b2 : (9223372036854775807 < t171.size + 10) = False := eq_false (Nat.not_lt.2 c27)
       obtain ⟨y180, hy180⟩ : ∃ y_ : List Int, y_ = (([a0_2] : List Int)) := ⟨_, rfl⟩
       replace H : ((script_text.f k y180).bind fun t183 => (if t171.size + 10 + t183.size ≤ 9223372036854775807 then (some ((t171 ++ (⟨#[32, 99, 97, 110, 99, 101, 108, 108, 101, 100]⟩ : ByteArray)) ++ t183)) else (none))) = some r := by first | (rw [hy180]; with_reducible exact H) | (have H2_ := (Option.bind_some _ _).symm.trans H; rw [hy180]; with_reducible exact H2_) | (have H2_ := (Option.bind_some _ _).symm.trans H; with_reducible exact H2_) | with_reducible exact H | (rw [hy180]; exact H) | exact H
       have Ny180 := Aside0.mk hy180
       clear hy180
       replace H := Option.bind_eq_some_iff.mp H
       obtain ⟨t183, A280, H⟩ := H
       replace H : (if t171.size + 10 + t183.size ≤ 9223372036854775807 then (some ((t171 ++ (⟨#[32, 99, 97, 110, 99, 101, 108, 108, 101, 100]⟩ : ByteArray)) ++ t183)) else (none)) = some r := H
       have A28 := Aside0.mk A280
       clear A280
       by_cases c29 : t171.size + 10 + t183.size ≤ 9223372036854775807
       ·rw [if_pos c29] at H
        have c29b0 := eq_true c29
        have c29b1 : decide (t171.size + 10 + t183.size ≤ 9223372036854775807) = true := decide_eq_true c29
        try have c29b2 : (9223372036854775807 < t171.size + 10 + t183.size) = False := eq_false (Nat.not_lt.2 c29)
        obtain rfl := Option.some.inj H
        go_enter Tryz.func11, Tryz.ntmps11
        try go_wp2_with (first | ((with_reducible refine gate_dst (N := 31) rfl ?_); refine SayE.map_event rfl rfl rfl BK170.out HB.out ?_; intro gm w32 b1 b2 b3; have n0_ := Aside0.mk b1; have n1_ := Aside0.mk b2; have n2_ := Aside0.mk b3; clear BK170 HB b1 b2 b3; have BK170 := n0_; have HB := n1_; have BM := n2_; clear n0_ n1_ n2_) | ((with_reducible refine gate_dst (N := 1) rfl ?_); refine box_event ?hg (N := 1) ?hd (cs := #[.int .i64 4, .int .u32 a0_1, .int .i64 a0_2, .int .i64 a0_3, .int .i64 a0_4]) (t := 32) ?hr ?_; (case hd => rfl); (case hg => rfl); (case hr => first | (go_simp; done) | (go_simp; rfl)); intro gb170 hg w30 hbox hb; have n0_ := Aside0.mk (below_step (by repeat (first | (with_reducible first | exact HB.out | apply below_alloc | apply pw_below_drewN | apply below_drew1) | exact HB.out)) hb); have n1_ := Aside0.mk (hbox); have n2_ := Aside0.mk ((by rw [hg]; exact (below_size (by repeat (first | (with_reducible first | exact HB.out | apply below_alloc | apply pw_below_drewN | apply below_drew1) | exact HB.out))) : w.heap.size ≤ gb170)); have n3_ := Aside0.mk ((by rw [hg]; exact (below_size (by repeat (first | (with_reducible first | exact HB.out | apply below_alloc | apply pw_below_drewN | apply below_drew1) | exact HB.out))) : w.heap.size ≤ gb170)); clear HB; have HB := n0_; have BK170 := n1_; have GW170 := n2_; have GE170 := n3_; clear n0_ n1_ n2_ n3_; clear hb hbox hg; have hcz31_0 : w30.cell? ⟨gb170, 0, none⟩ = some (.int .i64 4) := (blk_cell BK170.out 0).trans rfl; have hcz31_1 : w30.cell? ⟨gb170, 1, none⟩ = some (.int .u32 a0_1) := (blk_cell BK170.out 1).trans rfl; have hcz31_2 : w30.cell? ⟨gb170, 2, none⟩ = some (.int .i64 a0_2) := (blk_cell BK170.out 2).trans rfl; have hcz31_3 : w30.cell? ⟨gb170, 3, none⟩ = some (.int .i64 a0_3) := (blk_cell BK170.out 3).trans rfl; have hcz31_4 : w30.cell? ⟨gb170, 4, none⟩ = some (.int .i64 a0_4) := (blk_cell BK170.out 4).trans rfl; have hfz31_0 := blk_frozen BK170.out 0; have hfz31_1 := blk_frozen BK170.out 1; have hfz31_2 := blk_frozen BK170.out 2; have hfz31_3 := blk_frozen BK170.out 3; have hfz31_4 := blk_frozen BK170.out 4) | ((with_reducible refine gate_callee (f := 30) rfl ?_); refine goesL_ (some 8) rfl rfl Tryz.func30 (by kernel_rfl) rfl #[.int .u64 (IntKind.u64.wrap (a0_1)), .int .i64 10] rfl (by (try simp only [List.map_toArray, List.map_cons, List.map_nil]); first | done | rfl | (simp only [List.length_drop, List.length_take]; rfl)) ?_; (with_reducible refine (strconv_FormatUint_30.calls (IntKind.u64.wrap (a0_1)) 10 t171 _ ?side1 A2.out).mono ?_); (case side1 => exact hG.below (by repeat (first | (with_reducible first | exact HB.out | apply below_alloc | apply pw_below_drewN | apply below_drew1 | refine below_set ?_ GE170.out) | exact HB.out))); rintro e w32 ⟨rfl, hb⟩; refine ⟨_, rfl, ?_⟩; have n0_ := Aside0.mk (blk_below (g := gb170) (o := .cells #[.int .i64 4, .int .u32 a0_1, .int .i64 a0_2, .int .i64 a0_3, .int .i64 a0_4] 32 (0, 0)) (by (with_reducible repeat (first | refine blk_drewN ?_ _ | refine blk_drew ?_ | refine blk_alloc ?_ _)); exact BK170.out) hb); have n1_ := Aside0.mk (below_step (by repeat (first | (with_reducible first | exact HB.out | apply below_alloc | apply pw_below_drewN | apply below_drew1 | refine below_set ?_ GE170.out) | exact HB.out)) hb); clear BK170; clear HB; have BK170 := n0_; have HB := n1_; clear n0_ n1_; (try clear hb); (try clear hb2); (try clear hk); (try clear hi); have hcz33_0 : w32.cell? ⟨gb170, 0, none⟩ = some (.int .i64 4) := (blk_cell BK170.out 0).trans rfl; have hcz33_1 : w32.cell? ⟨gb170, 1, none⟩ = some (.int .u32 a0_1) := (blk_cell BK170.out 1).trans rfl; have hcz33_2 : w32.cell? ⟨gb170, 2, none⟩ = some (.int .i64 a0_2) := (blk_cell BK170.out 2).trans rfl; have hcz33_3 : w32.cell? ⟨gb170, 3, none⟩ = some (.int .i64 a0_3) := (blk_cell BK170.out 3).trans rfl; have hcz33_4 : w32.cell? ⟨gb170, 4, none⟩ = some (.int .i64 a0_4) := (blk_cell BK170.out 4).trans rfl; have hfz33_0 := blk_frozen BK170.out 0; have hfz33_1 := blk_frozen BK170.out 1; have hfz33_2 := blk_frozen BK170.out 2; have hfz33_3 := blk_frozen BK170.out 3; have hfz33_4 := blk_frozen BK170.out 4) | (refine SayE.ins_event rfl rfl rfl Tryz.underlying94 Tryz.underlying3 rfl BM.out rfl BK170.out HB.out ?_; intro w32 b1 b2 b3; have n0_ := Aside0.mk b1; have n1_ := Aside0.mk b2; have n2_ := Aside0.mk b3; clear BK170 HB BM b1 b2 b3; have BK170 := n0_; have HB := n1_; have BM := n2_; clear n0_ n1_ n2_))
        have n0_ : Aside0 (w32.heap[gm]? = some (.map SayE.sayMap 3)) := ⟨BM.out.1⟩
        clear BM
        have BM := n0_
        clear n0_
        have nM_ := Aside0.mk (blk_drew BM.out)
        clear BM
        have BM := nM_
        clear nM_
        have n0_ := Aside0.mk (blk_drew BK170.out)
        have n1_ := Aside0.mk (below_drew1 HB.out)
        clear BK170
        clear HB
        have BK170 := n0_
        have HB := n1_
        clear n0_ n1_
        refine start_ (n := 12) (S := fun w' => w'.cell? ⟨gb170, 0, none⟩ = some (.int .i64 4) ∧ w'.cell? ⟨gb170, 1, none⟩ = some (.int .u32 a0_1) ∧ w'.cell? ⟨gb170, 2, none⟩ = some (.int .i64 a0_2) ∧ w'.cell? ⟨gb170, 3, none⟩ = some (.int .i64 a0_3) ∧ w'.cell? ⟨gb170, 4, none⟩ = some (.int .i64 a0_4) ∧ w'.heap[gm]? = some (.map SayE.sayMap 3)) (ds := []) #[false, false, false, false, false, false, false, false, false, false, false, false] (by kernel_rfl) rfl rfl ⟨(blk_cell BK170.out 0).trans rfl, (blk_cell BK170.out 1).trans rfl, (blk_cell BK170.out 2).trans rfl, (blk_cell BK170.out 3).trans rfl, (blk_cell BK170.out 4).trans rfl, BM.out⟩ (fun hHeld => ?_); refine with_tabW script_Say.tab8 script_Say.bits8 (fun HT_ HW_ => ?_)
        generalize w32.drew = w34 at BK170 HB BM hHeld ⊢
        refine pure_ (i := 0) (N := some 33) (v := ?_) (a' := ?_) #[true, false, false, false, false, false, false, false, false, false, false, false] rfl rfl (any_of HT_.out (by kernel_rfl)) (fun _ _ _ h => h) (Or.inl ⟨by rfl, ?_⟩) ?_ ?_
        rotate_left
        ·intro w'
         go_simp
         with_reducible rfl
        rotate_left
        ·simp only [Act.put, List.setIfInBounds_toArray, List.set_cons_zero, List.set_cons_succ, i64_w, i32_w]
         rfl
        refine pure_ (i := 1) (N := some 34) (v := ?_) (a' := ?_) #[true, true, false, false, false, false, false, false, false, false, false, false] rfl rfl (any_of HT_.out (by kernel_rfl)) (fun _ _ _ h => h) (Or.inl ⟨by rfl, ?_⟩) ?_ ?_
        rotate_left
        ·intro w'
         go_simp
         with_reducible rfl
        rotate_left
        ·simp only [Act.put, List.setIfInBounds_toArray, List.set_cons_zero, List.set_cons_succ, i64_w, i32_w]
         rfl
        refine pure_ (i := 2) (N := some 35) (v := ?_) (a' := ?_) #[true, true, true, false, false, false, false, false, false, false, false, false] rfl rfl (any_of HT_.out (by kernel_rfl)) (fun _ _ _ h => h) (Or.inl ⟨by rfl, ?_⟩) ?_ ?_
        rotate_left
        ·intro w'
         go_simp
         with_reducible rfl
        rotate_left
        ·simp only [Act.put, List.setIfInBounds_toArray, List.set_cons_zero, List.set_cons_succ, i64_w, i32_w]
         rfl
        refine pure_ (i := 6) (N := some 39) (v := ?_) (a' := ?_) #[true, true, true, false, false, false, true, false, false, false, false, false] rfl rfl (any_of HT_.out (by kernel_rfl)) (fun _ _ _ h => h) (Or.inl ⟨by rfl, ?_⟩) ?_ ?_
        rotate_left
        ·intro w'
         go_simp
         with_reducible rfl
        rotate_left
        ·simp only [Act.put, List.setIfInBounds_toArray, List.set_cons_zero, List.set_cons_succ, i64_w, i32_w]
         rfl
        refine take_ (i := 3) (N := some 36) (v := ?_) (a' := ?_) #[true, true, true, true, false, false, true, false, false, false, false, false] rfl rfl (take_ofW HT_.out HW_.out (by kernel_rfl)) (fun _ _ _ h => h) (Or.inl ⟨by rfl, ?_⟩) hHeld ?_ ?_
        rotate_left
        ·rintro w' ⟨s0, s1, s2, s3, s4, s5⟩
         go_simp
         with_reducible rfl
        rotate_left
        ·simp only [Act.put, List.setIfInBounds_toArray, List.set_cons_zero, List.set_cons_succ, i64_w, i32_w]
         rfl
        refine take_ (i := 4) (N := some 37) (v := ?_) (a' := ?_) #[true, true, true, true, true, false, true, false, false, false, false, false] rfl rfl (take_ofW HT_.out HW_.out (by kernel_rfl)) (fun _ _ _ h => h) (Or.inl ⟨by rfl, ?_⟩) hHeld ?_ ?_
        rotate_left
        ·rintro w' ⟨s0, s1, s2, s3, s4, s5⟩
         refine (SayE.look_run rfl Tryz.underlying94 Tryz.underlying3 rfl rfl s5 SayE.find4).trans ?_
         with_reducible rfl
        rotate_left
        ·simp only [Act.put, List.setIfInBounds_toArray, List.set_cons_zero, List.set_cons_succ, i64_w, i32_w]
         rfl
        refine pure_ (i := 5) (N := some 38) (v := ?_) (a' := ?_) #[true, true, true, true, true, true, true, false, false, false, false, false] rfl rfl (any_of HT_.out (by kernel_rfl)) (fun _ _ _ h => h) (Or.inl ⟨by rfl, ?_⟩) ?_ ?_
        rotate_left
        ·intro w'
         go_simp
         with_reducible rfl
        rotate_left
        ·simp only [Act.put, List.setIfInBounds_toArray, List.set_cons_zero, List.set_cons_succ, i64_w, i32_w]
         rfl
        refine take_ (i := 7) (N := some 40) (v := ?_) (a' := ?_) #[true, true, true, true, true, true, true, true, false, false, false, false] rfl rfl (take_ofW HT_.out HW_.out (by kernel_rfl)) (fun _ _ _ h => h) (Or.inl ⟨by rfl, ?_⟩) hHeld ?_ ?_
        rotate_left
        ·rintro w' ⟨s0, s1, s2, s3, s4, s5⟩
         go_simp
         with_reducible rfl
        rotate_left
        ·simp only [Act.put, List.setIfInBounds_toArray, List.set_cons_zero, List.set_cons_succ, i64_w, i32_w]
         rfl
        refine one_ (i := 8) (N := some 41) #[true, true, true, true, true, true, true, true, true, false, false, false] rfl rfl (one_of HT_.out (by kernel_rfl)) (by decide) (fun K hK => ?_)
        refine Kd.R_lit_step (Kd.int .i64) _ 3 ?hg (N := 41) ?hd (xs := ([a0_2] : List Int)) (inner := [.int .i64 a0_2]) (ok := fun _ => True) (okp := fun _ => True) ?hr ?hp (fun _ hk => hk) trivial (Below.refl _ _) (Nat.le_refl _) (by simp) ?_; (case hd => rfl); (case hg => rfl); (case hr => first | (go_simp; done) | (go_simp; rfl)); (case hp => exact (Reps.one (show Kd.M (Kd.int .i64) _ _ _ a0_2 [.int .i64 a0_2] from rfl) (Reps.none _ _)))
        intro v181 w35 ho36 hb hg_ hnew_
        clear hg_ hnew_
        (first | rw [← Ny180.out] at ho36 | (simp only [Int.reduceToNat] at ho36; rw [← Ny180.out] at ho36))
        have n0_ := Aside0.mk (Kd.R_lower ho36 (below_size (by repeat (first | (with_reducible first | exact HB.out | apply below_alloc | apply pw_below_drewN | apply below_drew1 | refine below_set ?_ GE170.out) | exact HB.out))))
        have n1_ := Aside0.mk (blk_below (g := gb170) (o := .cells #[.int .i64 4, .int .u32 a0_1, .int .i64 a0_2, .int .i64 a0_3, .int .i64 a0_4] 32 (0, 0)) (by (with_reducible repeat (first | refine blk_drewN ?_ _ | refine blk_drew ?_ | refine blk_alloc ?_ _)); exact BK170.out) hb)
        have nM_ := Aside0.mk (blk_below (g := gm) (o := .map SayE.sayMap 3) (by (with_reducible repeat (first | refine blk_drewN ?_ _ | refine blk_drew ?_ | refine blk_alloc ?_ _)); exact BM.out) hb)
        clear BM
        have BM := nM_
        clear nM_
        have n2_ := Aside0.mk (below_step (by repeat (first | (with_reducible first | exact HB.out | apply below_alloc | apply pw_below_drewN | apply below_drew1 | refine below_set ?_ GE170.out) | exact HB.out)) hb)
        clear BK170
        clear HB
        have HO182 := n0_
        have BK170 := n1_
        have HB := n2_
        clear n0_ n1_ n2_
        clear hb ho36
        obtain ⟨Ao37, co37, eo37⟩ := Kd.R_slice HO182.out
        (first | subst eo37 | (injection eo37 with f1_ f2_ f3_; have f4_ := f1_.symm; have f5_ := f3_.symm; clear f1_ f2_ f3_; subst f4_; subst f5_))
        refine hK.out _ _ ⟨(blk_cell BK170.out 0).trans rfl, (blk_cell BK170.out 1).trans rfl, (blk_cell BK170.out 2).trans rfl, (blk_cell BK170.out 3).trans rfl, (blk_cell BK170.out 4).trans rfl, BM.out⟩ (fun hHeld => ?_)
        clear hK K
        refine norm_ (a' := ?_) ?_ ?_
        rotate_left
        ·show Act.put _ (some 41) _ = _
         simp only [Act.put, List.setIfInBounds_toArray, List.set_cons_zero, List.set_cons_succ, i64_w, i32_w]
         rfl
        refine one_ (i := 9) (N := some 42) #[true, true, true, true, true, true, true, true, true, true, false, false] rfl rfl (one_of HT_.out (by kernel_rfl)) (by decide) (fun K hK => ?_)
        refine goes_ Tryz.func31 (by kernel_rfl) rfl #[.slice Ao37 y180.length co37] (by rfl) rfl rfl (by (try simp only [List.map_toArray, List.map_cons, List.map_nil]); first | done | rfl | (simp only [List.length_drop, List.length_take]; rfl)) ?_
        with_reducible refine (script_text.calls k _ _ y180 t183 _ ?side1 ?side2 ?side3 A28.out).mono ?_
        (case side1 => repeat (first | exact (Kd.R_reads' HO182.out).2.2 | (with_reducible refine Kd.C_alloc ?_ _) | (with_reducible refine Kd.C_drewN ?_ _) | (with_reducible refine Kd.C_drew ?_)))
        (case side2 => exact (Kd.R_reads' HO182.out).2.1)
        (case side3 => exact hG.below (by repeat (first | (with_reducible first | exact HB.out | apply below_alloc | apply pw_below_drewN | apply below_drew1 | refine below_set ?_ GE170.out) | exact HB.out)))
        rintro e w38 ⟨rfl, hb⟩
        refine ⟨_, rfl, ?_⟩
        have n0_ := Aside0.mk (Kd.R_below (by (with_reducible repeat (first | apply Kd.R_alloc | apply Kd.R_drewN | apply Kd.R_drew)); exact HO182.out) hb)
        have n1_ := Aside0.mk (blk_below (g := gb170) (o := .cells #[.int .i64 4, .int .u32 a0_1, .int .i64 a0_2, .int .i64 a0_3, .int .i64 a0_4] 32 (0, 0)) (by (with_reducible repeat (first | refine blk_drewN ?_ _ | refine blk_drew ?_ | refine blk_alloc ?_ _)); exact BK170.out) hb)
        have nM_ := Aside0.mk (blk_below (g := gm) (o := .map SayE.sayMap 3) (by (with_reducible repeat (first | refine blk_drewN ?_ _ | refine blk_drew ?_ | refine blk_alloc ?_ _)); exact BM.out) hb)
        clear BM
        have BM := nM_
        clear nM_
        have n2_ := Aside0.mk (below_step (by repeat (first | (with_reducible first | exact HB.out | apply below_alloc | apply pw_below_drewN | apply below_drew1 | refine below_set ?_ GE170.out) | exact HB.out)) hb)
        clear HO182
        clear BK170
        clear HB
        have HO182 := n0_
        have BK170 := n1_
        have HB := n2_
        clear n0_ n1_ n2_
        (try clear hb)
        (try clear hb2)
        (try clear hk)
        (try clear hi)
        refine hK.out _ _ ⟨(blk_cell BK170.out 0).trans rfl, (blk_cell BK170.out 1).trans rfl, (blk_cell BK170.out 2).trans rfl, (blk_cell BK170.out 3).trans rfl, (blk_cell BK170.out 4).trans rfl, BM.out⟩ (fun hHeld => ?_)
        clear hK K
        refine norm_ (a' := ?_) ?_ ?_
        rotate_left
        ·show Act.put _ (some 42) _ = _
         simp only [Act.put, List.setIfInBounds_toArray, List.set_cons_zero, List.set_cons_succ, i64_w, i32_w]
         rfl
        refine pure_ (i := 10) (N := some 43) (v := ?_) (a' := ?_) #[true, true, true, true, true, true, true, true, true, true, true, false] rfl rfl (any_of HT_.out (by kernel_rfl)) (fun _ _ _ h => h) (Or.inl ⟨by rfl, ?_⟩) ?_ ?_
        rotate_left
        ·intro w'
         go_simp
         with_reducible rfl
        rotate_left
        ·simp only [Act.put, List.setIfInBounds_toArray, List.set_cons_zero, List.set_cons_succ, i64_w, i32_w]
         rfl
        refine pure_ (i := 11) (N := some 2) (v := ?_) (a' := ?_) #[true, true, true, true, true, true, true, true, true, true, true, true] rfl rfl (any_of HT_.out (by kernel_rfl)) (fun _ _ _ h => h) (Or.inl ⟨by rfl, ?_⟩) ?_ ?_
        rotate_left
        ·intro w'
         go_simp
         with_reducible rfl
        rotate_left
        ·simp only [Act.put, List.setIfInBounds_toArray, List.set_cons_zero, List.set_cons_succ, i64_w, i32_w]
         rfl
        refine done_ (done_of HT_.out (by kernel_rfl)) ?_
        try go_wp2
        go_ret
        exact ⟨by first | rfl | (simp [errW_none, errW_some] <;> rfl) | (simp [*, errW_none, errW_some] <;> rfl), by repeat (first | (with_reducible first | exact HB.out | apply below_alloc | apply pw_below_drewN | apply below_drew1 | refine below_set ?_ GE170.out) | exact HB.out)⟩
       ·rw [if_neg c29] at H
        exact absurd H (by simp)
      ·rw [if_neg c27] at H
       exact absurd H (by simp)
     ·rw [if_neg d4] at H
      exact absurd H (by simp)

end Go.Proofs.YtcaiakbaklopmaaGreatDoor.Q

namespace Go.Proofs.YtcaiakbaklopmaaGreatDoor.Q
open Go.RowKit Go.Proofs.YtcaiakbaklopmaaGreatDoorW.PrintWords Go.Proofs.YtcaiakbaklopmaaGreatDoorW.PrintLast Go.Proofs.YtcaiakbaklopmaaGreatDoorW.PrintMore
attribute [local go_sem] max2_int min2_int max_two min_two max_three min_three max_four min_four   -- for this text's walks alone
set_option linter.unusedVariables false
set_option linter.unusedSimpArgs false

def credenzaref28_Digits.f : Nat → Int → Option (ByteArray)
 | 0, _ => none
 | k + 1, a0 => if a0 < 10 then (some (strOfNums (([(IntKind.u64.wrap (48 + a0)) % 256] : List Int)))) else ((credenzaref28_Digits.f k (IntKind.u64.wrap (Int.tdiv a0 10))).bind fun t596 => ((some (([(IntKind.u64.wrap (48 + (Int.tmod a0 10))) % 256] : List Int) : List Int)).bind fun y597 => (if t596.size + (strOfNums y597).size ≤ 9223372036854775807 then (some (t596 ++ (strOfNums y597))) else (none))))
def credenzaref28_Digits.T3 : Bool × List (List Nat × List Nat) := (true, [([], []), ([0], [0]), ([1], [1]), ([], []), ([3], [3]), ([4], [4]), ([5], [5]), ([6], [6]), ([7], [7]), ([2, 8], [2, 8]), ([9, 2, 0, 1, 2, 3, 4, 5, 6, 7, 8, 9], [9])])
def credenzaref28_Digits.B3 : List Nat := [0, 1, 3, 0, 8, 24, 56, 120, 248, 511, 1023]
theorem credenzaref28_Digits.tab3 : rtab .any (opsOf Tryz.f32 3) = credenzaref28_Digits.T3 := by kernel_rfl
theorem credenzaref28_Digits.bits3 : waitsOk credenzaref28_Digits.T3.2 credenzaref28_Digits.B3 = true := by kernel_rfl
set_option maxHeartbeats 8000000 in
set_option maxRecDepth 100000 in
theorem credenzaref28_Digits.calls (k : Nat) : ∀ (a0 : Int) (r : ByteArray) (w : World) (h : credenzaref28_Digits.f k a0 = some r),
  Calls Tryz.prog 32 #[.int .u64 a0] w fun e w' => e = .returned (.string r) ∧ Below w.heap.size w w' := by
 induction k using Nat.strongRecOn with
 | _ k ih =>
 intro a0 r w h
 cases k with
 | zero => exact absurd h (by simp [credenzaref28_Digits.f])
 | succ k =>
 simp only [credenzaref28_Digits.f] at h
 have HB := Aside0.mk (Below.refl w.heap.size w)
 have H : (if a0 < 10 then (some (strOfNums (([(IntKind.u64.wrap (48 + a0)) % 256] : List Int)))) else ((credenzaref28_Digits.f k (IntKind.u64.wrap (Int.tdiv a0 10))).bind fun t596 => ((some (([(IntKind.u64.wrap (48 + (Int.tmod a0 10))) % 256] : List Int) : List Int)).bind fun y597 => (if t596.size + (strOfNums y597).size ≤ 9223372036854775807 then (some (t596 ++ (strOfNums y597))) else (none))))) = some r := h
 clear h
 by_cases c2 : a0 < 10
 ·rw [if_pos c2] at H
  have c2b0 : decide (a0 < 10) = true := decide_eq_true c2
  clear c2
  obtain ⟨y593, hy593⟩ : ∃ y_ : List Int, y_ = (([(IntKind.u64.wrap (48 + a0)) % 256] : List Int)) := ⟨_, rfl⟩
  replace H : (some (strOfNums y593)) = some r := by first | (rw [hy593]; with_reducible exact H) | (have H2_ := (Option.bind_some _ _).symm.trans H; rw [hy593]; with_reducible exact H2_) | (have H2_ := (Option.bind_some _ _).symm.trans H; with_reducible exact H2_) | with_reducible exact H | (rw [hy593]; exact H) | exact H
  have Ny593 := Aside0.mk hy593
  clear hy593
  obtain rfl := Option.some.inj H
  go_enter Tryz.func32, Tryz.ntmps32
  go_wp2_with (first | ((with_reducible refine gate_dst (N := 8) rfl ?_); refine Kd.R_lit (Kd.int .u8) _ 5 ?hg (N := 8) ?hd (xs := ([(IntKind.u64.wrap (48 + a0)) % 256] : List Int)) (inner := [.int .u8 ((IntKind.u64.wrap (48 + a0)) % 256)]) (ok := fun _ => True) (okp := fun _ => True) ?hr ?hp (fun _ hk => hk) trivial (Below.refl _ _) (Nat.le_refl _) (by simp) ?_; (case hd => rfl); (case hg => rfl); (case hr => first | (go_simp; done) | (go_simp; rfl)); (case hp => exact (Reps.one (show Kd.M (Kd.int .u8) _ _ _ ((IntKind.u64.wrap (48 + a0)) % 256) [.int .u8 ((IntKind.u64.wrap (48 + a0)) % 256)] from rfl) (Reps.none _ _))); intro v594 w3 ho4 hb hg_ hnew_; clear hg_ hnew_; (first | rw [← Ny593.out] at ho4 | (simp only [Int.reduceToNat] at ho4; rw [← Ny593.out] at ho4)); have n0_ := Aside0.mk (Kd.R_lower ho4 (below_size (by repeat (first | (with_reducible first | exact HB.out | apply below_alloc | apply pw_below_drewN | apply below_drew1) | exact HB.out)))); have n1_ := Aside0.mk (below_step (by repeat (first | (with_reducible first | exact HB.out | apply below_alloc | apply pw_below_drewN | apply below_drew1) | exact HB.out)) hb); clear HB; have HO595 := n0_; have HB := n1_; clear n0_ n1_; clear hb ho4; have hcv5 := own_string (P := Tryz.prog) Tryz.underlying23 Tryz.underlying5 Tryz.underlying9 (Kd.own_of_R HO595.out)))
  go_ret
  exact ⟨by first | rfl | (simp [errW_none, errW_some] <;> rfl) | (simp [*, errW_none, errW_some] <;> rfl), by repeat (first | (with_reducible first | exact HB.out | apply below_alloc | apply pw_below_drewN | apply below_drew1) | exact HB.out)⟩
 ·rw [if_neg c2] at H
  have c2b0 : decide (a0 < 10) = false := decide_eq_false c2
  clear c2
  replace H := Option.bind_eq_some_iff.mp H
  obtain ⟨t596, A60, H⟩ := H
  replace H : ((some (([(IntKind.u64.wrap (48 + (Int.tmod a0 10))) % 256] : List Int) : List Int)).bind fun y597 => (if t596.size + (strOfNums y597).size ≤ 9223372036854775807 then (some (t596 ++ (strOfNums y597))) else (none))) = some r := H
  have A6 := Aside0.mk A60
  clear A60
  obtain ⟨y597, hy597⟩ : ∃ y_ : List Int, y_ = (([(IntKind.u64.wrap (48 + (Int.tmod a0 10))) % 256] : List Int)) := ⟨_, rfl⟩
  replace H : (if t596.size + (strOfNums y597).size ≤ 9223372036854775807 then (some (t596 ++ (strOfNums y597))) else (none)) = some r := by first | (rw [hy597]; with_reducible exact H) | (have H2_ := (Option.bind_some _ _).symm.trans H; rw [hy597]; with_reducible exact H2_) | (have H2_ := (Option.bind_some _ _).symm.trans H; with_reducible exact H2_) | with_reducible exact H | (rw [hy597]; exact H) | exact H
  have Ny597 := Aside0.mk hy597
  clear hy597
  by_cases c7 : t596.size + (strOfNums y597).size ≤ 9223372036854775807
  ·rw [if_pos c7] at H
   have c7b0 := eq_true c7
   have c7b1 : decide (t596.size + (strOfNums y597).size ≤ 9223372036854775807) = true := decide_eq_true c7
   try have c7b2 : (9223372036854775807 < t596.size + (strOfNums y597).size) = False := eq_false (Nat.not_lt.2 c7)
   obtain rfl := Option.some.inj H
   go_enter Tryz.func32, Tryz.ntmps32
   try go_wp2
   have n0_ := Aside0.mk (below_drew1 HB.out)
   clear HB
   have HB := n0_
   clear n0_
   refine start_ (n := 11) (S := fun w' => True) (ds := []) #[false, false, false, false, false, false, false, false, false, false, false] (by kernel_rfl) rfl rfl trivial (fun hHeld => ?_); refine with_tabW credenzaref28_Digits.tab3 credenzaref28_Digits.bits3 (fun HT_ HW_ => ?_)
   generalize w.drew = w8 at HB hHeld ⊢
   refine pure_ (i := 0) (N := some 10) (v := ?_) (a' := ?_) #[true, false, false, false, false, false, false, false, false, false, false] rfl rfl (any_of HT_.out (by kernel_rfl)) (fun _ _ _ h => h) (Or.inl ⟨by rfl, ?_⟩) ?_ ?_
   rotate_left
   ·intro w'
    go_simp
    with_reducible rfl
   rotate_left
   ·simp only [Act.put, List.setIfInBounds_toArray, List.set_cons_zero, List.set_cons_succ, i64_w, i32_w]
    rfl
   refine pure_ (i := 1) (N := some 11) (v := ?_) (a' := ?_) #[true, true, false, false, false, false, false, false, false, false, false] rfl rfl (any_of HT_.out (by kernel_rfl)) (fun _ _ _ h => h) (Or.inl ⟨by rfl, ?_⟩) ?_ ?_
   rotate_left
   ·intro w'
    go_simp
    with_reducible rfl
   rotate_left
   ·simp only [Act.put, List.setIfInBounds_toArray, List.set_cons_zero, List.set_cons_succ, i64_w, i32_w]
    rfl
   refine pure_ (i := 3) (N := some 13) (v := ?_) (a' := ?_) #[true, true, false, true, false, false, false, false, false, false, false] rfl rfl (any_of HT_.out (by kernel_rfl)) (fun _ _ _ h => h) (Or.inl ⟨by rfl, ?_⟩) ?_ ?_
   rotate_left
   ·intro w'
    go_simp
    with_reducible rfl
   rotate_left
   ·simp only [Act.put, List.setIfInBounds_toArray, List.set_cons_zero, List.set_cons_succ, i64_w, i32_w]
    rfl
   refine pure_ (i := 4) (N := some 14) (v := ?_) (a' := ?_) #[true, true, false, true, true, false, false, false, false, false, false] rfl rfl (any_of HT_.out (by kernel_rfl)) (fun _ _ _ h => h) (Or.inl ⟨by rfl, ?_⟩) ?_ ?_
   rotate_left
   ·intro w'
    go_simp
    with_reducible rfl
   rotate_left
   ·simp only [Act.put, List.setIfInBounds_toArray, List.set_cons_zero, List.set_cons_succ, i64_w, i32_w]
    rfl
   refine pure_ (i := 5) (N := some 15) (v := ?_) (a' := ?_) #[true, true, false, true, true, true, false, false, false, false, false] rfl rfl (any_of HT_.out (by kernel_rfl)) (fun _ _ _ h => h) (Or.inl ⟨by rfl, ?_⟩) ?_ ?_
   rotate_left
   ·intro w'
    go_simp
    with_reducible rfl
   rotate_left
   ·simp only [Act.put, List.setIfInBounds_toArray, List.set_cons_zero, List.set_cons_succ, i64_w, i32_w]
    rfl
   refine pure_ (i := 6) (N := some 16) (v := ?_) (a' := ?_) #[true, true, false, true, true, true, true, false, false, false, false] rfl rfl (any_of HT_.out (by kernel_rfl)) (fun _ _ _ h => h) (Or.inl ⟨by rfl, ?_⟩) ?_ ?_
   rotate_left
   ·intro w'
    go_simp
    with_reducible rfl
   rotate_left
   ·simp only [Act.put, List.setIfInBounds_toArray, List.set_cons_zero, List.set_cons_succ, i64_w, i32_w]
    rfl
   refine join_ (σ := Value) 2 #[true, true, true, true, true, true, true, true, true, false, false] (fun s_ => [(12, .string t596), (17, s_), (18, .string (strOfNums y597))]) (fun s_ w' => (Kd.R (Kd.int .u8) 5 w' w.heap.size (fun _ => True) s_ y597) ∧ (Below w.heap.size w w')) ?_ ?_
   rotate_left
   ·intro hCont
    refine two_ (i := 2) (j := 7) (Ni := some 12) (Nj := some 17) #[true, true, true, true, true, true, true, false, false, false, false] #[true, true, false, true, true, true, true, true, false, false, false] rfl rfl rfl rfl (two_of HT_.out (by kernel_rfl)) (by decide) (by decide) (fun K hK => ?_) (fun K hK => ?_)
    ·skip
     refine goes_ Tryz.func32 (by kernel_rfl) rfl #[.int .u64 (IntKind.u64.wrap (Int.tdiv a0 10))] (by rfl) rfl rfl (by (try simp only [List.map_toArray, List.map_cons, List.map_nil]); first | done | rfl | (simp only [List.length_drop, List.length_take]; rfl)) ?_
     with_reducible refine (ih k (by omega) (IntKind.u64.wrap (Int.tdiv a0 10)) t596 _ A6.out).mono ?_
     rintro e w9 ⟨rfl, hb⟩
     refine ⟨_, rfl, ?_⟩
     have n0_ := Aside0.mk (below_step (by repeat (first | (with_reducible first | exact HB.out | apply below_alloc | apply pw_below_drewN | apply below_drew1) | exact HB.out)) hb)
     clear HB
     have HB := n0_
     clear n0_
     (try clear hb)
     (try clear hb2)
     (try clear hk)
     (try clear hi)
     refine hK.out _ _ trivial (fun hHeld => ?_)
     clear hK K
     refine norm_ (a' := ?_) ?_ ?_
     rotate_left
     ·show Act.put _ (some 12) _ = _
      simp only [Act.put, List.setIfInBounds_toArray, List.set_cons_zero, List.set_cons_succ, i64_w, i32_w]
      rfl
     refine one_ (i := 7) (N := some 17) #[true, true, true, true, true, true, true, true, false, false, false] rfl rfl (one_of HT_.out (by kernel_rfl)) (by decide) (fun K hK => ?_)
     refine Kd.R_lit_step (Kd.int .u8) _ 5 ?hg (N := 17) ?hd (xs := ([(IntKind.u64.wrap (48 + (Int.tmod a0 10))) % 256] : List Int)) (inner := [.int .u8 ((IntKind.u64.wrap (48 + (Int.tmod a0 10))) % 256)]) (ok := fun _ => True) (okp := fun _ => True) ?hr ?hp (fun _ hk => hk) trivial (Below.refl _ _) (Nat.le_refl _) (by simp) ?_; (case hd => rfl); (case hg => rfl); (case hr => first | (go_simp; done) | (go_simp; rfl)); (case hp => exact (Reps.one (show Kd.M (Kd.int .u8) _ _ _ ((IntKind.u64.wrap (48 + (Int.tmod a0 10))) % 256) [.int .u8 ((IntKind.u64.wrap (48 + (Int.tmod a0 10))) % 256)] from rfl) (Reps.none _ _)))
     intro v598 w10 ho11 hb hg_ hnew_
     clear hg_ hnew_
     (first | rw [← Ny597.out] at ho11 | (simp only [Int.reduceToNat] at ho11; rw [← Ny597.out] at ho11))
     have n0_ := Aside0.mk (Kd.R_lower ho11 (below_size (by repeat (first | (with_reducible first | exact HB.out | apply below_alloc | apply pw_below_drewN | apply below_drew1) | exact HB.out))))
     have n1_ := Aside0.mk (below_step (by repeat (first | (with_reducible first | exact HB.out | apply below_alloc | apply pw_below_drewN | apply below_drew1) | exact HB.out)) hb)
     clear HB
     have HO599 := n0_
     have HB := n1_
     clear n0_ n1_
     clear hb ho11
     refine hK.out _ _ trivial (fun hHeld => ?_)
     clear hK K
     refine norm_ (a' := ?_) ?_ ?_
     rotate_left
     ·show Act.put _ (some 17) _ = _
      simp only [Act.put, List.setIfInBounds_toArray, List.set_cons_zero, List.set_cons_succ, i64_w, i32_w]
      rfl
     refine one_ (i := 8) (N := some 18) #[true, true, true, true, true, true, true, true, true, false, false] rfl rfl (one_of HT_.out (by kernel_rfl)) (by decide) (fun K hK => ?_)
     have hcv12 := own_string (P := Tryz.prog) Tryz.underlying23 Tryz.underlying5 Tryz.underlying9 (Kd.own_of_R HO599.out)
     refine value_ (w1 := ?_) (v := ?_) (by rfl) rfl ?_ ?_
     rotate_left 2
     ·go_simp
      constructor
      ·rfl
      ·rfl
     clear hcv12
     refine hK.out _ _ trivial (fun hHeld => ?_)
     clear hK K
     refine norm_ (a' := ?_) ?_ ?_
     rotate_left
     ·show Act.put _ (some 18) _ = _
      simp only [Act.put, List.setIfInBounds_toArray, List.set_cons_zero, List.set_cons_succ, i64_w, i32_w]
      rfl
     exact norm_ (by simp only [putAll, Act.put, List.setIfInBounds_toArray, List.set_cons_zero, List.set_cons_succ]) (hCont (v598) _ ⟨(by (with_reducible repeat (first | apply Kd.R_alloc | apply Kd.R_drewN | apply Kd.R_drew)); exact HO599.out), (by repeat (first | (with_reducible first | exact HB.out | apply below_alloc | apply pw_below_drewN | apply below_drew1) | exact HB.out))⟩)
    ·skip
     refine Kd.R_lit_step (Kd.int .u8) _ 5 ?hg (N := 17) ?hd (xs := ([(IntKind.u64.wrap (48 + (Int.tmod a0 10))) % 256] : List Int)) (inner := [.int .u8 ((IntKind.u64.wrap (48 + (Int.tmod a0 10))) % 256)]) (ok := fun _ => True) (okp := fun _ => True) ?hr ?hp (fun _ hk => hk) trivial (Below.refl _ _) (Nat.le_refl _) (by simp) ?_; (case hd => rfl); (case hg => rfl); (case hr => first | (go_simp; done) | (go_simp; rfl)); (case hp => exact (Reps.one (show Kd.M (Kd.int .u8) _ _ _ ((IntKind.u64.wrap (48 + (Int.tmod a0 10))) % 256) [.int .u8 ((IntKind.u64.wrap (48 + (Int.tmod a0 10))) % 256)] from rfl) (Reps.none _ _)))
     intro v598 w9 ho10 hb hg_ hnew_
     clear hg_ hnew_
     (first | rw [← Ny597.out] at ho10 | (simp only [Int.reduceToNat] at ho10; rw [← Ny597.out] at ho10))
     have n0_ := Aside0.mk (Kd.R_lower ho10 (below_size (by repeat (first | (with_reducible first | exact HB.out | apply below_alloc | apply pw_below_drewN | apply below_drew1) | exact HB.out))))
     have n1_ := Aside0.mk (below_step (by repeat (first | (with_reducible first | exact HB.out | apply below_alloc | apply pw_below_drewN | apply below_drew1) | exact HB.out)) hb)
     clear HB
     have HO599 := n0_
     have HB := n1_
     clear n0_ n1_
     clear hb ho10
     refine hK.out _ _ trivial (fun hHeld => ?_)
     clear hK K
     refine norm_ (a' := ?_) ?_ ?_
     rotate_left
     ·show Act.put _ (some 17) _ = _
      simp only [Act.put, List.setIfInBounds_toArray, List.set_cons_zero, List.set_cons_succ, i64_w, i32_w]
      rfl
     refine two_ (i := 2) (j := 8) (Ni := some 12) (Nj := some 18) #[true, true, true, true, true, true, true, true, false, false, false] #[true, true, false, true, true, true, true, true, true, false, false] rfl rfl rfl rfl (two_of HT_.out (by kernel_rfl)) (by decide) (by decide) (fun K hK => ?_) (fun K hK => ?_)
     ·skip
      refine goes_ Tryz.func32 (by kernel_rfl) rfl #[.int .u64 (IntKind.u64.wrap (Int.tdiv a0 10))] (by rfl) rfl rfl (by (try simp only [List.map_toArray, List.map_cons, List.map_nil]); first | done | rfl | (simp only [List.length_drop, List.length_take]; rfl)) ?_
      with_reducible refine (ih k (by omega) (IntKind.u64.wrap (Int.tdiv a0 10)) t596 _ A6.out).mono ?_
      rintro e w11 ⟨rfl, hb⟩
      refine ⟨_, rfl, ?_⟩
      have n0_ := Aside0.mk (Kd.R_below (by (with_reducible repeat (first | apply Kd.R_alloc | apply Kd.R_drewN | apply Kd.R_drew)); exact HO599.out) hb)
      have n1_ := Aside0.mk (below_step (by repeat (first | (with_reducible first | exact HB.out | apply below_alloc | apply pw_below_drewN | apply below_drew1) | exact HB.out)) hb)
      clear HO599
      clear HB
      have HO599 := n0_
      have HB := n1_
      clear n0_ n1_
      (try clear hb)
      (try clear hb2)
      (try clear hk)
      (try clear hi)
      refine hK.out _ _ trivial (fun hHeld => ?_)
      clear hK K
      refine norm_ (a' := ?_) ?_ ?_
      rotate_left
      ·show Act.put _ (some 12) _ = _
       simp only [Act.put, List.setIfInBounds_toArray, List.set_cons_zero, List.set_cons_succ, i64_w, i32_w]
       rfl
      refine one_ (i := 8) (N := some 18) #[true, true, true, true, true, true, true, true, true, false, false] rfl rfl (one_of HT_.out (by kernel_rfl)) (by decide) (fun K hK => ?_)
      have hcv12 := own_string (P := Tryz.prog) Tryz.underlying23 Tryz.underlying5 Tryz.underlying9 (Kd.own_of_R HO599.out)
      refine value_ (w1 := ?_) (v := ?_) (by rfl) rfl ?_ ?_
      rotate_left 2
      ·go_simp
       constructor
       ·rfl
       ·rfl
      clear hcv12
      refine hK.out _ _ trivial (fun hHeld => ?_)
      clear hK K
      refine norm_ (a' := ?_) ?_ ?_
      rotate_left
      ·show Act.put _ (some 18) _ = _
       simp only [Act.put, List.setIfInBounds_toArray, List.set_cons_zero, List.set_cons_succ, i64_w, i32_w]
       rfl
      exact norm_ (by simp only [putAll, Act.put, List.setIfInBounds_toArray, List.set_cons_zero, List.set_cons_succ]) (hCont (v598) _ ⟨(by (with_reducible repeat (first | apply Kd.R_alloc | apply Kd.R_drewN | apply Kd.R_drew)); exact HO599.out), (by repeat (first | (with_reducible first | exact HB.out | apply below_alloc | apply pw_below_drewN | apply below_drew1) | exact HB.out))⟩)
     ·skip
      have hcv11 := own_string (P := Tryz.prog) Tryz.underlying23 Tryz.underlying5 Tryz.underlying9 (Kd.own_of_R HO599.out)
      refine value_ (w1 := ?_) (v := ?_) (by rfl) rfl ?_ ?_
      rotate_left 2
      ·go_simp
       constructor
       ·rfl
       ·rfl
      clear hcv11
      refine hK.out _ _ trivial (fun hHeld => ?_)
      clear hK K
      refine norm_ (a' := ?_) ?_ ?_
      rotate_left
      ·show Act.put _ (some 18) _ = _
       simp only [Act.put, List.setIfInBounds_toArray, List.set_cons_zero, List.set_cons_succ, i64_w, i32_w]
       rfl
      refine one_ (i := 2) (N := some 12) #[true, true, true, true, true, true, true, true, true, false, false] rfl rfl (one_of HT_.out (by kernel_rfl)) (by decide) (fun K hK => ?_)
      refine goes_ Tryz.func32 (by kernel_rfl) rfl #[.int .u64 (IntKind.u64.wrap (Int.tdiv a0 10))] (by rfl) rfl rfl (by (try simp only [List.map_toArray, List.map_cons, List.map_nil]); first | done | rfl | (simp only [List.length_drop, List.length_take]; rfl)) ?_
      with_reducible refine (ih k (by omega) (IntKind.u64.wrap (Int.tdiv a0 10)) t596 _ A6.out).mono ?_
      rintro e w12 ⟨rfl, hb⟩
      refine ⟨_, rfl, ?_⟩
      have n0_ := Aside0.mk (Kd.R_below (by (with_reducible repeat (first | apply Kd.R_alloc | apply Kd.R_drewN | apply Kd.R_drew)); exact HO599.out) hb)
      have n1_ := Aside0.mk (below_step (by repeat (first | (with_reducible first | exact HB.out | apply below_alloc | apply pw_below_drewN | apply below_drew1) | exact HB.out)) hb)
      clear HO599
      clear HB
      have HO599 := n0_
      have HB := n1_
      clear n0_ n1_
      (try clear hb)
      (try clear hb2)
      (try clear hk)
      (try clear hi)
      refine hK.out _ _ trivial (fun hHeld => ?_)
      clear hK K
      refine norm_ (a' := ?_) ?_ ?_
      rotate_left
      ·show Act.put _ (some 12) _ = _
       simp only [Act.put, List.setIfInBounds_toArray, List.set_cons_zero, List.set_cons_succ, i64_w, i32_w]
       rfl
      exact norm_ (by simp only [putAll, Act.put, List.setIfInBounds_toArray, List.set_cons_zero, List.set_cons_succ]) (hCont (v598) _ ⟨(by (with_reducible repeat (first | apply Kd.R_alloc | apply Kd.R_drewN | apply Kd.R_drew)); exact HO599.out), (by repeat (first | (with_reducible first | exact HB.out | apply below_alloc | apply pw_below_drewN | apply below_drew1) | exact HB.out))⟩)
   rintro v598 w13 ⟨h0_, h1_⟩
   have n0_ : Aside0 (Kd.R (Kd.int .u8) 5 w13 w.heap.size (fun _ => True) v598 y597) := ⟨h0_⟩
   have n1_ : Aside0 (Below w.heap.size w w13) := ⟨h1_⟩
   clear HB
   clear h0_ h1_
   have HO599 := n0_
   have HB := n1_
   clear n0_ n1_
   have hHeld := trivial
   refine norm_ (a' := ?_) ?_ ?_
   rotate_left
   ·simp only [putAll, Act.put, List.setIfInBounds_toArray, List.set_cons_zero, List.set_cons_succ]
    rfl
   refine pure_ (i := 9) (N := some 19) (v := ?_) (a' := ?_) #[true, true, true, true, true, true, true, true, true, true, false] rfl rfl (any_of HT_.out (by kernel_rfl)) (fun _ _ _ h => h) (Or.inl ⟨by rfl, ?_⟩) ?_ ?_
   rotate_left
   ·intro w'
    go_simp
    with_reducible rfl
   rotate_left
   ·simp only [Act.put, List.setIfInBounds_toArray, List.set_cons_zero, List.set_cons_succ, i64_w, i32_w]
    rfl
   refine pure_ (i := 10) (N := some 2) (v := ?_) (a' := ?_) #[true, true, true, true, true, true, true, true, true, true, true] rfl rfl (any_of HT_.out (by kernel_rfl)) (fun _ _ _ h => h) (Or.inl ⟨by rfl, ?_⟩) ?_ ?_
   rotate_left
   ·intro w'
    go_simp
    with_reducible rfl
   rotate_left
   ·simp only [Act.put, List.setIfInBounds_toArray, List.set_cons_zero, List.set_cons_succ, i64_w, i32_w]
    rfl
   refine done_ (done_of HT_.out (by kernel_rfl)) ?_
   try go_wp2
   go_ret
   exact ⟨by first | rfl | (simp [errW_none, errW_some] <;> rfl) | (simp [*, errW_none, errW_some] <;> rfl), by repeat (first | (with_reducible first | exact HB.out | apply below_alloc | apply pw_below_drewN | apply below_drew1) | exact HB.out)⟩
  ·rw [if_neg c7] at H
   exact absurd H (by simp)

end Go.Proofs.YtcaiakbaklopmaaGreatDoor.Q
