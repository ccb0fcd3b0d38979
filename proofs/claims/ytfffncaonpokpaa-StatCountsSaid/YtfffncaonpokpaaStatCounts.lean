/- The walk of StatCounts; no condition. -/
import Derived.Test.YtfffncaonpokpaaStatC
import Derived.BigRegion
import Derived.Deep.DeepCutAuto
import Derived.Deep.CutBlock
namespace Go.Proofs.Ytfffncaonpokpaa
open Go.RowKit

/-- a slice of calls, each of three numbers, that came in -/
def TriplesAt (w : World) (A : Option Addr) (rows : List (List Int)) : Prop :=
  ∀ i, i < rows.length → ∃ b off, A = some ⟨b, off, none⟩ ∧ b < w.heap.size ∧ ∀ j, j < 3 → w.cell? ⟨b, off + (i * 3 + j), none⟩ = some (.int .i64 ((rows[i]?.getD [])[j]?.getD 0))

theorem setS (cs : List Int) (c : Nat) (x : Int) : (intsS cs).toArray.setIfInBounds c (.int .i64 x) = (intsS (cs.set c x)).toArray := by simp [intsS, List.map_set]
theorem addAt_nat {cs : List Int} {c : Nat} {n : Int} (hc : c < 9) : addAt cs c n = cs.set c (wrap64 (cs[c]?.getD 0 + n)) := if_pos ⟨by omega, by omega⟩
theorem raiseAt_nat {cs : List Int} {c : Nat} {n : Int} (hc : c < 9) : raiseAt cs c n = cs.set c (max (cs[c]?.getD 0) n) := if_pos ⟨by omega, by omega⟩
theorem intsS_get {cs : List Int} (hl : cs.length = 9) {c : Nat} (hc : c < 9) : (intsS cs)[c]? = some (.int .i64 (cs[c]?.getD 0)) := by
  have : c < cs.length := by omega
  simp [intsS, this]
theorem blk9_cell {w : World} {p t : Nat} {cs : List Int} (h : Blk w p t (intsS cs).toArray) (hl : cs.length = 9) {c : Nat} (hc : c < 9) : w.cell? ⟨p, c, none⟩ = some (.int .i64 (cs[c]?.getD 0)) := by
  rw [h.cell c, List.getElem?_toArray]
  exact intsS_get hl hc

theorem idx9 (a0 a1 a2 a3 a4 a5 a6 a7 a8 : Int) (W : World) :
    (Instr.index 43 (.agg (intsS [a0, a1, a2, a3, a4, a5, a6, a7, a8]).toArray) (.int .i64 0)).run Try.prog W = .ok (.int .i64 a0) W ∧
    (Instr.index 43 (.agg (intsS [a0, a1, a2, a3, a4, a5, a6, a7, a8]).toArray) (.int .i64 1)).run Try.prog W = .ok (.int .i64 a1) W ∧
    (Instr.index 43 (.agg (intsS [a0, a1, a2, a3, a4, a5, a6, a7, a8]).toArray) (.int .i64 2)).run Try.prog W = .ok (.int .i64 a2) W ∧
    (Instr.index 43 (.agg (intsS [a0, a1, a2, a3, a4, a5, a6, a7, a8]).toArray) (.int .i64 3)).run Try.prog W = .ok (.int .i64 a3) W ∧
    (Instr.index 43 (.agg (intsS [a0, a1, a2, a3, a4, a5, a6, a7, a8]).toArray) (.int .i64 4)).run Try.prog W = .ok (.int .i64 a4) W ∧
    (Instr.index 43 (.agg (intsS [a0, a1, a2, a3, a4, a5, a6, a7, a8]).toArray) (.int .i64 5)).run Try.prog W = .ok (.int .i64 a5) W ∧
    (Instr.index 43 (.agg (intsS [a0, a1, a2, a3, a4, a5, a6, a7, a8]).toArray) (.int .i64 6)).run Try.prog W = .ok (.int .i64 a6) W ∧
    (Instr.index 43 (.agg (intsS [a0, a1, a2, a3, a4, a5, a6, a7, a8]).toArray) (.int .i64 7)).run Try.prog W = .ok (.int .i64 a7) W ∧
    (Instr.index 43 (.agg (intsS [a0, a1, a2, a3, a4, a5, a6, a7, a8]).toArray) (.int .i64 8)).run Try.prog W = .ok (.int .i64 a8) W :=
  ⟨by kernel_rfl, by kernel_rfl, by kernel_rfl, by kernel_rfl, by kernel_rfl, by kernel_rfl, by kernel_rfl, by kernel_rfl, by kernel_rfl⟩

theorem index9 {cs : List Int} (hl : cs.length = 9) {t : Nat} (ht : t < 9) (W : World) :
    (Instr.index 43 (.agg (intsS cs).toArray) (.int .i64 t)).run Try.prog W = .ok (.int .i64 (cs[t]?.getD 0)) W := by
  match cs, hl with
  | [a0, a1, a2, a3, a4, a5, a6, a7, a8], _ =>
    obtain ⟨i0, i1, i2, i3, i4, i5, i6, i7, i8⟩ := idx9 a0 a1 a2 a3 a4 a5 a6 a7 a8 W
    match t, ht with
    | 0, _ => exact i0
    | 1, _ => exact i1
    | 2, _ => exact i2
    | 3, _ => exact i3
    | 4, _ => exact i4
    | 5, _ => exact i5
    | 6, _ => exact i6
    | 7, _ => exact i7
    | 8, _ => exact i8

theorem noted_1 (w : World) : Calls Try.prog 33 #[.int .i64 1] w fun e w' => e = .returned (.int .i64 2) ∧ w = w' := by
  go_enter Try.func33, Try.ntmps33
  go_wp2
  go_ret
  exact ⟨rfl, rfl⟩
theorem noted_2 (w : World) : Calls Try.prog 33 #[.int .i64 2] w fun e w' => e = .returned (.int .i64 3) ∧ w = w' := by
  go_enter Try.func33, Try.ntmps33
  go_wp2
  go_ret
  exact ⟨rfl, rfl⟩
theorem noted_3 (w : World) : Calls Try.prog 33 #[.int .i64 3] w fun e w' => e = .returned (.int .i64 4) ∧ w = w' := by
  go_enter Try.func33, Try.ntmps33
  go_wp2
  go_ret
  exact ⟨rfl, rfl⟩
theorem noted_4 (w : World) : Calls Try.prog 33 #[.int .i64 4] w fun e w' => e = .returned (.int .i64 5) ∧ w = w' := by
  go_enter Try.func33, Try.ntmps33
  go_wp2
  go_ret
  exact ⟨rfl, rfl⟩
theorem noted_5 (w : World) : Calls Try.prog 33 #[.int .i64 5] w fun e w' => e = .returned (.int .i64 1) ∧ w = w' := by
  go_enter Try.func33, Try.ntmps33
  go_wp2
  go_ret
  exact ⟨rfl, rfl⟩
theorem noted_no (k : Int) (n1 : ¬ k = 1) (n2 : ¬ k = 2) (n3 : ¬ k = 3) (n4 : ¬ k = 4) (n5 : ¬ k = 5) (w : World) : Calls Try.prog 33 #[.int .i64 k] w fun e w' => e = .returned (.int .i64 (-1)) ∧ w = w' := by
  go_enter Try.func33, Try.ntmps33
  go_wp2
  go_ret
  exact ⟨rfl, rfl⟩

set_option maxRecDepth 100000 in
set_option maxHeartbeats 4000000 in
theorem statCounts_walk (A : Option Addr) (cap : Nat) (ops : List (List Int)) (kind : Int) (w : World) (hops : TriplesAt w A ops) :
    Calls Try.prog 5 #[.slice A ops.length cap, .int .i64 kind] w fun e w' => e = .returned (.bool true) ∧ Below w.heap.size w w' := by
  by_cases h100 : 100 < ops.length
  · go_enter Try.func5, Try.ntmps5
    go_wp2_with (go_at_call 28; refine (awake26 _).mono ?_; rintro e w' ⟨rfl, hb⟩)
    go_ret
    exact ⟨rfl, hb⟩
  go_enter Try.func5, Try.ntmps5
  go_wp2_with fail
  refine (stat_new _).mono ?_
  rintro e w1 ⟨rfl, hm1, hb1⟩
  have q1 := hm1.2.2.lt
  obtain ⟨pm, hpm⟩ : ∃ pm, pm = w.heap.size := ⟨_, rfl⟩
  obtain ⟨pw, hpw⟩ : ∃ pw, pw = w1.heap.size := ⟨_, rfl⟩
  have hne : pm ≠ pw := by omega
  have hm2 : IsMeter (w1.alloc (.cells (intsS (List.replicate 9 0)).toArray 43)) pm w.heap.size (List.replicate 9 0) := by rw [hpm]; exact hm1.below ((Below.refl w1.heap.size w1).alloc (Nat.le_refl _) _) (Nat.le_refl _)
  have hw2 : Blk (w1.alloc (.cells (intsS (List.replicate 9 0)).toArray 43)) pw 43 (intsS (List.replicate 9 0)).toArray := by rw [hpw]; exact Blk.new _ _ _
  have hb2 : Below w.heap.size w (w1.alloc (.cells (intsS (List.replicate 9 0)).toArray 43)) := hb1.alloc hb1.size _
  have hpwB : w.heap.size ≤ pw := by rw [hpw]; exact hb1.size
  have e1 : Value.pointer (some ⟨w.heap.size, 0, none⟩) = Value.pointer (some ⟨pm, 0, none⟩) := by rw [hpm]
  rw [e1]
  have H := Lib.hid hpm
  have H2 := Lib.hid hpw
  clear e1 hpm hpw hm1 hb1 q1
  go_wp2_with fail
  rw [show w1.heap.size = pw from H2.out.symm]
  go_loopw [23] (fun i wr => ∃ (j : Nat) (cs : List Int), j ≤ ops.length ∧ i = .int .i64 j ∧ IsMeter wr pm w.heap.size cs ∧ Blk wr pw 43 (intsS cs).toArray ∧ Below w.heap.size w wr) (fun i _ => ops.length - (intOf i).toNat)
  case atStart => exact ⟨0, _, by omega, rfl, hm2, hw2, hb2⟩
  case round =>
    obtain ⟨j, cs, hj, rfl, hm, hw, hb⟩ := hrel
    by_cases hlt : j < ops.length
    · obtain ⟨b, off, rfl, hbl, hc⟩ := hops j hlt
      have hd0 := (hb.cell (p := ⟨b, off + (j * 3 + 0), none⟩) hbl).trans (hc 0 (by omega))
      have hd1 := (hb.cell (p := ⟨b, off + (j * 3 + 1), none⟩) hbl).trans (hc 1 (by omega))
      have hd2 := (hb.cell (p := ⟨b, off + (j * 3 + 2), none⟩) hbl).trans (hc 2 (by omega))
      generalize ((ops[j]?.getD [])[0]?.getD 0) = k0 at hd0
      generalize ((ops[j]?.getD [])[1]?.getD 0) = k1 at hd1
      generalize ((ops[j]?.getD [])[2]?.getD 0) = k2 at hd2
      rw [← Nat.add_assoc] at hd0 hd1 hd2
      rw [Nat.add_zero] at hd0
      clear hc hops
      have hs := hb.size
      have hO := Blk.new wr 45 #[.int .i64 k0, .int .i64 k1, .int .i64 k2]
      have hmO := hm.below ((Below.refl wr.heap.size wr).alloc (Nat.le_refl _) (.cells #[.int .i64 k0, .int .i64 k1, .int .i64 k2] 45)) (Nat.le_refl _)
      have hwO := hw.alloc (.cells #[.int .i64 k0, .int .i64 k1, .int .i64 k2] 45)
      have hbO := hb.alloc hs (.cells #[.int .i64 k0, .int .i64 k1, .int .i64 k2] 45)
      rcases (show k1 < 0 ∨ 9 ≤ k1 ∨ (0 ≤ k1 ∧ k1 < 9) by omega) with ht | ht | ⟨ht, ht9⟩
      · have hnt : ¬ (0 ≤ k1 ∧ k1 < 9) := by omega
        go_upto_block 2 with fail
        go_cut [10] (fun (_ : Value) wx => ∃ cs', IsMeter wx pm w.heap.size cs' ∧ Blk wx pw 43 (intsS cs').toArray ∧ Below w.heap.size w wx)
        case first =>
          by_cases e1 : k0 = 1
          · subst e1
            go_wp2_with fail
            refine (stat_add _ _ _ k1 k2 _ hmO).mono ?_
            rintro e w2 ⟨rfl, hm2, hb2, ho2, hg2⟩
            rw [show addAt cs k1 k2 = cs from if_neg hnt] at hm2
            have hw2 := ho2.blk hwO (by decide)
            go_wp2_with fail
            go_meet
            case rel => exact ⟨cs, hm2, hw2, hbO.trans hb2⟩
          by_cases e2 : k0 = 2
          · subst e2
            go_wp2_with fail
            refine (stat_raise _ _ _ k1 k2 _ hmO).mono ?_
            rintro e w2 ⟨rfl, hm2, hb2, ho2, hg2⟩
            rw [show raiseAt cs k1 k2 = cs from if_neg hnt] at hm2
            have hw2 := ho2.blk hwO (by decide)
            go_wp2_with fail
            go_meet
            case rel => exact ⟨cs, hm2, hw2, hbO.trans hb2⟩
          by_cases e3 : k0 = 3
          · subst e3
            by_cases n1 : k2 = 1
            · subst n1
              go_wp2_with fail
              refine (stat_note _ _ _ 1 7 0 0 0 _ hmO (by simp; omega)).mono ?_
              rintro e w2 ⟨rfl, hm2, hb2, ho2⟩
              rw [show noteAt cs 1 = addAt cs (2 : Nat) 1 from rfl] at hm2
              have hO2 := ho2.blk hO (by decide)
              have hw2 := ho2.blk hwO (by decide)
              have o2 := hO2.cell 2
              simp only [List.getElem?_toArray, List.getElem?_cons_succ, List.getElem?_cons_zero] at o2
              have hcc := blk9_cell hw2 hm.2.1 (show 2 < 9 by omega)
              have hcf := hw2.frozen 2
              generalize hv : cs[2]?.getD 0 = v at hcc
              have Hv := Lib.hid hv
              have W2 := Lib.hid hw2
              clear hv hO2 hw2
              go_wp2_with fail
              refine (noted_1 _).mono ?_
              rintro e w3 ⟨rfl, rfl⟩
              go_wp2_with fail
              go_meet
              case rel =>
                refine ⟨addAt cs (2 : Nat) 1, hm2.grown (w' := w2.setCell ⟨pw, 2, none⟩ (.int .i64 (wrap64 (v + 1)))) (only_setCell (World.grownBy.refl _ _) (.inl rfl) _) hne, ?_, (hbO.trans hb2).setCell hpwB _⟩
                rw [addAt_nat (by omega), Hv.out, ← setS]
                exact W2.out.set_ 2 _
            by_cases n2 : k2 = 2
            · subst n2
              go_wp2_with fail
              refine (stat_note _ _ _ 2 7 0 0 0 _ hmO (by simp; omega)).mono ?_
              rintro e w2 ⟨rfl, hm2, hb2, ho2⟩
              rw [show noteAt cs 2 = addAt cs (3 : Nat) 1 from rfl] at hm2
              have hO2 := ho2.blk hO (by decide)
              have hw2 := ho2.blk hwO (by decide)
              have o2 := hO2.cell 2
              simp only [List.getElem?_toArray, List.getElem?_cons_succ, List.getElem?_cons_zero] at o2
              have hcc := blk9_cell hw2 hm.2.1 (show 3 < 9 by omega)
              have hcf := hw2.frozen 3
              generalize hv : cs[3]?.getD 0 = v at hcc
              have Hv := Lib.hid hv
              have W2 := Lib.hid hw2
              clear hv hO2 hw2
              go_wp2_with fail
              refine (noted_2 _).mono ?_
              rintro e w3 ⟨rfl, rfl⟩
              go_wp2_with fail
              go_meet
              case rel =>
                refine ⟨addAt cs (3 : Nat) 1, hm2.grown (w' := w2.setCell ⟨pw, 3, none⟩ (.int .i64 (wrap64 (v + 1)))) (only_setCell (World.grownBy.refl _ _) (.inl rfl) _) hne, ?_, (hbO.trans hb2).setCell hpwB _⟩
                rw [addAt_nat (by omega), Hv.out, ← setS]
                exact W2.out.set_ 3 _
            by_cases n3 : k2 = 3
            · subst n3
              go_wp2_with fail
              refine (stat_note _ _ _ 3 7 0 0 0 _ hmO (by simp; omega)).mono ?_
              rintro e w2 ⟨rfl, hm2, hb2, ho2⟩
              rw [show noteAt cs 3 = addAt cs (4 : Nat) 1 from rfl] at hm2
              have hO2 := ho2.blk hO (by decide)
              have hw2 := ho2.blk hwO (by decide)
              have o2 := hO2.cell 2
              simp only [List.getElem?_toArray, List.getElem?_cons_succ, List.getElem?_cons_zero] at o2
              have hcc := blk9_cell hw2 hm.2.1 (show 4 < 9 by omega)
              have hcf := hw2.frozen 4
              generalize hv : cs[4]?.getD 0 = v at hcc
              have Hv := Lib.hid hv
              have W2 := Lib.hid hw2
              clear hv hO2 hw2
              go_wp2_with fail
              refine (noted_3 _).mono ?_
              rintro e w3 ⟨rfl, rfl⟩
              go_wp2_with fail
              go_meet
              case rel =>
                refine ⟨addAt cs (4 : Nat) 1, hm2.grown (w' := w2.setCell ⟨pw, 4, none⟩ (.int .i64 (wrap64 (v + 1)))) (only_setCell (World.grownBy.refl _ _) (.inl rfl) _) hne, ?_, (hbO.trans hb2).setCell hpwB _⟩
                rw [addAt_nat (by omega), Hv.out, ← setS]
                exact W2.out.set_ 4 _
            by_cases n4 : k2 = 4
            · subst n4
              go_wp2_with fail
              refine (stat_note _ _ _ 4 7 0 0 0 _ hmO (by simp; omega)).mono ?_
              rintro e w2 ⟨rfl, hm2, hb2, ho2⟩
              rw [show noteAt cs 4 = addAt cs (5 : Nat) 1 from rfl] at hm2
              have hO2 := ho2.blk hO (by decide)
              have hw2 := ho2.blk hwO (by decide)
              have o2 := hO2.cell 2
              simp only [List.getElem?_toArray, List.getElem?_cons_succ, List.getElem?_cons_zero] at o2
              have hcc := blk9_cell hw2 hm.2.1 (show 5 < 9 by omega)
              have hcf := hw2.frozen 5
              generalize hv : cs[5]?.getD 0 = v at hcc
              have Hv := Lib.hid hv
              have W2 := Lib.hid hw2
              clear hv hO2 hw2
              go_wp2_with fail
              refine (noted_4 _).mono ?_
              rintro e w3 ⟨rfl, rfl⟩
              go_wp2_with fail
              go_meet
              case rel =>
                refine ⟨addAt cs (5 : Nat) 1, hm2.grown (w' := w2.setCell ⟨pw, 5, none⟩ (.int .i64 (wrap64 (v + 1)))) (only_setCell (World.grownBy.refl _ _) (.inl rfl) _) hne, ?_, (hbO.trans hb2).setCell hpwB _⟩
                rw [addAt_nat (by omega), Hv.out, ← setS]
                exact W2.out.set_ 5 _
            by_cases n5 : k2 = 5
            · subst n5
              go_wp2_with fail
              refine (stat_note _ _ _ 5 7 0 0 0 _ hmO (by simp; omega)).mono ?_
              rintro e w2 ⟨rfl, hm2, hb2, ho2⟩
              rw [show noteAt cs 5 = addAt cs (1 : Nat) 1 from rfl] at hm2
              have hO2 := ho2.blk hO (by decide)
              have hw2 := ho2.blk hwO (by decide)
              have o2 := hO2.cell 2
              simp only [List.getElem?_toArray, List.getElem?_cons_succ, List.getElem?_cons_zero] at o2
              have hcc := blk9_cell hw2 hm.2.1 (show 1 < 9 by omega)
              have hcf := hw2.frozen 1
              generalize hv : cs[1]?.getD 0 = v at hcc
              have Hv := Lib.hid hv
              have W2 := Lib.hid hw2
              clear hv hO2 hw2
              go_wp2_with fail
              refine (noted_5 _).mono ?_
              rintro e w3 ⟨rfl, rfl⟩
              go_wp2_with fail
              go_meet
              case rel =>
                refine ⟨addAt cs (1 : Nat) 1, hm2.grown (w' := w2.setCell ⟨pw, 1, none⟩ (.int .i64 (wrap64 (v + 1)))) (only_setCell (World.grownBy.refl _ _) (.inl rfl) _) hne, ?_, (hbO.trans hb2).setCell hpwB _⟩
                rw [addAt_nat (by omega), Hv.out, ← setS]
                exact W2.out.set_ 1 _
            go_wp2_with fail
            refine (stat_note _ _ _ k2 7 0 0 0 _ hmO (by simp; omega)).mono ?_
            rintro e w2 ⟨rfl, hm2, hb2, ho2⟩
            rw [show noteAt cs k2 = cs from by unfold noteAt; rw [if_neg n1, if_neg n2, if_neg n3, if_neg n4, if_neg n5]] at hm2
            have hO2 := ho2.blk hO (by decide)
            have hw2 := ho2.blk hwO (by decide)
            have o2 := hO2.cell 2
            simp only [List.getElem?_toArray, List.getElem?_cons_succ, List.getElem?_cons_zero] at o2
            have W2 := Lib.hid hw2
            clear hO2 hw2
            go_wp2_with fail
            refine (noted_no k2 n1 n2 n3 n4 n5 _).mono ?_
            rintro e w3 ⟨rfl, rfl⟩
            go_wp2_with fail
            go_meet
            case rel => exact ⟨cs, hm2, W2.out, hbO.trans hb2⟩
          go_wp2_with fail
          go_meet
          case rel => exact ⟨cs, hmO, hwO, hbO⟩
        case rest =>
          obtain ⟨cs', hmx, hwx, hbx⟩ := hcut
          go_wp2_with fail
          refine (stat_all _ _ _ _ hmx).mono ?_
          rintro e w3 ⟨v, rfl, hown, hb3⟩
          obtain ⟨g, cap', rfl⟩ : ∃ g cap', v = .slice (some ⟨g, 0, none⟩) 9 cap' := by
            rcases hown.2 with ⟨_, h0⟩ | ⟨g, cap', _, h, _⟩
            · omega
            · exact ⟨g, cap', h⟩
          have hw3 : w3.heap[pw]? = some (.cells (intsS cs').toArray 43 (0, 0)) := hwx.below hb3 hwx.lt
          have hm3 := hmx.below hb3 (Nat.le_refl _)
          have hl9 := hmx.2.1
          have hsz : (Try.prog.info? 43).map (·.size) = some (intsS cs').toArray.size := by rw [show (intsS cs').toArray.size = 9 by simp [intsS, hl9]]; kernel_rfl
          have Hsz := Lib.hid hsz
          have Hw := Lib.hid hw3
          have Hl9 := Lib.hid hl9
          have hbb := hbx.trans (hb3.mono hbx.size)
          have Hwx := Lib.hid hwx
          clear hsz hw3 hl9 hwx
          go_wp2_with (refine wpList_load_row rfl 43 _ rfl pw rfl 43 _ (0, 0) _ Hw.out Try.underlying43 rfl Hsz.out ?_)
          go_loop [96] (fun i => ∃ t : Nat, t ≤ 9 ∧ i = .int .i64 t) (fun i => 9 - (intOf i).toNat)
          case atStart => exact ⟨0, by omega, rfl⟩
          case round =>
            obtain ⟨t, ht, rfl⟩ := hrel
            by_cases ht9 : t < 9
            · have hix := index9 Hl9.out ht9
              have hlc := hown.cellAt t (by omega)
              rw [intsS_get Hl9.out ht9] at hlc
              have cg := stat_get _ _ _ (t : Int) w3 hm3
              rw [getAt_nat _ t ht9] at cg
              generalize cs'[t]?.getD 0 = z at hix hlc cg
              have CG := Lib.hid cg
              clear cg
              go_wp2_with fail
              refine CG.out.mono ?_
              rintro e w4 ⟨rfl, rfl⟩
              go_wp2
              go_round
              case rel => exact ⟨t + 1, by omega, by go_num⟩
              case measure => simp [intOf]; omega
            · obtain rfl : t = 9 := by omega
              go_wp2
              go_roundw
              case rel => exact ⟨j + 1, cs', by omega, by go_num, hm3, Hw.out, hbb⟩
              case measure => simp [intOf]; omega
      · have hnt : ¬ (0 ≤ k1 ∧ k1 < 9) := by omega
        have ht0 : 0 ≤ k1 := by omega
        go_upto_block 2 with fail
        go_cut [10] (fun (_ : Value) wx => ∃ cs', IsMeter wx pm w.heap.size cs' ∧ Blk wx pw 43 (intsS cs').toArray ∧ Below w.heap.size w wx)
        case first =>
          by_cases e1 : k0 = 1
          · subst e1
            go_wp2_with fail
            refine (stat_add _ _ _ k1 k2 _ hmO).mono ?_
            rintro e w2 ⟨rfl, hm2, hb2, ho2, hg2⟩
            rw [show addAt cs k1 k2 = cs from if_neg hnt] at hm2
            have hw2 := ho2.blk hwO (by decide)
            go_wp2_with fail
            go_meet
            case rel => exact ⟨cs, hm2, hw2, hbO.trans hb2⟩
          by_cases e2 : k0 = 2
          · subst e2
            go_wp2_with fail
            refine (stat_raise _ _ _ k1 k2 _ hmO).mono ?_
            rintro e w2 ⟨rfl, hm2, hb2, ho2, hg2⟩
            rw [show raiseAt cs k1 k2 = cs from if_neg hnt] at hm2
            have hw2 := ho2.blk hwO (by decide)
            go_wp2_with fail
            go_meet
            case rel => exact ⟨cs, hm2, hw2, hbO.trans hb2⟩
          by_cases e3 : k0 = 3
          · subst e3
            by_cases n1 : k2 = 1
            · subst n1
              go_wp2_with fail
              refine (stat_note _ _ _ 1 7 0 0 0 _ hmO (by simp; omega)).mono ?_
              rintro e w2 ⟨rfl, hm2, hb2, ho2⟩
              rw [show noteAt cs 1 = addAt cs (2 : Nat) 1 from rfl] at hm2
              have hO2 := ho2.blk hO (by decide)
              have hw2 := ho2.blk hwO (by decide)
              have o2 := hO2.cell 2
              simp only [List.getElem?_toArray, List.getElem?_cons_succ, List.getElem?_cons_zero] at o2
              have hcc := blk9_cell hw2 hm.2.1 (show 2 < 9 by omega)
              have hcf := hw2.frozen 2
              generalize hv : cs[2]?.getD 0 = v at hcc
              have Hv := Lib.hid hv
              have W2 := Lib.hid hw2
              clear hv hO2 hw2
              go_wp2_with fail
              refine (noted_1 _).mono ?_
              rintro e w3 ⟨rfl, rfl⟩
              go_wp2_with fail
              go_meet
              case rel =>
                refine ⟨addAt cs (2 : Nat) 1, hm2.grown (w' := w2.setCell ⟨pw, 2, none⟩ (.int .i64 (wrap64 (v + 1)))) (only_setCell (World.grownBy.refl _ _) (.inl rfl) _) hne, ?_, (hbO.trans hb2).setCell hpwB _⟩
                rw [addAt_nat (by omega), Hv.out, ← setS]
                exact W2.out.set_ 2 _
            by_cases n2 : k2 = 2
            · subst n2
              go_wp2_with fail
              refine (stat_note _ _ _ 2 7 0 0 0 _ hmO (by simp; omega)).mono ?_
              rintro e w2 ⟨rfl, hm2, hb2, ho2⟩
              rw [show noteAt cs 2 = addAt cs (3 : Nat) 1 from rfl] at hm2
              have hO2 := ho2.blk hO (by decide)
              have hw2 := ho2.blk hwO (by decide)
              have o2 := hO2.cell 2
              simp only [List.getElem?_toArray, List.getElem?_cons_succ, List.getElem?_cons_zero] at o2
              have hcc := blk9_cell hw2 hm.2.1 (show 3 < 9 by omega)
              have hcf := hw2.frozen 3
              generalize hv : cs[3]?.getD 0 = v at hcc
              have Hv := Lib.hid hv
              have W2 := Lib.hid hw2
              clear hv hO2 hw2
              go_wp2_with fail
              refine (noted_2 _).mono ?_
              rintro e w3 ⟨rfl, rfl⟩
              go_wp2_with fail
              go_meet
              case rel =>
                refine ⟨addAt cs (3 : Nat) 1, hm2.grown (w' := w2.setCell ⟨pw, 3, none⟩ (.int .i64 (wrap64 (v + 1)))) (only_setCell (World.grownBy.refl _ _) (.inl rfl) _) hne, ?_, (hbO.trans hb2).setCell hpwB _⟩
                rw [addAt_nat (by omega), Hv.out, ← setS]
                exact W2.out.set_ 3 _
            by_cases n3 : k2 = 3
            · subst n3
              go_wp2_with fail
              refine (stat_note _ _ _ 3 7 0 0 0 _ hmO (by simp; omega)).mono ?_
              rintro e w2 ⟨rfl, hm2, hb2, ho2⟩
              rw [show noteAt cs 3 = addAt cs (4 : Nat) 1 from rfl] at hm2
              have hO2 := ho2.blk hO (by decide)
              have hw2 := ho2.blk hwO (by decide)
              have o2 := hO2.cell 2
              simp only [List.getElem?_toArray, List.getElem?_cons_succ, List.getElem?_cons_zero] at o2
              have hcc := blk9_cell hw2 hm.2.1 (show 4 < 9 by omega)
              have hcf := hw2.frozen 4
              generalize hv : cs[4]?.getD 0 = v at hcc
              have Hv := Lib.hid hv
              have W2 := Lib.hid hw2
              clear hv hO2 hw2
              go_wp2_with fail
              refine (noted_3 _).mono ?_
              rintro e w3 ⟨rfl, rfl⟩
              go_wp2_with fail
              go_meet
              case rel =>
                refine ⟨addAt cs (4 : Nat) 1, hm2.grown (w' := w2.setCell ⟨pw, 4, none⟩ (.int .i64 (wrap64 (v + 1)))) (only_setCell (World.grownBy.refl _ _) (.inl rfl) _) hne, ?_, (hbO.trans hb2).setCell hpwB _⟩
                rw [addAt_nat (by omega), Hv.out, ← setS]
                exact W2.out.set_ 4 _
            by_cases n4 : k2 = 4
            · subst n4
              go_wp2_with fail
              refine (stat_note _ _ _ 4 7 0 0 0 _ hmO (by simp; omega)).mono ?_
              rintro e w2 ⟨rfl, hm2, hb2, ho2⟩
              rw [show noteAt cs 4 = addAt cs (5 : Nat) 1 from rfl] at hm2
              have hO2 := ho2.blk hO (by decide)
              have hw2 := ho2.blk hwO (by decide)
              have o2 := hO2.cell 2
              simp only [List.getElem?_toArray, List.getElem?_cons_succ, List.getElem?_cons_zero] at o2
              have hcc := blk9_cell hw2 hm.2.1 (show 5 < 9 by omega)
              have hcf := hw2.frozen 5
              generalize hv : cs[5]?.getD 0 = v at hcc
              have Hv := Lib.hid hv
              have W2 := Lib.hid hw2
              clear hv hO2 hw2
              go_wp2_with fail
              refine (noted_4 _).mono ?_
              rintro e w3 ⟨rfl, rfl⟩
              go_wp2_with fail
              go_meet
              case rel =>
                refine ⟨addAt cs (5 : Nat) 1, hm2.grown (w' := w2.setCell ⟨pw, 5, none⟩ (.int .i64 (wrap64 (v + 1)))) (only_setCell (World.grownBy.refl _ _) (.inl rfl) _) hne, ?_, (hbO.trans hb2).setCell hpwB _⟩
                rw [addAt_nat (by omega), Hv.out, ← setS]
                exact W2.out.set_ 5 _
            by_cases n5 : k2 = 5
            · subst n5
              go_wp2_with fail
              refine (stat_note _ _ _ 5 7 0 0 0 _ hmO (by simp; omega)).mono ?_
              rintro e w2 ⟨rfl, hm2, hb2, ho2⟩
              rw [show noteAt cs 5 = addAt cs (1 : Nat) 1 from rfl] at hm2
              have hO2 := ho2.blk hO (by decide)
              have hw2 := ho2.blk hwO (by decide)
              have o2 := hO2.cell 2
              simp only [List.getElem?_toArray, List.getElem?_cons_succ, List.getElem?_cons_zero] at o2
              have hcc := blk9_cell hw2 hm.2.1 (show 1 < 9 by omega)
              have hcf := hw2.frozen 1
              generalize hv : cs[1]?.getD 0 = v at hcc
              have Hv := Lib.hid hv
              have W2 := Lib.hid hw2
              clear hv hO2 hw2
              go_wp2_with fail
              refine (noted_5 _).mono ?_
              rintro e w3 ⟨rfl, rfl⟩
              go_wp2_with fail
              go_meet
              case rel =>
                refine ⟨addAt cs (1 : Nat) 1, hm2.grown (w' := w2.setCell ⟨pw, 1, none⟩ (.int .i64 (wrap64 (v + 1)))) (only_setCell (World.grownBy.refl _ _) (.inl rfl) _) hne, ?_, (hbO.trans hb2).setCell hpwB _⟩
                rw [addAt_nat (by omega), Hv.out, ← setS]
                exact W2.out.set_ 1 _
            go_wp2_with fail
            refine (stat_note _ _ _ k2 7 0 0 0 _ hmO (by simp; omega)).mono ?_
            rintro e w2 ⟨rfl, hm2, hb2, ho2⟩
            rw [show noteAt cs k2 = cs from by unfold noteAt; rw [if_neg n1, if_neg n2, if_neg n3, if_neg n4, if_neg n5]] at hm2
            have hO2 := ho2.blk hO (by decide)
            have hw2 := ho2.blk hwO (by decide)
            have o2 := hO2.cell 2
            simp only [List.getElem?_toArray, List.getElem?_cons_succ, List.getElem?_cons_zero] at o2
            have W2 := Lib.hid hw2
            clear hO2 hw2
            go_wp2_with fail
            refine (noted_no k2 n1 n2 n3 n4 n5 _).mono ?_
            rintro e w3 ⟨rfl, rfl⟩
            go_wp2_with fail
            go_meet
            case rel => exact ⟨cs, hm2, W2.out, hbO.trans hb2⟩
          go_wp2_with fail
          go_meet
          case rel => exact ⟨cs, hmO, hwO, hbO⟩
        case rest =>
          obtain ⟨cs', hmx, hwx, hbx⟩ := hcut
          go_wp2_with fail
          refine (stat_all _ _ _ _ hmx).mono ?_
          rintro e w3 ⟨v, rfl, hown, hb3⟩
          obtain ⟨g, cap', rfl⟩ : ∃ g cap', v = .slice (some ⟨g, 0, none⟩) 9 cap' := by
            rcases hown.2 with ⟨_, h0⟩ | ⟨g, cap', _, h, _⟩
            · omega
            · exact ⟨g, cap', h⟩
          have hw3 : w3.heap[pw]? = some (.cells (intsS cs').toArray 43 (0, 0)) := hwx.below hb3 hwx.lt
          have hm3 := hmx.below hb3 (Nat.le_refl _)
          have hl9 := hmx.2.1
          have hsz : (Try.prog.info? 43).map (·.size) = some (intsS cs').toArray.size := by rw [show (intsS cs').toArray.size = 9 by simp [intsS, hl9]]; kernel_rfl
          have Hsz := Lib.hid hsz
          have Hw := Lib.hid hw3
          have Hl9 := Lib.hid hl9
          have hbb := hbx.trans (hb3.mono hbx.size)
          have Hwx := Lib.hid hwx
          clear hsz hw3 hl9 hwx
          go_wp2_with (refine wpList_load_row rfl 43 _ rfl pw rfl 43 _ (0, 0) _ Hw.out Try.underlying43 rfl Hsz.out ?_)
          go_loop [96] (fun i => ∃ t : Nat, t ≤ 9 ∧ i = .int .i64 t) (fun i => 9 - (intOf i).toNat)
          case atStart => exact ⟨0, by omega, rfl⟩
          case round =>
            obtain ⟨t, ht, rfl⟩ := hrel
            by_cases ht9 : t < 9
            · have hix := index9 Hl9.out ht9
              have hlc := hown.cellAt t (by omega)
              rw [intsS_get Hl9.out ht9] at hlc
              have cg := stat_get _ _ _ (t : Int) w3 hm3
              rw [getAt_nat _ t ht9] at cg
              generalize cs'[t]?.getD 0 = z at hix hlc cg
              have CG := Lib.hid cg
              clear cg
              go_wp2_with fail
              refine CG.out.mono ?_
              rintro e w4 ⟨rfl, rfl⟩
              go_wp2
              go_round
              case rel => exact ⟨t + 1, by omega, by go_num⟩
              case measure => simp [intOf]; omega
            · obtain rfl : t = 9 := by omega
              go_wp2
              go_roundw
              case rel => exact ⟨j + 1, cs', by omega, by go_num, hm3, Hw.out, hbb⟩
              case measure => simp [intOf]; omega
      · obtain ⟨c, rfl⟩ : ∃ c : Nat, k1 = c := ⟨k1.toNat, by omega⟩
        have hc9 : c < 9 := by omega
        go_upto_block 2 with fail
        go_cut [10] (fun (_ : Value) wx => ∃ cs', IsMeter wx pm w.heap.size cs' ∧ Blk wx pw 43 (intsS cs').toArray ∧ Below w.heap.size w wx)
        case first =>
          by_cases e1 : k0 = 1
          · subst e1
            go_wp2_with fail
            refine (stat_add _ _ _ (c : Int) k2 _ hmO).mono ?_
            rintro e w2 ⟨rfl, hm2, hb2, ho2, hg2⟩
            have hO2 := ho2.blk hO (by decide)
            have hw2 := ho2.blk hwO (by decide)
            have o1 := hO2.cell 1
            have o2 := hO2.cell 2
            simp only [List.getElem?_toArray, List.getElem?_cons_succ, List.getElem?_cons_zero] at o1 o2
            have hcc := blk9_cell hw2 hm.2.1 hc9
            have hcf := hw2.frozen c
            generalize hv : cs[c]?.getD 0 = v at hcc
            have Hv := Lib.hid hv
            have W2 := Lib.hid hw2
            clear hv hO2 hw2
            go_wp2_with fail
            go_region
            go_wp2_with fail
            go_meet
            case rel =>
              refine ⟨addAt cs c k2, hm2.grown (w' := w2.setCell ⟨pw, c, none⟩ (.int .i64 (wrap64 (v + k2)))) (only_setCell (World.grownBy.refl _ _) (.inl rfl) _) hne, ?_, below_drewN ((hbO.trans hb2).setCell hpwB _) 1⟩
              rw [addAt_nat hc9, Hv.out, ← setS]
              exact W2.out.set_ c _
          by_cases e2 : k0 = 2
          · subst e2
            rcases (show cs[c]?.getD 0 < k2 ∨ k2 ≤ cs[c]?.getD 0 by omega) with hvk | hvk
            · go_wp2_with fail
              refine (stat_raise _ _ _ (c : Int) k2 _ hmO).mono ?_
              rintro e w2 ⟨rfl, hm2, hb2, ho2, hg2⟩
              have hO2 := ho2.blk hO (by decide)
              have hw2 := ho2.blk hwO (by decide)
              have o1 := hO2.cell 1
              have o2 := hO2.cell 2
              simp only [List.getElem?_toArray, List.getElem?_cons_succ, List.getElem?_cons_zero] at o1 o2
              have hcc := blk9_cell hw2 hm.2.1 hc9
              have hcf := hw2.frozen c
              generalize hv : cs[c]?.getD 0 = v at hcc hvk
              have Hv := Lib.hid hv
              have W2 := Lib.hid hw2
              clear hv hO2 hw2
              go_wp2_with fail
              go_region
              go_wp2_with fail
              go_meet
              case rel =>
                refine ⟨raiseAt cs c k2, hm2.grown (w' := w2.setCell ⟨pw, c, none⟩ (.int .i64 k2)) (only_setCell (World.grownBy.refl _ _) (.inl rfl) _) hne, ?_, below_drewN ((hbO.trans hb2).setCell hpwB _) 1⟩
                rw [raiseAt_nat hc9, Hv.out, Int.max_eq_right (by omega), ← setS]
                exact W2.out.set_ c _
            · go_wp2_with fail
              refine (stat_raise _ _ _ (c : Int) k2 _ hmO).mono ?_
              rintro e w2 ⟨rfl, hm2, hb2, ho2, hg2⟩
              have hO2 := ho2.blk hO (by decide)
              have hw2 := ho2.blk hwO (by decide)
              have o1 := hO2.cell 1
              have o2 := hO2.cell 2
              simp only [List.getElem?_toArray, List.getElem?_cons_succ, List.getElem?_cons_zero] at o1 o2
              have hcc := blk9_cell hw2 hm.2.1 hc9
              have hcf := hw2.frozen c
              generalize hv : cs[c]?.getD 0 = v at hcc hvk
              have Hv := Lib.hid hv
              have W2 := Lib.hid hw2
              clear hv hO2 hw2
              go_wp2_with fail
              go_region
              go_wp2_with fail
              go_meet
              case rel =>
                refine ⟨raiseAt cs c k2, hm2.grown (w' := w2.setCell ⟨pw, c, none⟩ (.int .i64 v)) (only_setCell (World.grownBy.refl _ _) (.inl rfl) _) hne, ?_, below_drewN ((hbO.trans hb2).setCell hpwB _) 1⟩
                rw [raiseAt_nat hc9, Hv.out, Int.max_eq_left (by omega), ← setS]
                exact W2.out.set_ c _
          by_cases e3 : k0 = 3
          · subst e3
            by_cases n1 : k2 = 1
            · subst n1
              go_wp2_with fail
              refine (stat_note _ _ _ 1 7 0 0 0 _ hmO (by simp; omega)).mono ?_
              rintro e w2 ⟨rfl, hm2, hb2, ho2⟩
              rw [show noteAt cs 1 = addAt cs (2 : Nat) 1 from rfl] at hm2
              have hO2 := ho2.blk hO (by decide)
              have hw2 := ho2.blk hwO (by decide)
              have o2 := hO2.cell 2
              simp only [List.getElem?_toArray, List.getElem?_cons_succ, List.getElem?_cons_zero] at o2
              have hcc := blk9_cell hw2 hm.2.1 (show 2 < 9 by omega)
              have hcf := hw2.frozen 2
              generalize hv : cs[2]?.getD 0 = v at hcc
              have Hv := Lib.hid hv
              have W2 := Lib.hid hw2
              clear hv hO2 hw2
              go_wp2_with fail
              refine (noted_1 _).mono ?_
              rintro e w3 ⟨rfl, rfl⟩
              go_wp2_with fail
              go_meet
              case rel =>
                refine ⟨addAt cs (2 : Nat) 1, hm2.grown (w' := w2.setCell ⟨pw, 2, none⟩ (.int .i64 (wrap64 (v + 1)))) (only_setCell (World.grownBy.refl _ _) (.inl rfl) _) hne, ?_, (hbO.trans hb2).setCell hpwB _⟩
                rw [addAt_nat (by omega), Hv.out, ← setS]
                exact W2.out.set_ 2 _
            by_cases n2 : k2 = 2
            · subst n2
              go_wp2_with fail
              refine (stat_note _ _ _ 2 7 0 0 0 _ hmO (by simp; omega)).mono ?_
              rintro e w2 ⟨rfl, hm2, hb2, ho2⟩
              rw [show noteAt cs 2 = addAt cs (3 : Nat) 1 from rfl] at hm2
              have hO2 := ho2.blk hO (by decide)
              have hw2 := ho2.blk hwO (by decide)
              have o2 := hO2.cell 2
              simp only [List.getElem?_toArray, List.getElem?_cons_succ, List.getElem?_cons_zero] at o2
              have hcc := blk9_cell hw2 hm.2.1 (show 3 < 9 by omega)
              have hcf := hw2.frozen 3
              generalize hv : cs[3]?.getD 0 = v at hcc
              have Hv := Lib.hid hv
              have W2 := Lib.hid hw2
              clear hv hO2 hw2
              go_wp2_with fail
              refine (noted_2 _).mono ?_
              rintro e w3 ⟨rfl, rfl⟩
              go_wp2_with fail
              go_meet
              case rel =>
                refine ⟨addAt cs (3 : Nat) 1, hm2.grown (w' := w2.setCell ⟨pw, 3, none⟩ (.int .i64 (wrap64 (v + 1)))) (only_setCell (World.grownBy.refl _ _) (.inl rfl) _) hne, ?_, (hbO.trans hb2).setCell hpwB _⟩
                rw [addAt_nat (by omega), Hv.out, ← setS]
                exact W2.out.set_ 3 _
            by_cases n3 : k2 = 3
            · subst n3
              go_wp2_with fail
              refine (stat_note _ _ _ 3 7 0 0 0 _ hmO (by simp; omega)).mono ?_
              rintro e w2 ⟨rfl, hm2, hb2, ho2⟩
              rw [show noteAt cs 3 = addAt cs (4 : Nat) 1 from rfl] at hm2
              have hO2 := ho2.blk hO (by decide)
              have hw2 := ho2.blk hwO (by decide)
              have o2 := hO2.cell 2
              simp only [List.getElem?_toArray, List.getElem?_cons_succ, List.getElem?_cons_zero] at o2
              have hcc := blk9_cell hw2 hm.2.1 (show 4 < 9 by omega)
              have hcf := hw2.frozen 4
              generalize hv : cs[4]?.getD 0 = v at hcc
              have Hv := Lib.hid hv
              have W2 := Lib.hid hw2
              clear hv hO2 hw2
              go_wp2_with fail
              refine (noted_3 _).mono ?_
              rintro e w3 ⟨rfl, rfl⟩
              go_wp2_with fail
              go_meet
              case rel =>
                refine ⟨addAt cs (4 : Nat) 1, hm2.grown (w' := w2.setCell ⟨pw, 4, none⟩ (.int .i64 (wrap64 (v + 1)))) (only_setCell (World.grownBy.refl _ _) (.inl rfl) _) hne, ?_, (hbO.trans hb2).setCell hpwB _⟩
                rw [addAt_nat (by omega), Hv.out, ← setS]
                exact W2.out.set_ 4 _
            by_cases n4 : k2 = 4
            · subst n4
              go_wp2_with fail
              refine (stat_note _ _ _ 4 7 0 0 0 _ hmO (by simp; omega)).mono ?_
              rintro e w2 ⟨rfl, hm2, hb2, ho2⟩
              rw [show noteAt cs 4 = addAt cs (5 : Nat) 1 from rfl] at hm2
              have hO2 := ho2.blk hO (by decide)
              have hw2 := ho2.blk hwO (by decide)
              have o2 := hO2.cell 2
              simp only [List.getElem?_toArray, List.getElem?_cons_succ, List.getElem?_cons_zero] at o2
              have hcc := blk9_cell hw2 hm.2.1 (show 5 < 9 by omega)
              have hcf := hw2.frozen 5
              generalize hv : cs[5]?.getD 0 = v at hcc
              have Hv := Lib.hid hv
              have W2 := Lib.hid hw2
              clear hv hO2 hw2
              go_wp2_with fail
              refine (noted_4 _).mono ?_
              rintro e w3 ⟨rfl, rfl⟩
              go_wp2_with fail
              go_meet
              case rel =>
                refine ⟨addAt cs (5 : Nat) 1, hm2.grown (w' := w2.setCell ⟨pw, 5, none⟩ (.int .i64 (wrap64 (v + 1)))) (only_setCell (World.grownBy.refl _ _) (.inl rfl) _) hne, ?_, (hbO.trans hb2).setCell hpwB _⟩
                rw [addAt_nat (by omega), Hv.out, ← setS]
                exact W2.out.set_ 5 _
            by_cases n5 : k2 = 5
            · subst n5
              go_wp2_with fail
              refine (stat_note _ _ _ 5 7 0 0 0 _ hmO (by simp; omega)).mono ?_
              rintro e w2 ⟨rfl, hm2, hb2, ho2⟩
              rw [show noteAt cs 5 = addAt cs (1 : Nat) 1 from rfl] at hm2
              have hO2 := ho2.blk hO (by decide)
              have hw2 := ho2.blk hwO (by decide)
              have o2 := hO2.cell 2
              simp only [List.getElem?_toArray, List.getElem?_cons_succ, List.getElem?_cons_zero] at o2
              have hcc := blk9_cell hw2 hm.2.1 (show 1 < 9 by omega)
              have hcf := hw2.frozen 1
              generalize hv : cs[1]?.getD 0 = v at hcc
              have Hv := Lib.hid hv
              have W2 := Lib.hid hw2
              clear hv hO2 hw2
              go_wp2_with fail
              refine (noted_5 _).mono ?_
              rintro e w3 ⟨rfl, rfl⟩
              go_wp2_with fail
              go_meet
              case rel =>
                refine ⟨addAt cs (1 : Nat) 1, hm2.grown (w' := w2.setCell ⟨pw, 1, none⟩ (.int .i64 (wrap64 (v + 1)))) (only_setCell (World.grownBy.refl _ _) (.inl rfl) _) hne, ?_, (hbO.trans hb2).setCell hpwB _⟩
                rw [addAt_nat (by omega), Hv.out, ← setS]
                exact W2.out.set_ 1 _
            go_wp2_with fail
            refine (stat_note _ _ _ k2 7 0 0 0 _ hmO (by simp; omega)).mono ?_
            rintro e w2 ⟨rfl, hm2, hb2, ho2⟩
            rw [show noteAt cs k2 = cs from by unfold noteAt; rw [if_neg n1, if_neg n2, if_neg n3, if_neg n4, if_neg n5]] at hm2
            have hO2 := ho2.blk hO (by decide)
            have hw2 := ho2.blk hwO (by decide)
            have o2 := hO2.cell 2
            simp only [List.getElem?_toArray, List.getElem?_cons_succ, List.getElem?_cons_zero] at o2
            have W2 := Lib.hid hw2
            clear hO2 hw2
            go_wp2_with fail
            refine (noted_no k2 n1 n2 n3 n4 n5 _).mono ?_
            rintro e w3 ⟨rfl, rfl⟩
            go_wp2_with fail
            go_meet
            case rel => exact ⟨cs, hm2, W2.out, hbO.trans hb2⟩
          go_wp2_with fail
          go_meet
          case rel => exact ⟨cs, hmO, hwO, hbO⟩
        case rest =>
          obtain ⟨cs', hmx, hwx, hbx⟩ := hcut
          go_wp2_with fail
          refine (stat_all _ _ _ _ hmx).mono ?_
          rintro e w3 ⟨v, rfl, hown, hb3⟩
          obtain ⟨g, cap', rfl⟩ : ∃ g cap', v = .slice (some ⟨g, 0, none⟩) 9 cap' := by
            rcases hown.2 with ⟨_, h0⟩ | ⟨g, cap', _, h, _⟩
            · omega
            · exact ⟨g, cap', h⟩
          have hw3 : w3.heap[pw]? = some (.cells (intsS cs').toArray 43 (0, 0)) := hwx.below hb3 hwx.lt
          have hm3 := hmx.below hb3 (Nat.le_refl _)
          have hl9 := hmx.2.1
          have hsz : (Try.prog.info? 43).map (·.size) = some (intsS cs').toArray.size := by rw [show (intsS cs').toArray.size = 9 by simp [intsS, hl9]]; kernel_rfl
          have Hsz := Lib.hid hsz
          have Hw := Lib.hid hw3
          have Hl9 := Lib.hid hl9
          have hbb := hbx.trans (hb3.mono hbx.size)
          have Hwx := Lib.hid hwx
          clear hsz hw3 hl9 hwx
          go_wp2_with (refine wpList_load_row rfl 43 _ rfl pw rfl 43 _ (0, 0) _ Hw.out Try.underlying43 rfl Hsz.out ?_)
          go_loop [96] (fun i => ∃ t : Nat, t ≤ 9 ∧ i = .int .i64 t) (fun i => 9 - (intOf i).toNat)
          case atStart => exact ⟨0, by omega, rfl⟩
          case round =>
            obtain ⟨t, ht, rfl⟩ := hrel
            by_cases ht9 : t < 9
            · have hix := index9 Hl9.out ht9
              have hlc := hown.cellAt t (by omega)
              rw [intsS_get Hl9.out ht9] at hlc
              have cg := stat_get _ _ _ (t : Int) w3 hm3
              rw [getAt_nat _ t ht9] at cg
              generalize cs'[t]?.getD 0 = z at hix hlc cg
              have CG := Lib.hid cg
              clear cg
              go_wp2_with fail
              refine CG.out.mono ?_
              rintro e w4 ⟨rfl, rfl⟩
              go_wp2
              go_round
              case rel => exact ⟨t + 1, by omega, by go_num⟩
              case measure => simp [intOf]; omega
            · obtain rfl : t = 9 := by omega
              go_wp2
              go_roundw
              case rel => exact ⟨j + 1, cs', by omega, by go_num, hm3, Hw.out, hbb⟩
              case measure => simp [intOf]; omega
    · obtain rfl : j = ops.length := by omega
      have hg := stat_get _ _ _ kind _ hm
      by_cases hkk : 0 ≤ kind ∧ kind < 9
      · obtain ⟨hk0, hk9⟩ := hkk
        clear hg
        go_wp2_with fail
        refine (awake26 _).mono ?_
        rintro e w' ⟨rfl, hb'⟩
        go_wp2_with fail
        go_ret
        exact ⟨rfl, hb.trans (hb'.mono hb.size)⟩
      · rw [show getAt cs kind = 0 from if_neg hkk] at hg
        have G := Lib.hid hg
        clear hg
        rcases (show kind < 0 ∨ 9 ≤ kind by omega) with hk | hk
        · clear hkk
          go_wp2_with fail
          refine G.out.mono ?_
          rintro e w' ⟨rfl, rfl⟩
          go_wp2_with fail
          refine (awake26 _).mono ?_
          rintro e w' ⟨rfl, hb'⟩
          go_wp2_with fail
          go_ret
          exact ⟨rfl, hb.trans (hb'.mono hb.size)⟩
        · have hk0 : 0 ≤ kind := by omega
          clear hkk
          go_wp2_with fail
          refine G.out.mono ?_
          rintro e w' ⟨rfl, rfl⟩
          go_wp2_with fail
          refine (awake26 _).mono ?_
          rintro e w' ⟨rfl, hb'⟩
          go_wp2_with fail
          go_ret
          exact ⟨rfl, hb.trans (hb'.mono hb.size)⟩

end Go.Proofs.Ytfffncaonpokpaa
