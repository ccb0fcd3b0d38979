/- Of any scores, by any params, at any index, just that place is picked that the document says, or it is refused; it is a kept one. (part 1: functions of the program as plain functions, and what is shown of them.) Conditions: as each theorem states; the last one has none. -/
import Derived.Test.YtmldhpnkkkmloaaWMore
import Derived.Test.YtmldhpnkkkmloaaWSized
import Derived.ProofKit
import Derived.OpenShut
import Derived.ChangeOld
import Derived.Deep.Matrix
import Derived.Deep.Strs
import Derived.Lib.SmallJoins
import Derived.Test.YtmldhpnkkkmloaaProg
import Derived.Below
import Derived.Deep.Draws
import Derived.Deep.AppendLies
import Derived.Maps.AppendAt
import Derived.OwnWalk
import Derived.Laws.BytesArg
import Derived.Laws.MakeOwn
import Derived.Laws.OwnMore
import Derived.Deep.OwnRows
import Derived.Tactics
import Derived.Lib.ConvBytes
import Derived.Laws.Slices
import Derived.WalkKit
import Derived.KernelRfl
import Derived.RowKit3
import Derived.Deep.LoopGhost
import Derived.Deep.QuietTactic
import Derived.BigQuiet
import Derived.WideLaws
import Derived.Deep.DeepCutAuto
import Derived.Deep.CutBlock
import Derived.Deep.RegionHeld3
import Derived.Laws.Rows
import Derived.Lib.AppendStr
import Derived.ArgAppend
import Derived.Laws.IdiomCopy
import Derived.OrdersHeld
import Derived.Laws.BitsLemmas
import Derived.RowKit
import Derived.Test.YtmldhpnkkkmloaaWWords
import Derived.Test.YtmldhpnkkkmloaaWLast
import Derived.Test.YtmldhpnkkkmloaaWTab
import Derived.Test.YtmldhpnkkkmloaaWFour
import Derived.Test.YtmldhpnkkkmloaaWQPut
import Derived.Test.YtmldhpnkkkmloaaWApart
import Derived.Test.YtmldhpnkkkmloaaWArr
import Derived.Test.YtmldhpnkkkmloaaWZeros
import Derived.Test.YtmldhpnkkkmloaaWFoot
import Derived.Test.YtmldhpnkkkmloaaWKept
import Derived.Test.YtmldhpnkkkmloaaWShare
import Derived.Test.YtmldhpnkkkmloaaWN
import Derived.Test.YtmldhpnkkkmloaaWFootNe
import Derived.Test.YtmldhpnkkkmloaaWAt
import Derived.Test.YtmldhpnkkkmloaaWEqStruct
import Derived.Test.YtmldhpnkkkmloaaWRepsOne
import Derived.Test.YtmldhpnkkkmloaaWInv
import Derived.Test.YtmldhpnkkkmloaaWInvWords
import Derived.Test.YtmldhpnkkkmloaaWGuard
import Derived.Test.YtmldhpnkkkmloaaWNEv
import Derived.Sort.Defs
import Derived.Shelf.SlSortCmp.Kit1
import Derived.Sort.WalkA
import Derived.Sort.WalkB2
import Derived.BigRegion
import Derived.IntWalk
import Derived.Shelf.RegionOpenPlain
import Derived.Deep.Cut
namespace Go.Proofs.Ytmldhpnkkkmloaa
open Go.RowKit Go.ChangeShapes Go.WideShapes Go.Deep Go.Proofs.YtmldhpnkkkmloaaW.PrintWords Go.Proofs.YtmldhpnkkkmloaaW.PrintLast

section
variable {H : Type} {enc : TypeId × Value → H} {P : Program} {w : World} {base : Nat} {held : Bool}
theorem open_rows {t e q : TypeId} {k : IntKind} {fuel : Nat} {A : Option Addr} {len cap : Nat} {x : DataW H × List MemPlace} (s : Nat) (ht : P.underlying t = some (.slice e)) (he : P.underlying e = some (.slice q)) (hq : P.underlying q = some (.int k))
    (ce : P.cellsOf e = 1) (cq : P.cellsOf q = 1) (h : DataW.trod enc P w base (fun _ => true) held fuel t [.slice A len cap] = some x) :
    ∃ xs : List (List Int), xs.length = len ∧ len ≤ cap ∧ Kd.C (Kd.slice s (Kd.int k)) w A len xs ∧ ∀ r ∈ xs, ∀ n ∈ r, (Lit.int k n).wf = true := by
  rcases open_int_rows ht he hq ce cq h with ⟨hcs, _⟩ | ⟨a, l, c, A', L, C, Z, hcs, _, hlc, hcm, _, hr⟩
  · simp at hcs
    obtain ⟨rfl, rfl, rfl⟩ := hcs
    exact ⟨[], rfl, Nat.le_refl _, ⟨rfl, by omega, fun h0 => absurd h0 (by omega)⟩, by simp⟩
  · simp at hcs
    obtain ⟨rfl, rfl, rfl⟩ := hcs
    unfold maxLen at hcm
    have hlen : ∀ j, j < cap → ((Z j).take (L j)).length = L j := fun j hj => by
      obtain ⟨_, h1, _, h2, _⟩ := hr j hj
      rw [List.length_take]
      omega
    refine ⟨(List.range len).map fun r => (Z r).take (L r), by simp, hlc, ⟨by simp, by omega, fun h0 => ⟨a, rfl, fun j p hj => ?_⟩⟩, ?_⟩
    · have hjl : j < len := by
        have := (List.getElem?_eq_some_iff.1 hj).1
        simpa using this
      have hp : p = (Z j).take (L j) := by
        have := hj
        simp [hjl] at this
        exact this.symm
      subst hp
      obtain ⟨h1, h2, h3, h4, h5, h6, h7⟩ := hr j (by omega)
      have hl := hlen j (by omega)
      unfold maxLen at h3
      refine ⟨[.slice (A' j) (L j) (C j)], rfl, ⟨A' j, C j, by rw [hl], by omega, ?_⟩, fun i u hi => ?_⟩
      · rw [hl]
        refine ⟨hl, by omega, fun h0 => ?_⟩
        cases hA : A' j with
        | none => have := h6 hA; omega
        | some a' =>
          obtain ⟨_, hc⟩ := h7 a' hA
          refine ⟨a', rfl, fun i p hi => ?_⟩
          have hil : i < L j := by
            have := (List.getElem?_eq_some_iff.1 hi).1
            omega
          refine ⟨[.int k p], rfl, rfl, fun m u hm => ?_⟩
          obtain rfl : m = 0 := by
            cases m with
            | zero => rfl
            | succ m => simp at hm
          have hu : u = .int k p := by simpa using hm.symm
          have := hc i (by omega)
          rw [hu, show i * (Kd.int k).sz + 0 = i by simp [Kd.int, Kd.scalar], this]
          have h8 : (Z j)[i]? = some p := by
            rw [List.getElem?_take, if_pos hil] at hi
            exact hi
          rw [List.getD_eq_getElem?_getD, h8]
          rfl
      · obtain rfl : i = 0 := by
          cases i with
          | zero => rfl
          | succ i => simp at hi
        have hu : u = .slice (A' j) (L j) (C j) := by simpa using hi.symm
        rw [hu, show j * (Kd.slice s (Kd.int k)).sz + 0 = j by simp [Kd.slice]]
        exact h1
    · intro r hrm n hn
      obtain ⟨j, hj, rfl⟩ := List.mem_map.1 hrm
      have hjl : j < len := by simpa using hj
      exact (hr j (by omega)).2.2.2.2.1 n (List.mem_of_mem_take hn)
end
/-- A struct of one cell and of a struct of three cells, by value, opened: each leaf with its reading. -/
theorem open_case13 {H : Type} {enc : TypeId × Value → H} {P : Program} {w : World} {base b0 : Nat} {held : Bool} {spare : Nat → Bool} {r : Reach} {t : TypeId} {f0 f1 g0 g1 g2 : Field} {v : Value} {d : DataW H} {p : List MemPlace}
    (hs : P.underlying t = some (.struct #[f0, f1])) (hi : P.underlying f1.type = some (.struct #[g0, g1, g2])) (ho : (f0.offset, P.cellsOf f0.type, f1.offset, P.cellsOf f1.type) = (0, 1, 1, 3))
    (hg : (g0.offset, P.cellsOf g0.type, g1.offset, P.cellsOf g1.type, g2.offset, P.cellsOf g2.type) = (0, 1, 1, 1, 2, 1)) (hC : P.cellsOf t = 4)
    (hv : Value.okWide P w r b0 t v) (h : DataW.Trod enc P w base spare held t v d p) :
    ∃ (v0 v1 v2 v3 : Value) (y0 y1 y2 y3 : DataW H × List MemPlace) (n m : Nat), v = .agg #[v0, v1, v2, v3] ∧
      DataW.trod enc P w base spare held n f0.type [v0] = some y0 ∧ DataW.trod enc P w base spare held m g0.type [v1] = some y1 ∧ DataW.trod enc P w base spare held m g1.type [v2] = some y2 ∧ DataW.trod enc P w base spare held m g2.type [v3] = some y3 := by
  simp only [Prod.mk.injEq] at ho hg
  obtain ⟨cs, rfl, hsz⟩ := okWide_struct hs hv
  obtain ⟨c0, c1, c2, c3, rfl⟩ := Go.Joins.array4 (hsz.trans hC)
  obtain ⟨fuel, hf⟩ := h
  obtain ⟨y0, y1, n, _, _, h0, h1⟩ := trod_struct2 hs hf
  simp only [Value.cells, ho.1, ho.2.1, ho.2.2.1, ho.2.2.2, List.drop, List.take] at h0 h1
  obtain ⟨z0, z1, z2, m, _, _, k0, k1, k2⟩ := Go.Deep.trod_struct3 hi h1
  simp only [hg.1, hg.2.1, hg.2.2.1, hg.2.2.2.1, hg.2.2.2.2.1, hg.2.2.2.2.2, List.drop, List.take] at k0 k1 k2
  exact ⟨c0, c1, c2, c3, y0, z0, z1, z2, n, m, rfl, h0, k0, k1, k2⟩
/-- what came in may be shared -/
theorem V_of_C {α : Type} {d : Kd α} (hd : Kd.Heap d) {e base n c : Nat} {W : World} {A : Option Addr} {xs : List α} (hn : xs.length = n) (hl : n ≤ c) (h : Kd.C d W A n xs) : Kd.V d e W base (fun _ => True) (.slice A n c) xs := by
  subst hn
  exact Kd.V_mk hl (fun W' hW' => hd.C (fun k hk => hW' k trivial hk) h)
end Go.Proofs.Ytmldhpnkkkmloaa

namespace Go.Proofs.Ytmldhpnkkkmloaa.Q
open Go.RowKit Go.Proofs.YtmldhpnkkkmloaaW.PrintWords Go.Proofs.YtmldhpnkkkmloaaW.PrintLast Go.Proofs.YtmldhpnkkkmloaaW.PrintMore
attribute [local go_sem] max2_int min2_int max_two min_two max_three min_three max_four min_four   -- for this text's walks alone
set_option linter.unusedVariables false
set_option linter.unusedSimpArgs false



def errW : Option Int → Value
  | none => .nilIface
  | some c => .iface 0 (.int .i64 c)
theorem errW_none : errW none = .nilIface := rfl
theorem errW_some (c : Int) : errW (some c) = .iface 0 (.int .i64 c) := rfl

theorem info3 : (Try.prog.info? 3).map (fun i => (i.zero, i.size, i.bytes)) = some (some (.int .i64 0), 1, 8) := by kernel_rfl
theorem info4 : (Try.prog.info? 4).map (fun i => (i.zero, i.size, i.bytes)) = some (some (.bool false), 1, 1) := by kernel_rfl
theorem info21 : (Try.prog.info? 21).map (fun i => (i.zero, i.size, i.bytes)) = some (some (.int .i32 0), 1, 4) := by kernel_rfl
-- the values' own types

end Go.Proofs.Ytmldhpnkkkmloaa.Q

namespace Go.Proofs.Ytmldhpnkkkmloaa.Q
open Go.RowKit Go.Proofs.YtmldhpnkkkmloaaW.PrintWords Go.Proofs.YtmldhpnkkkmloaaW.PrintLast Go.Proofs.YtmldhpnkkkmloaaW.PrintMore
attribute [local go_sem] max2_int min2_int max_two min_two max_three min_three max_four min_four   -- for this text's walks alone
set_option linter.unusedVariables false
set_option linter.unusedSimpArgs false

/-! ### fix_Ratio: function 34 -/
def fix_Ratio.f (a0 : Int) (a1 : Int) : Option (Int) := if a1 ≤ 0 then (some 0) else (if a1 = 0 then (none) else (if (Int.tmod a0 a1) < 0 then (if (wrap64 ((Int.tmod a0 a1) + a1)) > (wrap64 (a1 - (wrap64 ((Int.tmod a0 a1) + a1)))) then (some (wrap64 ((wrap64 ((wrap64 (Int.tdiv a0 a1)) - 1)) + 1))) else (if (wrap64 ((Int.tmod a0 a1) + a1)) = (wrap64 (a1 - (wrap64 ((Int.tmod a0 a1) + a1)))) then (if (Go.bits .and .i64 (wrap64 ((wrap64 (Int.tdiv a0 a1)) - 1)) 1) = 0 then (some (wrap64 ((wrap64 (Int.tdiv a0 a1)) - 1))) else (some (wrap64 ((wrap64 ((wrap64 (Int.tdiv a0 a1)) - 1)) + 1)))) else (some (wrap64 ((wrap64 (Int.tdiv a0 a1)) - 1))))) else (if (Int.tmod a0 a1) > (wrap64 (a1 - (Int.tmod a0 a1))) then (some (wrap64 ((wrap64 (Int.tdiv a0 a1)) + 1))) else (if (Int.tmod a0 a1) = (wrap64 (a1 - (Int.tmod a0 a1))) then (if (Go.bits .and .i64 (wrap64 (Int.tdiv a0 a1)) 1) = 0 then (some (wrap64 (Int.tdiv a0 a1))) else (some (wrap64 ((wrap64 (Int.tdiv a0 a1)) + 1)))) else (some (wrap64 (Int.tdiv a0 a1)))))))
set_option maxHeartbeats 8000000 in
set_option maxRecDepth 100000 in
theorem fix_Ratio.calls (a0 : Int) (a1 : Int) (r : Int) (w : World) (h : fix_Ratio.f a0 a1 = some r) :
    Calls Try.prog 34 #[.int .i64 a0, .int .i64 a1] w fun e w' => e = .returned (.int .i64 r) ∧ Drawn0 w w' := by
  have H : (if a1 ≤ 0 then (some 0) else (if a1 = 0 then (none) else (if (Int.tmod a0 a1) < 0 then (if (wrap64 ((Int.tmod a0 a1) + a1)) > (wrap64 (a1 - (wrap64 ((Int.tmod a0 a1) + a1)))) then (some (wrap64 ((wrap64 ((wrap64 (Int.tdiv a0 a1)) - 1)) + 1))) else (if (wrap64 ((Int.tmod a0 a1) + a1)) = (wrap64 (a1 - (wrap64 ((Int.tmod a0 a1) + a1)))) then (if (Go.bits .and .i64 (wrap64 ((wrap64 (Int.tdiv a0 a1)) - 1)) 1) = 0 then (some (wrap64 ((wrap64 (Int.tdiv a0 a1)) - 1))) else (some (wrap64 ((wrap64 ((wrap64 (Int.tdiv a0 a1)) - 1)) + 1)))) else (some (wrap64 ((wrap64 (Int.tdiv a0 a1)) - 1))))) else (if (Int.tmod a0 a1) > (wrap64 (a1 - (Int.tmod a0 a1))) then (some (wrap64 ((wrap64 (Int.tdiv a0 a1)) + 1))) else (if (Int.tmod a0 a1) = (wrap64 (a1 - (Int.tmod a0 a1))) then (if (Go.bits .and .i64 (wrap64 (Int.tdiv a0 a1)) 1) = 0 then (some (wrap64 (Int.tdiv a0 a1))) else (some (wrap64 ((wrap64 (Int.tdiv a0 a1)) + 1)))) else (some (wrap64 (Int.tdiv a0 a1)))))))) = some r := h
  clear h
  by_cases c3 : a1 ≤ 0
  · rw [if_pos c3] at H
    have c3b0 : decide (a1 ≤ 0) = true := decide_eq_true c3
    clear c3
    obtain rfl := Option.some.inj H
    go_enter Try.func34, Try.ntmps34
    go_wp2
    repeat (go_quiet (fail); try go_wp2)
    go_ret
    exact ⟨by first | rfl | (simp; done) | (simp [*]; done), by repeat (first | exact Drawn0.refl _ | apply Drawn0.step)⟩
  · rw [if_neg c3] at H
    have c3b0 : decide (a1 ≤ 0) = false := decide_eq_false c3
    clear c3
    by_cases c4 : a1 = 0
    · rw [if_pos c4] at H
      exact absurd H (by simp)
    · rw [if_neg c4] at H
      have c4b0 : (a1 == 0) = false := beq_eq_false_iff_ne.mpr c4
      have c4b1 : (a1 != 0) = true := bne_iff_ne.mpr c4
      by_cases c5 : (Int.tmod a0 a1) < 0
      · rw [if_pos c5] at H
        have c5b0 : decide ((Int.tmod a0 a1) < 0) = true := decide_eq_true c5
        clear c5
        by_cases c6 : (wrap64 ((Int.tmod a0 a1) + a1)) > (wrap64 (a1 - (wrap64 ((Int.tmod a0 a1) + a1))))
        · rw [if_pos c6] at H
          have c6b0 : decide ((wrap64 (a1 - (wrap64 ((Int.tmod a0 a1) + a1)))) < (wrap64 ((Int.tmod a0 a1) + a1))) = true := decide_eq_true c6
          clear c6
          obtain rfl := Option.some.inj H
          go_enter Try.func34, Try.ntmps34
          go_wp2
          repeat (go_quiet (fail); try go_wp2)
          go_ret
          exact ⟨by first | rfl | (simp; done) | (simp [*]; done), by repeat (first | exact Drawn0.refl _ | apply Drawn0.step)⟩
        · rw [if_neg c6] at H
          have c6b0 : decide ((wrap64 (a1 - (wrap64 ((Int.tmod a0 a1) + a1)))) < (wrap64 ((Int.tmod a0 a1) + a1))) = false := decide_eq_false c6
          clear c6
          by_cases c7 : (wrap64 ((Int.tmod a0 a1) + a1)) = (wrap64 (a1 - (wrap64 ((Int.tmod a0 a1) + a1))))
          · rw [if_pos c7] at H
            have c7b0 : ((wrap64 ((Int.tmod a0 a1) + a1)) == (wrap64 (a1 - (wrap64 ((Int.tmod a0 a1) + a1))))) = true := beq_iff_eq.mpr c7
            have c7b1 : ((wrap64 ((Int.tmod a0 a1) + a1)) != (wrap64 (a1 - (wrap64 ((Int.tmod a0 a1) + a1))))) = false := bne_eq_false_iff_eq.mpr c7
            clear c7
            by_cases c8 : (Go.bits .and .i64 (wrap64 ((wrap64 (Int.tdiv a0 a1)) - 1)) 1) = 0
            · rw [if_pos c8] at H
              have c8b0 : ((Go.bits .and .i64 (wrap64 ((wrap64 (Int.tdiv a0 a1)) - 1)) 1) == 0) = true := beq_iff_eq.mpr c8
              have c8b1 : ((Go.bits .and .i64 (wrap64 ((wrap64 (Int.tdiv a0 a1)) - 1)) 1) != 0) = false := bne_eq_false_iff_eq.mpr c8
              clear c8
              obtain rfl := Option.some.inj H
              go_enter Try.func34, Try.ntmps34
              go_wp2
              repeat (go_quiet (fail); try go_wp2)
              go_ret
              exact ⟨by first | rfl | (simp; done) | (simp [*]; done), by repeat (first | exact Drawn0.refl _ | apply Drawn0.step)⟩
            · rw [if_neg c8] at H
              have c8b0 : ((Go.bits .and .i64 (wrap64 ((wrap64 (Int.tdiv a0 a1)) - 1)) 1) == 0) = false := beq_eq_false_iff_ne.mpr c8
              have c8b1 : ((Go.bits .and .i64 (wrap64 ((wrap64 (Int.tdiv a0 a1)) - 1)) 1) != 0) = true := bne_iff_ne.mpr c8
              obtain rfl := Option.some.inj H
              go_enter Try.func34, Try.ntmps34
              go_wp2
              repeat (go_quiet (fail); try go_wp2)
              go_ret
              exact ⟨by first | rfl | (simp; done) | (simp [*]; done), by repeat (first | exact Drawn0.refl _ | apply Drawn0.step)⟩
          · rw [if_neg c7] at H
            have c7b0 : ((wrap64 ((Int.tmod a0 a1) + a1)) == (wrap64 (a1 - (wrap64 ((Int.tmod a0 a1) + a1))))) = false := beq_eq_false_iff_ne.mpr c7
            have c7b1 : ((wrap64 ((Int.tmod a0 a1) + a1)) != (wrap64 (a1 - (wrap64 ((Int.tmod a0 a1) + a1))))) = true := bne_iff_ne.mpr c7
            obtain rfl := Option.some.inj H
            go_enter Try.func34, Try.ntmps34
            go_wp2
            repeat (go_quiet (fail); try go_wp2)
            go_ret
            exact ⟨by first | rfl | (simp; done) | (simp [*]; done), by repeat (first | exact Drawn0.refl _ | apply Drawn0.step)⟩
      · rw [if_neg c5] at H
        have c5b0 : decide ((Int.tmod a0 a1) < 0) = false := decide_eq_false c5
        clear c5
        by_cases c9 : (Int.tmod a0 a1) > (wrap64 (a1 - (Int.tmod a0 a1)))
        · rw [if_pos c9] at H
          have c9b0 : decide ((wrap64 (a1 - (Int.tmod a0 a1))) < (Int.tmod a0 a1)) = true := decide_eq_true c9
          clear c9
          obtain rfl := Option.some.inj H
          go_enter Try.func34, Try.ntmps34
          go_wp2
          repeat (go_quiet (fail); try go_wp2)
          go_ret
          exact ⟨by first | rfl | (simp; done) | (simp [*]; done), by repeat (first | exact Drawn0.refl _ | apply Drawn0.step)⟩
        · rw [if_neg c9] at H
          have c9b0 : decide ((wrap64 (a1 - (Int.tmod a0 a1))) < (Int.tmod a0 a1)) = false := decide_eq_false c9
          clear c9
          by_cases c10 : (Int.tmod a0 a1) = (wrap64 (a1 - (Int.tmod a0 a1)))
          · rw [if_pos c10] at H
            have c10b0 : ((Int.tmod a0 a1) == (wrap64 (a1 - (Int.tmod a0 a1)))) = true := beq_iff_eq.mpr c10
            have c10b1 : ((Int.tmod a0 a1) != (wrap64 (a1 - (Int.tmod a0 a1)))) = false := bne_eq_false_iff_eq.mpr c10
            clear c10
            by_cases c11 : (Go.bits .and .i64 (wrap64 (Int.tdiv a0 a1)) 1) = 0
            · rw [if_pos c11] at H
              have c11b0 : ((Go.bits .and .i64 (wrap64 (Int.tdiv a0 a1)) 1) == 0) = true := beq_iff_eq.mpr c11
              have c11b1 : ((Go.bits .and .i64 (wrap64 (Int.tdiv a0 a1)) 1) != 0) = false := bne_eq_false_iff_eq.mpr c11
              clear c11
              obtain rfl := Option.some.inj H
              go_enter Try.func34, Try.ntmps34
              go_wp2
              repeat (go_quiet (fail); try go_wp2)
              go_ret
              exact ⟨by first | rfl | (simp; done) | (simp [*]; done), by repeat (first | exact Drawn0.refl _ | apply Drawn0.step)⟩
            · rw [if_neg c11] at H
              have c11b0 : ((Go.bits .and .i64 (wrap64 (Int.tdiv a0 a1)) 1) == 0) = false := beq_eq_false_iff_ne.mpr c11
              have c11b1 : ((Go.bits .and .i64 (wrap64 (Int.tdiv a0 a1)) 1) != 0) = true := bne_iff_ne.mpr c11
              obtain rfl := Option.some.inj H
              go_enter Try.func34, Try.ntmps34
              go_wp2
              repeat (go_quiet (fail); try go_wp2)
              go_ret
              exact ⟨by first | rfl | (simp; done) | (simp [*]; done), by repeat (first | exact Drawn0.refl _ | apply Drawn0.step)⟩
          · rw [if_neg c10] at H
            have c10b0 : ((Int.tmod a0 a1) == (wrap64 (a1 - (Int.tmod a0 a1)))) = false := beq_eq_false_iff_ne.mpr c10
            have c10b1 : ((Int.tmod a0 a1) != (wrap64 (a1 - (Int.tmod a0 a1)))) = true := bne_iff_ne.mpr c10
            obtain rfl := Option.some.inj H
            go_enter Try.func34, Try.ntmps34
            go_wp2
            repeat (go_quiet (fail); try go_wp2)
            go_ret
            exact ⟨by first | rfl | (simp; done) | (simp [*]; done), by repeat (first | exact Drawn0.refl _ | apply Drawn0.step)⟩

end Go.Proofs.Ytmldhpnkkkmloaa.Q

namespace Go.Proofs.Ytmldhpnkkkmloaa.Q
open Go.RowKit Go.Proofs.YtmldhpnkkkmloaaW.PrintWords Go.Proofs.YtmldhpnkkkmloaaW.PrintLast Go.Proofs.YtmldhpnkkkmloaaW.PrintMore
attribute [local go_sem] max2_int min2_int max_two min_two max_three min_three max_four min_four   -- for this text's walks alone
set_option linter.unusedVariables false
set_option linter.unusedSimpArgs false

/-! ### fix_cut: function 44 -/
def fix_cut.f (a0 : Int) (a1 : Int) (a2 : Int) : Option (Int) := some (wrap32 (mn (mx a0 a1) a2))
set_option maxHeartbeats 8000000 in
set_option maxRecDepth 100000 in
theorem fix_cut.calls (a0 : Int) (a1 : Int) (a2 : Int) (r : Int) (w : World) (h : fix_cut.f a0 a1 a2 = some r) :
    Calls Try.prog 44 #[.int .i64 a0, .int .i64 a1, .int .i64 a2] w fun e w' => e = .returned (.int .i32 r) ∧ Below w.heap.size w w' := by
  have HB := Aside0.mk (Below.refl w.heap.size w)
  have H : (some (wrap32 (mn (mx a0 a1) a2))) = some r := h
  clear h
  obtain ⟨ji4, hji4⟩ : ∃ j_ : Int, (mx a0 a1) = j_ := ⟨_, rfl⟩
  replace H : (some (wrap32 (mn (ji4) a2))) = some r := by first | (rw [hji4] at H; exact H) | (simp only [hji4] at H ⊢; exact H)
  have hji4_ : (if a0 < a1 then a1 else a0) = ji4 := hji4
  obtain ⟨ji5, hji5⟩ : ∃ j_ : Int, (mn (ji4) a2) = j_ := ⟨_, rfl⟩
  replace H : (some (wrap32 (ji5))) = some r := by first | (rw [hji5] at H; exact H) | (simp only [hji5] at H ⊢; exact H)
  have hji5_ : (if a2 < (ji4) then a2 else (ji4)) = ji5 := hji5
  obtain rfl := Option.some.inj H
  go_enter Try.func44, Try.ntmps44
  go_wp2
  go_ret
  exact ⟨by first | rfl | (simp [errW_none, errW_some] <;> rfl) | (simp only [← hji4, ← hji5]; first | rfl | (simp [errW_none, errW_some] <;> rfl)) | (simp [*, errW_none, errW_some] <;> rfl), by repeat (first | (with_reducible first | exact HB.out | apply below_alloc | apply pw_below_drewN | apply below_drew1) | exact HB.out)⟩

end Go.Proofs.Ytmldhpnkkkmloaa.Q

namespace Go.Proofs.Ytmldhpnkkkmloaa.Q
open Go.RowKit Go.Proofs.YtmldhpnkkkmloaaW.PrintWords Go.Proofs.YtmldhpnkkkmloaaW.PrintLast Go.Proofs.YtmldhpnkkkmloaaW.PrintMore
attribute [local go_sem] max2_int min2_int max_two min_two max_three min_three max_four min_four   -- for this text's walks alone
set_option linter.unusedVariables false
set_option linter.unusedSimpArgs false

/-! ### fix_Wide: function 33 -/
def fix_Wide.f (a0 : Int) : Option (Int) := (fix_cut.f a0 (-2147483648) 2147483647).bind fun t227 => (some t227)
set_option maxHeartbeats 8000000 in
set_option maxRecDepth 100000 in
theorem fix_Wide.calls (a0 : Int) (r : Int) (w : World) (h : fix_Wide.f a0 = some r) :
    Calls Try.prog 33 #[.int .i64 a0] w fun e w' => e = .returned (.int .i32 r) ∧ Below w.heap.size w w' := by
  have HB := Aside0.mk (Below.refl w.heap.size w)
  have H : ((fix_cut.f a0 (-2147483648) 2147483647).bind fun t227 => (some t227)) = some r := h
  clear h
  replace H := Option.bind_eq_some_iff.mp H
  obtain ⟨t227, A20, H⟩ := H
  replace H : (some t227) = some r := H
  have A2 := Aside0.mk A20
  clear A20
  obtain rfl := Option.some.inj H
  go_enter Try.func33, Try.ntmps33
  go_wp2_with (first | ((with_reducible refine gate_callee (f := 44) rfl ?_); refine goesL_ (some 4) rfl rfl Try.func44 (by kernel_rfl) rfl #[.int .i64 a0, .int .i64 (-2147483648), .int .i64 2147483647] rfl (by (try simp only [List.map_toArray, List.map_cons, List.map_nil]); first | done | rfl | (simp only [List.length_drop, List.length_take]; rfl)) ?_; (with_reducible refine (fix_cut.calls a0 (-2147483648) 2147483647 t227 _ A2.out).mono ?_); rintro e w3 ⟨rfl, hb⟩; refine ⟨_, rfl, ?_⟩; have n0_ := Aside0.mk (below_step (by repeat (first | (with_reducible first | exact HB.out | apply below_alloc | apply pw_below_drewN | apply below_drew1) | exact HB.out)) hb); clear HB; have HB := n0_; clear n0_; (try clear hb); (try clear hb2); (try clear hk); (try clear hi)))
  go_ret
  exact ⟨by first | rfl | (simp [errW_none, errW_some] <;> rfl) | (simp [*, errW_none, errW_some] <;> rfl), by repeat (first | (with_reducible first | exact HB.out | apply below_alloc | apply pw_below_drewN | apply below_drew1) | exact HB.out)⟩

end Go.Proofs.Ytmldhpnkkkmloaa.Q

namespace Go.Proofs.Ytmldhpnkkkmloaa.Q
open Go.RowKit Go.Proofs.YtmldhpnkkkmloaaW.PrintWords Go.Proofs.YtmldhpnkkkmloaaW.PrintLast Go.Proofs.YtmldhpnkkkmloaaW.PrintMore
attribute [local go_sem] max2_int min2_int max_two min_two max_three min_three max_four min_four   -- for this text's walks alone
set_option linter.unusedVariables false
set_option linter.unusedSimpArgs false

/-! ### credenzaref01_Cut: function 47 -/
def credenzaref01_Cut.f (a0 : Int) (a1 : Int) (a2 : Int) : Option (Int) := if a0 < a1 then (some a1) else (if a0 > a2 then (some a2) else (some a0))
set_option maxHeartbeats 8000000 in
set_option maxRecDepth 100000 in
theorem credenzaref01_Cut.calls (a0 : Int) (a1 : Int) (a2 : Int) (r : Int) (w : World) (h : credenzaref01_Cut.f a0 a1 a2 = some r) :
    Calls Try.prog 47 #[.int .i64 a0, .int .i64 a1, .int .i64 a2] w fun e w' => e = .returned (.int .i64 r) ∧ Drawn0 w w' := by
  have H : (if a0 < a1 then (some a1) else (if a0 > a2 then (some a2) else (some a0))) = some r := h
  clear h
  by_cases c4 : a0 < a1
  · rw [if_pos c4] at H
    have c4b0 : decide (a0 < a1) = true := decide_eq_true c4
    clear c4
    obtain rfl := Option.some.inj H
    go_enter Try.func47, Try.ntmps47
    go_wp2
    go_ret
    exact ⟨by first | rfl | (simp; done) | (simp [*]; done), by repeat (first | exact Drawn0.refl _ | apply Drawn0.step)⟩
  · rw [if_neg c4] at H
    have c4b0 : decide (a0 < a1) = false := decide_eq_false c4
    clear c4
    by_cases c5 : a0 > a2
    · rw [if_pos c5] at H
      have c5b0 : decide (a2 < a0) = true := decide_eq_true c5
      clear c5
      obtain rfl := Option.some.inj H
      go_enter Try.func47, Try.ntmps47
      go_wp2
      go_ret
      exact ⟨by first | rfl | (simp; done) | (simp [*]; done), by repeat (first | exact Drawn0.refl _ | apply Drawn0.step)⟩
    · rw [if_neg c5] at H
      have c5b0 : decide (a2 < a0) = false := decide_eq_false c5
      clear c5
      obtain rfl := Option.some.inj H
      go_enter Try.func47, Try.ntmps47
      go_wp2
      go_ret
      exact ⟨by first | rfl | (simp; done) | (simp [*]; done), by repeat (first | exact Drawn0.refl _ | apply Drawn0.step)⟩

end Go.Proofs.Ytmldhpnkkkmloaa.Q

namespace Go.Proofs.Ytmldhpnkkkmloaa.Q
open Go.RowKit Go.Proofs.YtmldhpnkkkmloaaW.PrintWords Go.Proofs.YtmldhpnkkkmloaaW.PrintLast Go.Proofs.YtmldhpnkkkmloaaW.PrintMore
attribute [local go_sem] max2_int min2_int max_two min_two max_three min_three max_four min_four   -- for this text's walks alone
set_option linter.unusedVariables false
set_option linter.unusedSimpArgs false

/-! ### credenzaref01_Wide: function 37 -/
def credenzaref01_Wide.f (a0 : Int) : Option (Int) := (credenzaref01_Cut.f a0 (-2147483648) 2147483647).bind fun t311 => (some (wrap32 (t311)))
set_option maxHeartbeats 8000000 in
set_option maxRecDepth 100000 in
theorem credenzaref01_Wide.calls (a0 : Int) (r : Int) (w : World) (h : credenzaref01_Wide.f a0 = some r) :
    Calls Try.prog 37 #[.int .i64 a0] w fun e w' => e = .returned (.int .i32 r) ∧ Drawn0 w w' := by
  have H : ((credenzaref01_Cut.f a0 (-2147483648) 2147483647).bind fun t311 => (some (wrap32 (t311)))) = some r := h
  clear h
  replace H := Option.bind_eq_some_iff.mp H
  obtain ⟨t311, A20, H⟩ := H
  replace H : (some (wrap32 (t311))) = some r := H
  have A2 := Aside0.mk A20
  clear A20
  obtain rfl := Option.some.inj H
  go_enter Try.func37, Try.ntmps37
  go_wp2_with (first | ((with_reducible refine gate_callee (f := 47) rfl ?_); refine goesL_ (some 4) rfl rfl Try.func47 (by kernel_rfl) rfl #[.int .i64 a0, .int .i64 (-2147483648), .int .i64 2147483647] rfl (by (try simp only [List.map_toArray, List.map_cons, List.map_nil]); first | done | rfl | (simp only [List.length_drop, List.length_take]; rfl)) ?_; (with_reducible refine (credenzaref01_Cut.calls a0 (-2147483648) 2147483647 t311 _ A2.out).mono ?_); rintro e w' ⟨rfl, ⟨nd, rfl⟩⟩; refine ⟨_, rfl, ?_⟩))
  go_ret
  exact ⟨by first | rfl | (simp; done) | (simp [*]; done), by repeat (first | exact Drawn0.refl _ | apply Drawn0.step)⟩

end Go.Proofs.Ytmldhpnkkkmloaa.Q

namespace Go.Proofs.Ytmldhpnkkkmloaa.Q
open Go.RowKit Go.Proofs.YtmldhpnkkkmloaaW.PrintWords Go.Proofs.YtmldhpnkkkmloaaW.PrintLast Go.Proofs.YtmldhpnkkkmloaaW.PrintMore
attribute [local go_sem] max2_int min2_int max_two min_two max_three min_three max_four min_four   -- for this text's walks alone
set_option linter.unusedVariables false
set_option linter.unusedSimpArgs false

/-! ### credenzaref01_Floor: function 48 -/
def credenzaref01_Floor.f (a0 : Int) (a1 : Int) : Option (Int) := if a1 = 0 then (none) else (if (wrap64 ((wrap64 (Int.tdiv a0 a1)) * a1)) > a0 then (some (wrap64 ((wrap64 (Int.tdiv a0 a1)) - 1))) else (some (wrap64 (Int.tdiv a0 a1))))
set_option maxHeartbeats 8000000 in
set_option maxRecDepth 100000 in
theorem credenzaref01_Floor.calls (a0 : Int) (a1 : Int) (r : Int) (w : World) (h : credenzaref01_Floor.f a0 a1 = some r) :
    Calls Try.prog 48 #[.int .i64 a0, .int .i64 a1] w fun e w' => e = .returned (.int .i64 r) ∧ Drawn0 w w' := by
  have H : (if a1 = 0 then (none) else (if (wrap64 ((wrap64 (Int.tdiv a0 a1)) * a1)) > a0 then (some (wrap64 ((wrap64 (Int.tdiv a0 a1)) - 1))) else (some (wrap64 (Int.tdiv a0 a1))))) = some r := h
  clear h
  by_cases c3 : a1 = 0
  · rw [if_pos c3] at H
    exact absurd H (by simp)
  · rw [if_neg c3] at H
    have c3b0 : (a1 == 0) = false := beq_eq_false_iff_ne.mpr c3
    have c3b1 : (a1 != 0) = true := bne_iff_ne.mpr c3
    by_cases c4 : (wrap64 ((wrap64 (Int.tdiv a0 a1)) * a1)) > a0
    · rw [if_pos c4] at H
      have c4b0 : decide (a0 < (wrap64 ((wrap64 (Int.tdiv a0 a1)) * a1))) = true := decide_eq_true c4
      clear c4
      obtain rfl := Option.some.inj H
      go_enter Try.func48, Try.ntmps48
      go_wp2
      go_ret
      exact ⟨by first | rfl | (simp; done) | (simp [*]; done), by repeat (first | exact Drawn0.refl _ | apply Drawn0.step)⟩
    · rw [if_neg c4] at H
      have c4b0 : decide (a0 < (wrap64 ((wrap64 (Int.tdiv a0 a1)) * a1))) = false := decide_eq_false c4
      clear c4
      obtain rfl := Option.some.inj H
      go_enter Try.func48, Try.ntmps48
      go_wp2
      go_ret
      exact ⟨by first | rfl | (simp; done) | (simp [*]; done), by repeat (first | exact Drawn0.refl _ | apply Drawn0.step)⟩

end Go.Proofs.Ytmldhpnkkkmloaa.Q

namespace Go.Proofs.Ytmldhpnkkkmloaa.Q
open Go.RowKit Go.Proofs.YtmldhpnkkkmloaaW.PrintWords Go.Proofs.YtmldhpnkkkmloaaW.PrintLast Go.Proofs.YtmldhpnkkkmloaaW.PrintMore
attribute [local go_sem] max2_int min2_int max_two min_two max_three min_three max_four min_four   -- for this text's walks alone
set_option linter.unusedVariables false
set_option linter.unusedSimpArgs false

/-! ### credenzaref01_Ratio: function 38 -/
def credenzaref01_Ratio.f (a0 : Int) (a1 : Int) : Option (Int) := (credenzaref01_Floor.f a0 a1).bind fun t312 => (if (wrap64 (a0 - (wrap64 (t312 * a1)))) > (wrap64 (a1 - (wrap64 (a0 - (wrap64 (t312 * a1)))))) then (some (wrap64 (t312 + 1))) else (if (wrap64 (a0 - (wrap64 (t312 * a1)))) = (wrap64 (a1 - (wrap64 (a0 - (wrap64 (t312 * a1)))))) then (if (Int.tmod t312 2) = 0 then (some t312) else (some (wrap64 (t312 + 1)))) else (some t312)))
set_option maxHeartbeats 8000000 in
set_option maxRecDepth 100000 in
theorem credenzaref01_Ratio.calls (a0 : Int) (a1 : Int) (r : Int) (w : World) (h : credenzaref01_Ratio.f a0 a1 = some r) :
    Calls Try.prog 38 #[.int .i64 a0, .int .i64 a1] w fun e w' => e = .returned (.int .i64 r) ∧ Drawn0 w w' := by
  have H : ((credenzaref01_Floor.f a0 a1).bind fun t312 => (if (wrap64 (a0 - (wrap64 (t312 * a1)))) > (wrap64 (a1 - (wrap64 (a0 - (wrap64 (t312 * a1)))))) then (some (wrap64 (t312 + 1))) else (if (wrap64 (a0 - (wrap64 (t312 * a1)))) = (wrap64 (a1 - (wrap64 (a0 - (wrap64 (t312 * a1)))))) then (if (Int.tmod t312 2) = 0 then (some t312) else (some (wrap64 (t312 + 1)))) else (some t312)))) = some r := h
  clear h
  replace H := Option.bind_eq_some_iff.mp H
  obtain ⟨t312, A30, H⟩ := H
  replace H : (if (wrap64 (a0 - (wrap64 (t312 * a1)))) > (wrap64 (a1 - (wrap64 (a0 - (wrap64 (t312 * a1)))))) then (some (wrap64 (t312 + 1))) else (if (wrap64 (a0 - (wrap64 (t312 * a1)))) = (wrap64 (a1 - (wrap64 (a0 - (wrap64 (t312 * a1)))))) then (if (Int.tmod t312 2) = 0 then (some t312) else (some (wrap64 (t312 + 1)))) else (some t312))) = some r := H
  have A3 := Aside0.mk A30
  clear A30
  by_cases c4 : (wrap64 (a0 - (wrap64 (t312 * a1)))) > (wrap64 (a1 - (wrap64 (a0 - (wrap64 (t312 * a1))))))
  · rw [if_pos c4] at H
    have c4b0 : decide ((wrap64 (a1 - (wrap64 (a0 - (wrap64 (t312 * a1)))))) < (wrap64 (a0 - (wrap64 (t312 * a1))))) = true := decide_eq_true c4
    clear c4
    obtain rfl := Option.some.inj H
    go_enter Try.func38, Try.ntmps38
    go_wp2_with (first | ((with_reducible refine gate_callee (f := 48) rfl ?_); refine goesL_ (some 10) rfl rfl Try.func48 (by kernel_rfl) rfl #[.int .i64 a0, .int .i64 a1] rfl (by (try simp only [List.map_toArray, List.map_cons, List.map_nil]); first | done | rfl | (simp only [List.length_drop, List.length_take]; rfl)) ?_; (with_reducible refine (credenzaref01_Floor.calls a0 a1 t312 _ A3.out).mono ?_); rintro e w' ⟨rfl, ⟨nd, rfl⟩⟩; refine ⟨_, rfl, ?_⟩))
    go_ret
    exact ⟨by first | rfl | (simp; done) | (simp [*]; done), by repeat (first | exact Drawn0.refl _ | apply Drawn0.step)⟩
  · rw [if_neg c4] at H
    have c4b0 : decide ((wrap64 (a1 - (wrap64 (a0 - (wrap64 (t312 * a1)))))) < (wrap64 (a0 - (wrap64 (t312 * a1))))) = false := decide_eq_false c4
    clear c4
    by_cases c5 : (wrap64 (a0 - (wrap64 (t312 * a1)))) = (wrap64 (a1 - (wrap64 (a0 - (wrap64 (t312 * a1))))))
    · rw [if_pos c5] at H
      have c5b0 : ((wrap64 (a0 - (wrap64 (t312 * a1)))) == (wrap64 (a1 - (wrap64 (a0 - (wrap64 (t312 * a1))))))) = true := beq_iff_eq.mpr c5
      have c5b1 : ((wrap64 (a0 - (wrap64 (t312 * a1)))) != (wrap64 (a1 - (wrap64 (a0 - (wrap64 (t312 * a1))))))) = false := bne_eq_false_iff_eq.mpr c5
      clear c5
      by_cases c6 : (Int.tmod t312 2) = 0
      · rw [if_pos c6] at H
        have c6b0 : ((Int.tmod t312 2) == 0) = true := beq_iff_eq.mpr c6
        have c6b1 : ((Int.tmod t312 2) != 0) = false := bne_eq_false_iff_eq.mpr c6
        clear c6
        obtain rfl := Option.some.inj H
        go_enter Try.func38, Try.ntmps38
        go_wp2_with (first | ((with_reducible refine gate_callee (f := 48) rfl ?_); refine goesL_ (some 10) rfl rfl Try.func48 (by kernel_rfl) rfl #[.int .i64 a0, .int .i64 a1] rfl (by (try simp only [List.map_toArray, List.map_cons, List.map_nil]); first | done | rfl | (simp only [List.length_drop, List.length_take]; rfl)) ?_; (with_reducible refine (credenzaref01_Floor.calls a0 a1 t312 _ A3.out).mono ?_); rintro e w' ⟨rfl, ⟨nd, rfl⟩⟩; refine ⟨_, rfl, ?_⟩))
        go_ret
        exact ⟨by first | rfl | (simp; done) | (simp [*]; done), by repeat (first | exact Drawn0.refl _ | apply Drawn0.step)⟩
      · rw [if_neg c6] at H
        have c6b0 : ((Int.tmod t312 2) == 0) = false := beq_eq_false_iff_ne.mpr c6
        have c6b1 : ((Int.tmod t312 2) != 0) = true := bne_iff_ne.mpr c6
        obtain rfl := Option.some.inj H
        go_enter Try.func38, Try.ntmps38
        go_wp2_with (first | ((with_reducible refine gate_callee (f := 48) rfl ?_); refine goesL_ (some 10) rfl rfl Try.func48 (by kernel_rfl) rfl #[.int .i64 a0, .int .i64 a1] rfl (by (try simp only [List.map_toArray, List.map_cons, List.map_nil]); first | done | rfl | (simp only [List.length_drop, List.length_take]; rfl)) ?_; (with_reducible refine (credenzaref01_Floor.calls a0 a1 t312 _ A3.out).mono ?_); rintro e w' ⟨rfl, ⟨nd, rfl⟩⟩; refine ⟨_, rfl, ?_⟩))
        go_ret
        exact ⟨by first | rfl | (simp; done) | (simp [*]; done), by repeat (first | exact Drawn0.refl _ | apply Drawn0.step)⟩
    · rw [if_neg c5] at H
      have c5b0 : ((wrap64 (a0 - (wrap64 (t312 * a1)))) == (wrap64 (a1 - (wrap64 (a0 - (wrap64 (t312 * a1))))))) = false := beq_eq_false_iff_ne.mpr c5
      have c5b1 : ((wrap64 (a0 - (wrap64 (t312 * a1)))) != (wrap64 (a1 - (wrap64 (a0 - (wrap64 (t312 * a1))))))) = true := bne_iff_ne.mpr c5
      obtain rfl := Option.some.inj H
      go_enter Try.func38, Try.ntmps38
      go_wp2_with (first | ((with_reducible refine gate_callee (f := 48) rfl ?_); refine goesL_ (some 10) rfl rfl Try.func48 (by kernel_rfl) rfl #[.int .i64 a0, .int .i64 a1] rfl (by (try simp only [List.map_toArray, List.map_cons, List.map_nil]); first | done | rfl | (simp only [List.length_drop, List.length_take]; rfl)) ?_; (with_reducible refine (credenzaref01_Floor.calls a0 a1 t312 _ A3.out).mono ?_); rintro e w' ⟨rfl, ⟨nd, rfl⟩⟩; refine ⟨_, rfl, ?_⟩))
      go_ret
      exact ⟨by first | rfl | (simp; done) | (simp [*]; done), by repeat (first | exact Drawn0.refl _ | apply Drawn0.step)⟩

end Go.Proofs.Ytmldhpnkkkmloaa.Q

namespace Go.Proofs.Ytmldhpnkkkmloaa.Q
open Go.RowKit Go.Proofs.YtmldhpnkkkmloaaW.PrintWords Go.Proofs.YtmldhpnkkkmloaaW.PrintLast Go.Proofs.YtmldhpnkkkmloaaW.PrintMore
attribute [local go_sem] max2_int min2_int max_two min_two max_three min_three max_four min_four   -- for this text's walks alone
set_option linter.unusedVariables false
set_option linter.unusedSimpArgs false

/-! ### fix_Half: function 45 -/
def fix_Half.f (a0 : Int) (a1 : Int) : Option (Int) := if (wrap64 (a0 - (wrap64 ((a0 / 2 ^ (mn (mx a1 0) 62).toNat) * 2 ^ (mn (mx a1 0) 62).toNat)))) > ((wrap64 (2 ^ (mn (mx a1 0) 62).toNat)) / 2) then (some (wrap64 ((a0 / 2 ^ (mn (mx a1 0) 62).toNat) + 1))) else (if (wrap64 (a0 - (wrap64 ((a0 / 2 ^ (mn (mx a1 0) 62).toNat) * 2 ^ (mn (mx a1 0) 62).toNat)))) = ((wrap64 (2 ^ (mn (mx a1 0) 62).toNat)) / 2) then (if (mn (mx a1 0) 62) > 0 then (if (Go.bits .and .i64 (a0 / 2 ^ (mn (mx a1 0) 62).toNat) 1) = 1 then (some (wrap64 ((a0 / 2 ^ (mn (mx a1 0) 62).toNat) + 1))) else (some (a0 / 2 ^ (mn (mx a1 0) 62).toNat))) else (some (a0 / 2 ^ (mn (mx a1 0) 62).toNat))) else (some (a0 / 2 ^ (mn (mx a1 0) 62).toNat)))
set_option maxHeartbeats 8000000 in
set_option maxRecDepth 100000 in
theorem fix_Half.calls (a0 : Int) (a1 : Int) (r : Int) (w : World) (h : fix_Half.f a0 a1 = some r) :
    Calls Try.prog 45 #[.int .i64 a0, .int .i64 a1] w fun e w' => e = .returned (.int .i64 r) ∧ Below w.heap.size w w' := by
  have HB := Aside0.mk (Below.refl w.heap.size w)
  have H : (if (wrap64 (a0 - (wrap64 ((a0 / 2 ^ (mn (mx a1 0) 62).toNat) * 2 ^ (mn (mx a1 0) 62).toNat)))) > ((wrap64 (2 ^ (mn (mx a1 0) 62).toNat)) / 2) then (some (wrap64 ((a0 / 2 ^ (mn (mx a1 0) 62).toNat) + 1))) else (if (wrap64 (a0 - (wrap64 ((a0 / 2 ^ (mn (mx a1 0) 62).toNat) * 2 ^ (mn (mx a1 0) 62).toNat)))) = ((wrap64 (2 ^ (mn (mx a1 0) 62).toNat)) / 2) then (if (mn (mx a1 0) 62) > 0 then (if (Go.bits .and .i64 (a0 / 2 ^ (mn (mx a1 0) 62).toNat) 1) = 1 then (some (wrap64 ((a0 / 2 ^ (mn (mx a1 0) 62).toNat) + 1))) else (some (a0 / 2 ^ (mn (mx a1 0) 62).toNat))) else (some (a0 / 2 ^ (mn (mx a1 0) 62).toNat))) else (some (a0 / 2 ^ (mn (mx a1 0) 62).toNat)))) = some r := h
  clear h
  obtain ⟨ji3, hji3⟩ : ∃ j_ : Int, (mx a1 0) = j_ := ⟨_, rfl⟩
  replace H : (if (wrap64 (a0 - (wrap64 ((a0 / 2 ^ (mn (ji3) 62).toNat) * 2 ^ (mn (ji3) 62).toNat)))) > ((wrap64 (2 ^ (mn (ji3) 62).toNat)) / 2) then (some (wrap64 ((a0 / 2 ^ (mn (ji3) 62).toNat) + 1))) else (if (wrap64 (a0 - (wrap64 ((a0 / 2 ^ (mn (ji3) 62).toNat) * 2 ^ (mn (ji3) 62).toNat)))) = ((wrap64 (2 ^ (mn (ji3) 62).toNat)) / 2) then (if (mn (ji3) 62) > 0 then (if (Go.bits .and .i64 (a0 / 2 ^ (mn (ji3) 62).toNat) 1) = 1 then (some (wrap64 ((a0 / 2 ^ (mn (ji3) 62).toNat) + 1))) else (some (a0 / 2 ^ (mn (ji3) 62).toNat))) else (some (a0 / 2 ^ (mn (ji3) 62).toNat))) else (some (a0 / 2 ^ (mn (ji3) 62).toNat)))) = some r := by first | (rw [hji3] at H; exact H) | (simp only [hji3] at H ⊢; exact H)
  (try (have hji3l : 0 ≤ ji3 := by (rw [← hji3]; unfold mx; (repeat' split) <;> omega)))
  (try (have hji3m : 0 ≤ ji3 := by omega))
  have hji3_ : (if a1 < 0 then 0 else a1) = ji3 := hji3
  obtain ⟨ji4, hji4⟩ : ∃ j_ : Int, (mn (ji3) 62) = j_ := ⟨_, rfl⟩
  replace H : (if (wrap64 (a0 - (wrap64 ((a0 / 2 ^ (ji4).toNat) * 2 ^ (ji4).toNat)))) > ((wrap64 (2 ^ (ji4).toNat)) / 2) then (some (wrap64 ((a0 / 2 ^ (ji4).toNat) + 1))) else (if (wrap64 (a0 - (wrap64 ((a0 / 2 ^ (ji4).toNat) * 2 ^ (ji4).toNat)))) = ((wrap64 (2 ^ (ji4).toNat)) / 2) then (if (ji4) > 0 then (if (Go.bits .and .i64 (a0 / 2 ^ (ji4).toNat) 1) = 1 then (some (wrap64 ((a0 / 2 ^ (ji4).toNat) + 1))) else (some (a0 / 2 ^ (ji4).toNat))) else (some (a0 / 2 ^ (ji4).toNat))) else (some (a0 / 2 ^ (ji4).toNat)))) = some r := by first | (rw [hji4] at H; exact H) | (simp only [hji4] at H ⊢; exact H)
  have hji4_ : (if 62 < (ji3) then 62 else (ji3)) = ji4 := hji4
  by_cases c5 : (wrap64 (a0 - (wrap64 ((a0 / 2 ^ (ji4).toNat) * 2 ^ (ji4).toNat)))) > ((wrap64 (2 ^ (ji4).toNat)) / 2)
  · rw [if_pos c5] at H
    have c5b0 : decide (((wrap64 (2 ^ (ji4).toNat)) / 2) < (wrap64 (a0 - (wrap64 ((a0 / 2 ^ (ji4).toNat) * 2 ^ (ji4).toNat))))) = true := decide_eq_true c5
    clear c5
    obtain rfl := Option.some.inj H
    go_enter Try.func45, Try.ntmps45
    go_wp2
    repeat (go_quiet (fail); try go_wp2)
    go_ret
    exact ⟨by first | rfl | (simp [errW_none, errW_some] <;> rfl) | (simp only [← hji3, ← hji4]; first | rfl | (simp [errW_none, errW_some] <;> rfl)) | (simp [*, errW_none, errW_some] <;> rfl), by repeat (first | (with_reducible first | exact HB.out | apply below_alloc | apply pw_below_drewN | apply below_drew1) | exact HB.out)⟩
  · rw [if_neg c5] at H
    have c5b0 : decide (((wrap64 (2 ^ (ji4).toNat)) / 2) < (wrap64 (a0 - (wrap64 ((a0 / 2 ^ (ji4).toNat) * 2 ^ (ji4).toNat))))) = false := decide_eq_false c5
    clear c5
    by_cases c6 : (wrap64 (a0 - (wrap64 ((a0 / 2 ^ (ji4).toNat) * 2 ^ (ji4).toNat)))) = ((wrap64 (2 ^ (ji4).toNat)) / 2)
    · rw [if_pos c6] at H
      have c6b0 : ((wrap64 (a0 - (wrap64 ((a0 / 2 ^ (ji4).toNat) * 2 ^ (ji4).toNat)))) == ((wrap64 (2 ^ (ji4).toNat)) / 2)) = true := beq_iff_eq.mpr c6
      have c6b1 : ((wrap64 (a0 - (wrap64 ((a0 / 2 ^ (ji4).toNat) * 2 ^ (ji4).toNat)))) != ((wrap64 (2 ^ (ji4).toNat)) / 2)) = false := bne_eq_false_iff_eq.mpr c6
      clear c6
      by_cases c7 : (ji4) > 0
      · rw [if_pos c7] at H
        have c7b0 : decide (0 < (ji4)) = true := decide_eq_true c7
        clear c7
        by_cases c8 : (Go.bits .and .i64 (a0 / 2 ^ (ji4).toNat) 1) = 1
        · rw [if_pos c8] at H
          have c8b0 : ((Go.bits .and .i64 (a0 / 2 ^ (ji4).toNat) 1) == 1) = true := beq_iff_eq.mpr c8
          have c8b1 : ((Go.bits .and .i64 (a0 / 2 ^ (ji4).toNat) 1) != 1) = false := bne_eq_false_iff_eq.mpr c8
          clear c8
          obtain rfl := Option.some.inj H
          go_enter Try.func45, Try.ntmps45
          go_wp2
          repeat (go_quiet (fail); try go_wp2)
          go_ret
          exact ⟨by first | rfl | (simp [errW_none, errW_some] <;> rfl) | (simp only [← hji3, ← hji4]; first | rfl | (simp [errW_none, errW_some] <;> rfl)) | (simp [*, errW_none, errW_some] <;> rfl), by repeat (first | (with_reducible first | exact HB.out | apply below_alloc | apply pw_below_drewN | apply below_drew1) | exact HB.out)⟩
        · rw [if_neg c8] at H
          have c8b0 : ((Go.bits .and .i64 (a0 / 2 ^ (ji4).toNat) 1) == 1) = false := beq_eq_false_iff_ne.mpr c8
          have c8b1 : ((Go.bits .and .i64 (a0 / 2 ^ (ji4).toNat) 1) != 1) = true := bne_iff_ne.mpr c8
          obtain rfl := Option.some.inj H
          go_enter Try.func45, Try.ntmps45
          go_wp2
          repeat (go_quiet (fail); try go_wp2)
          go_ret
          exact ⟨by first | rfl | (simp [errW_none, errW_some] <;> rfl) | (simp only [← hji3, ← hji4]; first | rfl | (simp [errW_none, errW_some] <;> rfl)) | (simp [*, errW_none, errW_some] <;> rfl), by repeat (first | (with_reducible first | exact HB.out | apply below_alloc | apply pw_below_drewN | apply below_drew1) | exact HB.out)⟩
      · rw [if_neg c7] at H
        have c7b0 : decide (0 < (ji4)) = false := decide_eq_false c7
        clear c7
        obtain rfl := Option.some.inj H
        go_enter Try.func45, Try.ntmps45
        go_wp2
        repeat (go_quiet (fail); try go_wp2)
        go_ret
        exact ⟨by first | rfl | (simp [errW_none, errW_some] <;> rfl) | (simp only [← hji3, ← hji4]; first | rfl | (simp [errW_none, errW_some] <;> rfl)) | (simp [*, errW_none, errW_some] <;> rfl), by repeat (first | (with_reducible first | exact HB.out | apply below_alloc | apply pw_below_drewN | apply below_drew1) | exact HB.out)⟩
    · rw [if_neg c6] at H
      have c6b0 : ((wrap64 (a0 - (wrap64 ((a0 / 2 ^ (ji4).toNat) * 2 ^ (ji4).toNat)))) == ((wrap64 (2 ^ (ji4).toNat)) / 2)) = false := beq_eq_false_iff_ne.mpr c6
      have c6b1 : ((wrap64 (a0 - (wrap64 ((a0 / 2 ^ (ji4).toNat) * 2 ^ (ji4).toNat)))) != ((wrap64 (2 ^ (ji4).toNat)) / 2)) = true := bne_iff_ne.mpr c6
      obtain rfl := Option.some.inj H
      go_enter Try.func45, Try.ntmps45
      go_wp2
      repeat (go_quiet (fail); try go_wp2)
      go_ret
      exact ⟨by first | rfl | (simp [errW_none, errW_some] <;> rfl) | (simp only [← hji3, ← hji4]; first | rfl | (simp [errW_none, errW_some] <;> rfl)) | (simp [*, errW_none, errW_some] <;> rfl), by repeat (first | (with_reducible first | exact HB.out | apply below_alloc | apply pw_below_drewN | apply below_drew1) | exact HB.out)⟩

end Go.Proofs.Ytmldhpnkkkmloaa.Q

namespace Go.Proofs.Ytmldhpnkkkmloaa.Q
open Go.RowKit Go.Proofs.YtmldhpnkkkmloaaW.PrintWords Go.Proofs.YtmldhpnkkkmloaaW.PrintLast Go.Proofs.YtmldhpnkkkmloaaW.PrintMore
attribute [local go_sem] max2_int min2_int max_two min_two max_three min_three max_four min_four   -- for this text's walks alone
set_option linter.unusedVariables false
set_option linter.unusedSimpArgs false

/-! ### credenzaref01_Power: function 63 -/
def credenzaref01_Power.l0 : Nat → Int → Int → Int → Option (Int)
  | 0, _, _, _ => none
  | k + 1, x0, x3, x4 => if x4 < x0 then (credenzaref01_Power.l0 k x0 (wrap64 (x3 * 2)) (wrap64 (x4 + 1))) else (some x3)
def credenzaref01_Power.f (k : Nat) (a0 : Int) : Option (Int) := credenzaref01_Power.l0 k a0 1 0
theorem credenzaref01_Power.mono_l : ∀ k, (∀ y0 y1 y2, LeO (credenzaref01_Power.l0 k y0 y1 y2) (credenzaref01_Power.l0 (k + 1) y0 y1 y2))
  | 0 => fun _ _ _ r h => by simp [credenzaref01_Power.l0] at h
  | k + 1 => by
    have ih0 := credenzaref01_Power.mono_l k
    · intro y0 y1 y2
      unfold credenzaref01_Power.l0
      repeat' first
      | (with_reducible exact ih0 _ _ _)
      | (with_reducible exact LeO.refl _)
      | (with_reducible exact LeO.none _)
      | (with_reducible refine LeO.ite ?_ ?_)
      | (with_reducible refine LeO.bind ?_ (fun _ => ?_))
      | exact ih0 _ _ _
      | exact LeO.none _
      | refine LeO.ite ?_ ?_
      | refine LeO.bind ?_ (fun _ => ?_)
theorem credenzaref01_Power.mono : ∀ a0 k, LeO (credenzaref01_Power.f k a0) (credenzaref01_Power.f (k + 1) a0) := by
  intro a0 k
  have ih0 := credenzaref01_Power.mono_l k
  unfold credenzaref01_Power.f
  repeat' first
      | (with_reducible exact ih0 _ _ _)
      | (with_reducible exact LeO.refl _)
      | (with_reducible exact LeO.none _)
      | (with_reducible refine LeO.ite ?_ ?_)
      | (with_reducible refine LeO.bind ?_ (fun _ => ?_))
      | exact ih0 _ _ _
      | exact LeO.none _
      | refine LeO.ite ?_ ?_
      | refine LeO.bind ?_ (fun _ => ?_)
set_option maxHeartbeats 8000000 in
set_option maxRecDepth 100000 in
theorem credenzaref01_Power.calls (k : Nat) (a0 : Int) (r : Int) (w : World) (h : credenzaref01_Power.f k a0 = some r) :
    Calls Try.prog 63 #[.int .i64 a0] w fun e w' => e = .returned (.int .i64 r) ∧ Drawn0 w w' := by
  have H : (credenzaref01_Power.l0 k a0 1 0) = some r := h
  clear h
  have H' := Aside0.mk H
  clear H
  go_enter Try.func63, Try.ntmps63
  go_wp2
  go_loopg [3, 4] k (fun kq v3 v4 w' => ∃ (x3_1 : Int) (x4_1 : Int), v3 = .int .i64 x3_1 ∧ v4 = .int .i64 x4_1 ∧ Aside0 (credenzaref01_Power.l0 kq a0 x3_1 x4_1 = some r) ∧ Aside0 (kq ≤ k) ∧ Drawn0 w w')
  case atStart => exact ⟨(1), (0), (by first | rfl | (simp; done) | (simp [*]; done)), (by first | rfl | (simp; done) | (simp [*]; done)), H', ⟨Nat.le_refl _⟩, by repeat (first | exact Drawn0.refl _ | apply Drawn0.step)⟩
  case round =>
    clear H'
    obtain ⟨x3_1, x4_1, rfl, rfl, HA, HK1, ⟨m1, rfl⟩⟩ := hrel
    cases gk with
    | zero => exact absurd HA.out (by simp [credenzaref01_Power.l0])
    | succ k1 =>
      have H := HA.out
      clear HA
      simp only [credenzaref01_Power.l0] at H
      by_cases c2 : x4_1 < a0
      · rw [if_pos c2] at H
        have c2b0 : decide (x4_1 < a0) = true := decide_eq_true c2
        clear c2
        have H' := Aside0.mk H
        clear H
        go_wp2
        go_roundg k1
        case measure => have := HK1.out; omega
        case rel => exact ⟨(wrap64 (x3_1 * 2)), (wrap64 (x4_1 + 1)), (by first | rfl | (simp; done) | (simp [*]; done)), (by first | rfl | (simp; done) | (simp [*]; done)), H', ⟨by have := HK1.out; omega⟩, by repeat (first | exact Drawn0.refl _ | apply Drawn0.step)⟩
      · rw [if_neg c2] at H
        have c2b0 : decide (x4_1 < a0) = false := decide_eq_false c2
        clear c2
        obtain rfl := Option.some.inj H
        go_wp2
        go_ret
        exact ⟨by first | rfl | (simp; done) | (simp [*]; done), by repeat (first | exact Drawn0.refl _ | apply Drawn0.step)⟩

end Go.Proofs.Ytmldhpnkkkmloaa.Q

namespace Go.Proofs.Ytmldhpnkkkmloaa.Q
open Go.RowKit Go.Proofs.YtmldhpnkkkmloaaW.PrintWords Go.Proofs.YtmldhpnkkkmloaaW.PrintLast Go.Proofs.YtmldhpnkkkmloaaW.PrintMore
attribute [local go_sem] max2_int min2_int max_two min_two max_three min_three max_four min_four   -- for this text's walks alone
set_option linter.unusedVariables false
set_option linter.unusedSimpArgs false

/-! ### credenzaref01_Half: function 49 -/
def credenzaref01_Half.f (k : Nat) (a0 : Int) (a1 : Int) : Option (Int) := (credenzaref01_Cut.f a1 0 62).bind fun t318 => ((credenzaref01_Power.f k t318).bind fun t319 => ((credenzaref01_Ratio.f a0 t319).bind fun t320 => (some t320)))
theorem credenzaref01_Half.mono : ∀ a0 a1 k, LeO (credenzaref01_Half.f k a0 a1) (credenzaref01_Half.f (k + 1) a0 a1) := by
  intro a0 a1 k
  unfold credenzaref01_Half.f
  repeat' first
      | (with_reducible exact credenzaref01_Power.mono _ _)
      | (with_reducible exact LeO.refl _)
      | (with_reducible exact LeO.none _)
      | (with_reducible refine LeO.ite ?_ ?_)
      | (with_reducible refine LeO.bind ?_ (fun _ => ?_))
      | exact credenzaref01_Power.mono _ _
      | exact LeO.none _
      | refine LeO.ite ?_ ?_
      | refine LeO.bind ?_ (fun _ => ?_)
set_option maxHeartbeats 8000000 in
set_option maxRecDepth 100000 in
theorem credenzaref01_Half.calls (k : Nat) (a0 : Int) (a1 : Int) (r : Int) (w : World) (h : credenzaref01_Half.f k a0 a1 = some r) :
    Calls Try.prog 49 #[.int .i64 a0, .int .i64 a1] w fun e w' => e = .returned (.int .i64 r) ∧ Drawn0 w w' := by
  have H : ((credenzaref01_Cut.f a1 0 62).bind fun t318 => ((credenzaref01_Power.f k t318).bind fun t319 => ((credenzaref01_Ratio.f a0 t319).bind fun t320 => (some t320)))) = some r := h
  clear h
  replace H := Option.bind_eq_some_iff.mp H
  obtain ⟨t318, A30, H⟩ := H
  replace H : ((credenzaref01_Power.f k t318).bind fun t319 => ((credenzaref01_Ratio.f a0 t319).bind fun t320 => (some t320))) = some r := H
  have A3 := Aside0.mk A30
  clear A30
  replace H := Option.bind_eq_some_iff.mp H
  obtain ⟨t319, A40, H⟩ := H
  replace H : ((credenzaref01_Ratio.f a0 t319).bind fun t320 => (some t320)) = some r := H
  have A4 := Aside0.mk A40
  clear A40
  replace H := Option.bind_eq_some_iff.mp H
  obtain ⟨t320, A50, H⟩ := H
  replace H : (some t320) = some r := H
  have A5 := Aside0.mk A50
  clear A50
  obtain rfl := Option.some.inj H
  go_enter Try.func49, Try.ntmps49
  go_wp2_with (first | ((with_reducible refine gate_callee (f := 47) rfl ?_); refine goesL_ (some 7) rfl rfl Try.func47 (by kernel_rfl) rfl #[.int .i64 a1, .int .i64 0, .int .i64 62] rfl (by (try simp only [List.map_toArray, List.map_cons, List.map_nil]); first | done | rfl | (simp only [List.length_drop, List.length_take]; rfl)) ?_; (with_reducible refine (credenzaref01_Cut.calls a1 0 62 t318 _ A3.out).mono ?_); rintro e w' ⟨rfl, ⟨nd, rfl⟩⟩; refine ⟨_, rfl, ?_⟩) | ((with_reducible refine gate_callee (f := 63) rfl ?_); refine goesL_ (some 8) rfl rfl Try.func63 (by kernel_rfl) rfl #[.int .i64 t318] rfl (by (try simp only [List.map_toArray, List.map_cons, List.map_nil]); first | done | rfl | (simp only [List.length_drop, List.length_take]; rfl)) ?_; (with_reducible refine (credenzaref01_Power.calls k t318 t319 _ A4.out).mono ?_); rintro e w' ⟨rfl, ⟨nd, rfl⟩⟩; refine ⟨_, rfl, ?_⟩) | ((with_reducible refine gate_callee (f := 38) rfl ?_); refine goesL_ (some 9) rfl rfl Try.func38 (by kernel_rfl) rfl #[.int .i64 a0, .int .i64 t319] rfl (by (try simp only [List.map_toArray, List.map_cons, List.map_nil]); first | done | rfl | (simp only [List.length_drop, List.length_take]; rfl)) ?_; (with_reducible refine (credenzaref01_Ratio.calls a0 t319 t320 _ A5.out).mono ?_); rintro e w' ⟨rfl, ⟨nd, rfl⟩⟩; refine ⟨_, rfl, ?_⟩))
  go_ret
  exact ⟨by first | rfl | (simp; done) | (simp [*]; done), by repeat (first | exact Drawn0.refl _ | apply Drawn0.step)⟩

end Go.Proofs.Ytmldhpnkkkmloaa.Q

namespace Go.Proofs.Ytmldhpnkkkmloaa.Pure
open Go.RowKit Go.Proofs.Ytmldhpnkkkmloaa.Q Go.Proofs.YtmldhpnkkkmloaaW.PrintWords Go.Proofs.YtmldhpnkkkmloaaW.PrintLast

theorem bits_and1 (q : Int) : Go.bits .and .i64 q 1 = q % 2 := by
  have h1 : (BitVec.ofInt 64 1).toNat = 1 := by decide
  have h2 : ((BitVec.ofInt 64 q) &&& (BitVec.ofInt 64 1)).toNat = ((BitVec.ofInt 64 q).toNat % 2) := by
    rw [BitVec.toNat_and, h1, Nat.and_one_is_mod]
  have h3 : (BitVec.ofInt 64 q).toNat = (q % 18446744073709551616).toNat := by rw [BitVec.toNat_ofInt]; rfl
  have hb : IntKind.i64.bits = 64 := rfl
  unfold bits
  show IntKind.i64.wrap (((BitVec.ofInt 64 q) &&& (BitVec.ofInt 64 1)).toNat : Int) = q % 2
  rw [h2, h3, IntWalk.i64_in _ (by omega)]
  omega

/-- cut to a range -/
def cutR (v lo hi : Int) : Int := if v < lo then lo else if hi < v then hi else v
def wideR (v : Int) : Int := cutR v (-2147483648) 2147483647
def narR (v : Int) : Int := cutR v (-8388608) 8388608
theorem cutR_bd {v lo hi : Int} (h : lo ≤ hi) : lo ≤ cutR v lo hi ∧ cutR v lo hi ≤ hi := by unfold cutR; split <;> (try split) <;> omega
theorem narR_bd (v : Int) : -8388608 ≤ narR v ∧ narR v ≤ 8388608 := cutR_bd (by omega)
theorem wideR_bd (v : Int) : -2147483648 ≤ wideR v ∧ wideR v ≤ 2147483647 := cutR_bd (by omega)
theorem w64 {x : Int} (h1 : -9223372036854775808 ≤ x) (h2 : x ≤ 9223372036854775807) : wrap64 x = x := IntWalk.wrap64_in x ⟨h1, h2⟩
theorem w32 {x : Int} (h1 : -2147483648 ≤ x) (h2 : x ≤ 2147483647) : wrap32 x = x := IntWalk.wrap32_in x ⟨h1, h2⟩
theorem fix_cut_some (v lo hi : Int) (h : lo ≤ hi) (h1 : -2147483648 ≤ lo) (h2 : hi ≤ 2147483647) : fix_cut.f v lo hi = some (cutR v lo hi) := by
  have hb := cutR_bd (v := v) h
  have e : mn (mx v lo) hi = cutR v lo hi := by unfold mn mx cutR; omega
  unfold fix_cut.f
  rw [e, w32 (by omega) (by omega)]
theorem fix_Wide_some (v : Int) : fix_Wide.f v = some (wideR v) := by
  unfold fix_Wide.f
  rw [fix_cut_some v _ _ (by omega) (by omega) (by omega)]
  rfl
theorem ref_Cut_some (v lo hi : Int) : credenzaref01_Cut.f v lo hi = some (cutR v lo hi) := by
  unfold credenzaref01_Cut.f cutR
  by_cases h1 : v < lo
  · rw [if_pos h1, if_pos h1]
  · rw [if_neg h1, if_neg h1]
    by_cases h2 : v > hi
    · rw [if_pos h2, if_pos h2]
    · rw [if_neg h2, if_neg h2]
theorem ref_Wide_some (v : Int) : credenzaref01_Wide.f v = some (wideR v) := by
  have hb := wideR_bd v
  unfold credenzaref01_Wide.f
  rw [ref_Cut_some]
  show some (wrap32 (wideR v)) = _
  rw [w32 hb.1 hb.2]
/-- a by b (above 0), to the nearest; from the middle to the even one -/
def rnd (a b : Int) : Int := if b - a % b < a % b ∨ (a % b = b - a % b ∧ (a / b) % 2 ≠ 0) then a / b + 1 else a / b
theorem divmod {a b : Int} (hb : 0 < b) : b * (a / b) + a % b = a ∧ 0 ≤ a % b ∧ a % b < b := ⟨Int.mul_ediv_add_emod a b, Int.emod_nonneg _ (by omega), Int.emod_lt_of_pos _ hb⟩
theorem div_bd {a b : Int} (hb : 0 < b) (B : Int) (h1 : -B ≤ a) (h2 : a ≤ B) : -B ≤ a / b ∧ a / b ≤ B := by
  have hB : 0 ≤ B := by omega
  constructor
  · apply Int.le_ediv_of_mul_le hb
    have : -B * b ≤ -B * 1 := Int.mul_le_mul_of_nonpos_left (by omega) (by omega)
    omega
  · have : a / b < B + 1 := by
      apply Int.ediv_lt_of_lt_mul hb
      have : (B + 1) * 1 ≤ (B + 1) * b := Int.mul_le_mul_of_nonneg_left (by omega) (by omega)
      omega
    omega
theorem tdiv_cases {a b : Int} (hb : 0 < b) : (Int.tdiv a b = a / b ∧ (0 ≤ a ∨ a % b = 0)) ∨ (Int.tdiv a b = a / b + 1 ∧ a < 0 ∧ a % b ≠ 0) := by
  rw [Int.tdiv_eq_ediv]
  by_cases h : 0 ≤ a ∨ b ∣ a
  · rw [if_pos h]
    refine .inl ⟨by omega, h.imp_right (fun h => Int.emod_eq_zero_of_dvd h)⟩
  · rw [if_neg h]
    refine .inr ⟨by rw [Int.sign_eq_one_of_pos hb], by omega, fun h2 => h (.inr (Int.dvd_of_emod_eq_zero h2))⟩
theorem rnd_bd {a b : Int} (hb : 0 < b) (B : Int) (h1 : -B ≤ a) (h2 : a ≤ B) : -B ≤ rnd a b ∧ rnd a b ≤ B + 1 := by
  have := div_bd hb B h1 h2
  unfold rnd
  split <;> omega
theorem ref_Floor_some {a b : Int} (hb : 0 < b) (ha1 : -4611686018427387904 ≤ a) (ha2 : a ≤ 4611686018427387904) (hb2 : b ≤ 4611686018427387904) : credenzaref01_Floor.f a b = some (a / b) := by
  obtain ⟨h1, h2, h3⟩ := divmod (a := a) hb
  have h4 := div_bd hb 4611686018427387904 ha1 ha2
  have h5 : (a / b + 1) * b = b * (a / b) + b := by rw [Int.add_mul, Int.mul_comm]; omega
  have h6 : (a / b) * b = b * (a / b) := Int.mul_comm _ _
  unfold credenzaref01_Floor.f
  rw [if_neg (by omega)]
  rcases tdiv_cases (a := a) hb with ⟨e, h⟩ | ⟨e, h, h'⟩
  · rw [e, w64 (x := a / b) (by omega) (by omega), h6, w64 (x := b * (a / b)) (by omega) (by omega), if_neg (by omega)]
  · rw [e, w64 (x := a / b + 1) (by omega) (by omega), h5, w64 (x := b * (a / b) + b) (by omega) (by omega), if_pos (by omega), show a / b + 1 - 1 = a / b by omega, w64 (x := a / b) (by omega) (by omega)]
theorem ref_Ratio_some {a b : Int} (hb : 0 < b) (ha1 : -4611686018427387904 ≤ a) (ha2 : a ≤ 4611686018427387904) (hb2 : b ≤ 4611686018427387904) : credenzaref01_Ratio.f a b = some (rnd a b) := by
  obtain ⟨h1, h2, h3⟩ := divmod (a := a) hb
  have h4 := div_bd hb 4611686018427387904 ha1 ha2
  have h6 : (a / b) * b = b * (a / b) := Int.mul_comm _ _
  unfold credenzaref01_Ratio.f
  rw [ref_Floor_some hb ha1 ha2 hb2]
  simp only [Option.bind_some]
  rw [h6, w64 (x := b * (a / b)) (by omega) (by omega), show a - b * (a / b) = a % b by omega, w64 (x := a % b) (by omega) (by omega), w64 (x := b - a % b) (by omega) (by omega), w64 (x := a / b + 1) (by omega) (by omega)]
  have ht : Int.tmod (a / b) 2 = 0 ↔ (a / b) % 2 = 0 := by rw [Int.tmod_eq_emod]; split <;> omega
  unfold rnd
  by_cases c1 : a % b > b - a % b
  · rw [if_pos c1, if_pos (.inl c1)]
  · rw [if_neg c1]
    by_cases c2 : a % b = b - a % b
    · rw [if_pos c2]
      by_cases c3 : (a / b) % 2 = 0
      · rw [if_pos (ht.2 c3), if_neg (by omega)]
      · rw [if_neg (fun h => c3 (ht.1 h)), if_pos (.inr ⟨c2, c3⟩)]
    · rw [if_neg c2, if_neg (by omega)]
theorem fix_Ratio_some {a b : Int} (hb : 0 < b) (ha1 : -4611686018427387904 ≤ a) (ha2 : a ≤ 4611686018427387904) (hb2 : b ≤ 4611686018427387904) : fix_Ratio.f a b = some (rnd a b) := by
  obtain ⟨h1, h2, h3⟩ := divmod (a := a) hb
  have h4 := div_bd hb 4611686018427387904 ha1 ha2
  have hm : Int.tmod a b = a - b * Int.tdiv a b := by have := Int.mul_tdiv_add_tmod a b; omega
  unfold fix_Ratio.f
  rw [if_neg (by omega), if_neg (by omega)]
  rcases tdiv_cases (a := a) hb with ⟨e, h⟩ | ⟨e, h, h'⟩
  · have hm2 : Int.tmod a b = a % b := by rw [hm, e]; omega
    rw [e, hm2, if_neg (by omega), w64 (x := b - a % b) (by omega) (by omega), w64 (x := a / b) (by omega) (by omega), w64 (x := a / b + 1) (by omega) (by omega), bits_and1]
    unfold rnd
    by_cases c1 : a % b > b - a % b
    · rw [if_pos c1, if_pos (.inl c1)]
    · rw [if_neg c1]
      by_cases c2 : a % b = b - a % b
      · rw [if_pos c2]
        by_cases c3 : (a / b) % 2 = 0
        · rw [if_pos c3, if_neg (by omega)]
        · rw [if_neg c3, if_pos (.inr ⟨c2, c3⟩)]
      · rw [if_neg c2, if_neg (by omega)]
  · have h5 : b * (a / b + 1) = b * (a / b) + b := by rw [Int.mul_add]; omega
    have hm2 : Int.tmod a b = a % b - b := by rw [hm, e, h5]; omega
    rw [e, hm2, if_pos (by omega), w64 (x := a % b - b + b) (by omega) (by omega), show a % b - b + b = a % b by omega, w64 (x := b - a % b) (by omega) (by omega), w64 (x := a / b + 1) (by omega) (by omega), show a / b + 1 - 1 = a / b by omega, w64 (x := a / b) (by omega) (by omega), w64 (x := a / b + 1) (by omega) (by omega), bits_and1]
    unfold rnd
    by_cases c1 : a % b > b - a % b
    · rw [if_pos c1, if_pos (.inl c1)]
    · rw [if_neg c1]
      by_cases c2 : a % b = b - a % b
      · rw [if_pos c2]
        by_cases c3 : (a / b) % 2 = 0
        · rw [if_pos c3, if_neg (by omega)]
        · rw [if_neg c3, if_pos (.inr ⟨c2, c3⟩)]
      · rw [if_neg c2, if_neg (by omega)]
theorem pow2_bd {n : Nat} (hn : n ≤ 62) : 1 ≤ (2 : Int) ^ n ∧ (2 : Int) ^ n ≤ 4611686018427387904 := by
  have h1 : (2 : Nat) ^ n ≤ 2 ^ 62 := Nat.pow_le_pow_right (by decide) hn
  have h2 : 1 ≤ (2 : Nat) ^ n := Nat.one_le_two_pow
  have h3 : (2 : Int) ^ n = ((2 ^ n : Nat) : Int) := by simp
  rw [h3]
  have h4 : (2 : Nat) ^ 62 = 4611686018427387904 := by decide
  omega
theorem fix_Half_some {a : Int} {n : Nat} (hn : n ≤ 62) (ha1 : -4611686018427387904 ≤ a) (ha2 : a ≤ 4611686018427387904) : fix_Half.f a (n : Int) = some (rnd a (2 ^ n)) := by
  obtain ⟨hp1, hp2⟩ := pow2_bd hn
  have e : (mn (mx (n : Int) 0) 62) = (n : Int) := by unfold mn mx; omega
  have heven : n = 0 ∧ (2 : Int) ^ n = 1 ∨ 0 < n ∧ (2 : Int) ^ n % 2 = 0 := by
    cases n with
    | zero => exact .inl ⟨rfl, rfl⟩
    | succ m => exact .inr ⟨by omega, by rw [Int.pow_succ]; omega⟩
  unfold fix_Half.f
  rw [e, Int.toNat_natCast]
  generalize (2 : Int) ^ n = b at *
  obtain ⟨h1, h2, h3⟩ := divmod (a := a) (b := b) (by omega)
  have h4 := div_bd (b := b) (by omega) 4611686018427387904 ha1 ha2
  have h6 : (a / b) * b = b * (a / b) := Int.mul_comm _ _
  rw [h6, w64 (x := b * (a / b)) (by omega) (by omega), show a - b * (a / b) = a % b by omega, w64 (x := a % b) (by omega) (by omega), w64 (x := b) (by omega) (by omega), w64 (x := a / b + 1) (by omega) (by omega), bits_and1]
  unfold rnd
  by_cases c1 : a % b > b / 2
  · rw [if_pos c1, if_pos (.inl (by omega))]
  · rw [if_neg c1]
    by_cases c2 : a % b = b / 2
    · rw [if_pos c2]
      rcases heven with ⟨h0, h0'⟩ | ⟨h0, h0'⟩
      · rw [if_neg (by omega), if_neg (by omega)]
      · rw [if_pos (by omega)]
        by_cases c3 : (a / b) % 2 = 1
        · rw [if_pos c3, if_pos (.inr (by omega))]
        · rw [if_neg c3, if_neg (by omega)]
    · rw [if_neg c2, if_neg (by omega)]
theorem fix_Half_16 {a : Int} (ha1 : -4611686018427387904 ≤ a) (ha2 : a ≤ 4611686018427387904) : fix_Half.f a 16 = some (rnd a 65536) := fix_Half_some (n := 16) (by omega) ha1 ha2
/-- the product of two numbers with 16 bits behind the point -/
def mulR (a b : Int) : Int := wideR (rnd (a * b) 65536)
theorem mul_bd {a b A B : Int} (h1 : -A ≤ a) (h2 : a ≤ A) (h3 : -B ≤ b) (h4 : b ≤ B) : -(A * B) ≤ a * b ∧ a * b ≤ A * B := by
  have hA : 0 ≤ A := by omega
  have hB : 0 ≤ B := by omega
  have e : (a * b).natAbs ≤ A.natAbs * B.natAbs := by rw [Int.natAbs_mul]; exact Nat.mul_le_mul (by omega) (by omega)
  have e2 : (A * B).natAbs = A.natAbs * B.natAbs := Int.natAbs_mul _ _
  have e3 : 0 ≤ A * B := Int.mul_nonneg hA hB
  rw [← e2] at e
  generalize a * b = p at *
  generalize A * B = q at *
  omega
theorem mul32_bd {a b : Int} (h1 : -2147483648 ≤ a) (h2 : a ≤ 2147483648) (h3 : -2147483648 ≤ b) (h4 : b ≤ 2147483648) : -4611686018427387904 ≤ a * b ∧ a * b ≤ 4611686018427387904 := mul_bd (A := 2147483648) (B := 2147483648) h1 h2 h3 h4

/-! ### lists -/
def I32 (x : Int) : Prop := -2147483648 ≤ x ∧ x ≤ 2147483647
def A32 (l : List Int) : Prop := ∀ x ∈ l, I32 x
theorem rd_at {l : List Int} {p : Nat} (h : p < l.length) : rd l (p : Int) = l[p] := by simp [rd, List.getD_eq_getElem?_getD, List.getElem?_eq_getElem h]
theorem rd_mem {l : List Int} {p : Nat} (h : p < l.length) : rd l (p : Int) ∈ l := by rw [rd_at h]; exact List.getElem_mem h
theorem drop_rd {l : List Int} {p : Nat} (h : p < l.length) : l.drop p = rd l (p : Int) :: l.drop (p + 1) := by rw [rd_at h]; exact List.drop_eq_getElem_cons h
theorem take_rd {l : List Int} {p : Nat} (h : p < l.length) : l.take (p + 1) = l.take p ++ [rd l (p : Int)] := by rw [rd_at h, List.take_succ_eq_append_getElem h]
theorem wnext {p n : Nat} (h : p < n) (hn : n ≤ 4611686018427387904) : wrap64 ((p : Int) + 1) = ((p + 1 : Nat) : Int) := by rw [w64 (by omega) (by omega)]; omega
theorem A32_of_wf {l : List Int} (h : ∀ x ∈ l, (Lit.int .i32 x).wf = true) : A32 l := fun x hx => by
  have := h x hx
  simp [Lit.wf, IntKind.min, IntKind.max, IntKind.signed, IntKind.bits] at this
  exact ⟨by omega, by omega⟩
end Go.Proofs.Ytmldhpnkkkmloaa.Pure

namespace Go.Proofs.Ytmldhpnkkkmloaa.Q
open Go.RowKit Go.Proofs.YtmldhpnkkkmloaaW.PrintWords Go.Proofs.YtmldhpnkkkmloaaW.PrintLast Go.Proofs.YtmldhpnkkkmloaaW.PrintMore
attribute [local go_sem] max2_int min2_int max_two min_two max_three min_three max_four min_four   -- for this text's walks alone
set_option linter.unusedVariables false
set_option linter.unusedSimpArgs false

/-! ### slices_Max_int32_int32: function 31 -/
def slices_Max_int32_int32.l0 : Nat → List Int → Int → Int → Option (Int)
  | 0, _, _, _ => none
  | k + 1, x0, x3, x4 => if x4 < (x0.length : Int) then (if 0 ≤ x4 then (slices_Max_int32_int32.l0 k x0 (mx x3 (rd x0 x4)) (wrap64 (x4 + 1))) else (none)) else (some x3)
def slices_Max_int32_int32.f (k : Nat) (l0 : List Int) : Option (Int) := if (l0.length : Int) < 1 then (none) else (if 0 < (l0.length : Int) then (slices_Max_int32_int32.l0 k l0 (rd l0 0) 1) else (none))
theorem slices_Max_int32_int32.mono_l : ∀ k, (∀ y0 y1 y2, LeO (slices_Max_int32_int32.l0 k y0 y1 y2) (slices_Max_int32_int32.l0 (k + 1) y0 y1 y2))
  | 0 => fun _ _ _ r h => by simp [slices_Max_int32_int32.l0] at h
  | k + 1 => by
    have ih0 := slices_Max_int32_int32.mono_l k
    · intro y0 y1 y2
      unfold slices_Max_int32_int32.l0
      repeat' first
      | (with_reducible exact ih0 _ _ _)
      | (with_reducible exact LeO.refl _)
      | (with_reducible exact LeO.none _)
      | (with_reducible refine LeO.ite ?_ ?_)
      | (with_reducible refine LeO.bind ?_ (fun _ => ?_))
      | exact ih0 _ _ _
      | exact LeO.none _
      | refine LeO.ite ?_ ?_
      | refine LeO.bind ?_ (fun _ => ?_)
theorem slices_Max_int32_int32.mono : ∀ a0 k, LeO (slices_Max_int32_int32.f k a0) (slices_Max_int32_int32.f (k + 1) a0) := by
  intro a0 k
  have ih0 := slices_Max_int32_int32.mono_l k
  unfold slices_Max_int32_int32.f
  repeat' first
      | (with_reducible exact ih0 _ _ _)
      | (with_reducible exact LeO.refl _)
      | (with_reducible exact LeO.none _)
      | (with_reducible refine LeO.ite ?_ ?_)
      | (with_reducible refine LeO.bind ?_ (fun _ => ?_))
      | exact ih0 _ _ _
      | exact LeO.none _
      | refine LeO.ite ?_ ?_
      | refine LeO.bind ?_ (fun _ => ?_)
set_option maxHeartbeats 8000000 in
set_option maxRecDepth 100000 in
theorem slices_Max_int32_int32.calls (k : Nat) (A0 : Option Addr) (c0 : Nat) (l0 : List Int) (r : Int) (w : World) (hr0 : Kd.C (Kd.int .i32) w A0 l0.length l0) (hc0 : l0.length ≤ c0) (h : slices_Max_int32_int32.f k l0 = some r) :
    Calls Try.prog 31 #[.slice A0 l0.length c0] w fun e w' => e = .returned (.int .i32 r) ∧ Below w.heap.size w w' := by
  have HR0 := Aside0.mk hr0
  have HC0 := Aside0.mk hc0
  clear hr0 hc0
  have HB := Aside0.mk (Below.refl w.heap.size w)
  have H : (if (l0.length : Int) < 1 then (none) else (if 0 < (l0.length : Int) then (slices_Max_int32_int32.l0 k l0 (rd l0 0) 1) else (none))) = some r := h
  clear h
  by_cases c2 : (l0.length : Int) < 1
  · rw [if_pos c2] at H
    exact absurd H (by simp)
  · rw [if_neg c2] at H
    have c2b0 : decide ((l0.length : Int) < 1) = false := decide_eq_false c2
    have c2b1 : decide (l0.length < 1) = false := decide_eq_false (by omega)
    clear c2
    by_cases c3 : 0 < (l0.length : Int)
    · rw [if_pos c3] at H
      have c3b0 : decide (0 < (l0.length : Int)) = true := decide_eq_true c3
      have c3b1 : decide (0 < l0.length) = true := decide_eq_true (by omega)
      clear c3
      have H' := Aside0.mk H
      clear H
      have p222 : 0 ≤ (0 : Int) := (by omega)
      have q222 : 0 < (l0.length : Int) := of_decide_eq_true (by first | (with_reducible assumption) | assumption)
      obtain ⟨ad222, e222, hx222_0⟩ := Kd.at_int HR0.out 0 p222 q222
      cases e222
      have qi222 : (0 < l0.length) = True := eq_true (by omega)
      (try rw [show ((0 : Int)).toNat = 0 from rfl] at hx222_0)
      (try rw [Addr.add_zero'] at hx222_0)
      replace p222 := eq_true p222
      replace q222 := eq_true q222
      go_enter Try.func31, Try.ntmps31
      go_wp2
      go_loopg [3, 4] k (fun kq v3 v4 w' => ∃ (x3_1 : Int) (x4_1 : Int), v3 = .int .i32 x3_1 ∧ v4 = .int .i64 x4_1 ∧ Aside0 (slices_Max_int32_int32.l0 kq l0 x3_1 x4_1 = some r) ∧ Aside0 (kq ≤ k) ∧ Aside0 (Below w.heap.size w w'))
      case atStart => exact ⟨(rd l0 0), (1), (by first | rfl | (simp; done) | (simp [*]; done)), (by first | rfl | (simp; done) | (simp [*]; done)), H', ⟨Nat.le_refl _⟩, ⟨by repeat (first | (with_reducible first | exact HB.out | apply below_alloc | apply pw_below_drewN | apply below_drew1) | exact HB.out)⟩⟩
      case round =>
        clear H'
        try clear c2
        try clear c2b0
        try clear c2b1
        try clear p2
        try clear q2
        try clear hx2
        try clear qi2
        try clear c3
        try clear c3b0
        try clear c3b1
        try clear hx222_0
        try clear p222
        try clear q222
        obtain ⟨x3_1, x4_1, rfl, rfl, HA, HK1, HB⟩ := hrel
        cases gk with
        | zero => exact absurd HA.out (by simp [slices_Max_int32_int32.l0])
        | succ k1 =>
          have H := HA.out
          clear HA
          simp only [slices_Max_int32_int32.l0] at H
          by_cases c4 : x4_1 < (l0.length : Int)
          · rw [if_pos c4] at H
            have c4b0 : decide (x4_1 < (l0.length : Int)) = true := decide_eq_true c4
            clear c4
            by_cases c5 : 0 ≤ x4_1
            · rw [if_pos c5] at H
              have c5b0 : decide (0 ≤ x4_1) = true := decide_eq_true c5
              clear c5
              obtain ⟨ji6, hji6⟩ : ∃ j_ : Int, (mx x3_1 (rd l0 x4_1)) = j_ := ⟨_, rfl⟩
              replace H : (slices_Max_int32_int32.l0 k1 l0 ji6 (wrap64 (x4_1 + 1))) = some r := by first | (rw [hji6] at H; exact H) | (simp only [hji6] at H ⊢; exact H)
              have hji6_ : (if x3_1 < (rd l0 x4_1) then (rd l0 x4_1) else x3_1) = ji6 := hji6
              have H' := Aside0.mk H
              clear H
              have p223 : 0 ≤ (x4_1 : Int) := of_decide_eq_true (by first | (with_reducible assumption) | assumption)
              have q223 : x4_1 < (l0.length : Int) := of_decide_eq_true (by first | (with_reducible assumption) | assumption)
              obtain ⟨ad223, e223, hx223_0⟩ := Kd.at_int HR0.out x4_1 p223 q223
              obtain rfl : ad222 = ad223 := (by injection e223)
              replace hx223_0 := (HB.out.cell (World.block_lt_of_cell? w _ hx223_0)).trans hx223_0
              replace p223 := eq_true p223
              replace q223 := eq_true q223
              go_wp2
              go_roundg k1
              case measure => have := HK1.out; omega
              case rel => exact ⟨(ji6), (wrap64 (x4_1 + 1)), (by first | rfl | (simp; done) | (simp only [← hji6] <;> (first | rfl | simp)) | (simp [*]; done)), (by first | rfl | (simp; done) | (simp [*]; done)), H', ⟨by have := HK1.out; omega⟩, ⟨by repeat (first | (with_reducible first | exact HB.out | apply below_alloc | apply pw_below_drewN | apply below_drew1) | exact HB.out)⟩⟩
            · rw [if_neg c5] at H
              exact absurd H (by simp)
          · rw [if_neg c4] at H
            have c4b0 : decide (x4_1 < (l0.length : Int)) = false := decide_eq_false c4
            clear c4
            obtain rfl := Option.some.inj H
            go_wp2
            go_ret
            exact ⟨by first | rfl | (simp [errW_none, errW_some] <;> rfl) | (simp [*, errW_none, errW_some] <;> rfl), by repeat (first | (with_reducible first | exact HB.out | apply below_alloc | apply pw_below_drewN | apply below_drew1) | exact HB.out)⟩
    · rw [if_neg c3] at H
      exact absurd H (by simp)

end Go.Proofs.Ytmldhpnkkkmloaa.Q

namespace Go.Proofs.Ytmldhpnkkkmloaa.Q
open Go.RowKit Go.Proofs.YtmldhpnkkkmloaaW.PrintWords Go.Proofs.YtmldhpnkkkmloaaW.PrintLast Go.Proofs.YtmldhpnkkkmloaaW.PrintMore
attribute [local go_sem] max2_int min2_int max_two min_two max_three min_three max_four min_four   -- for this text's walks alone
set_option linter.unusedVariables false
set_option linter.unusedSimpArgs false

/-! ### slices_Index_int32_int32: function 32 -/
def slices_Index_int32_int32.l0 : Nat → List Int → Int → Int → Int → Option (Int)
  | 0, _, _, _, _ => none
  | k + 1, x0, x1, x7, x8 => if x8 < x7 then (if 0 ≤ x8 then (if x8 < (x0.length : Int) then (if x1 = (rd x0 x8) then (some x8) else (slices_Index_int32_int32.l0 k x0 x1 x7 (wrap64 (x8 + 1)))) else (none)) else (none)) else (some (-1))
def slices_Index_int32_int32.f (k : Nat) (l0 : List Int) (a1 : Int) : Option (Int) := slices_Index_int32_int32.l0 k l0 a1 (l0.length : Int) 0
theorem slices_Index_int32_int32.mono_l : ∀ k, (∀ y0 y1 y2 y3, LeO (slices_Index_int32_int32.l0 k y0 y1 y2 y3) (slices_Index_int32_int32.l0 (k + 1) y0 y1 y2 y3))
  | 0 => fun _ _ _ _ r h => by simp [slices_Index_int32_int32.l0] at h
  | k + 1 => by
    have ih0 := slices_Index_int32_int32.mono_l k
    · intro y0 y1 y2 y3
      unfold slices_Index_int32_int32.l0
      repeat' first
      | (with_reducible exact ih0 _ _ _ _)
      | (with_reducible exact LeO.refl _)
      | (with_reducible exact LeO.none _)
      | (with_reducible refine LeO.ite ?_ ?_)
      | (with_reducible refine LeO.bind ?_ (fun _ => ?_))
      | exact ih0 _ _ _ _
      | exact LeO.none _
      | refine LeO.ite ?_ ?_
      | refine LeO.bind ?_ (fun _ => ?_)
theorem slices_Index_int32_int32.mono : ∀ a0 a1 k, LeO (slices_Index_int32_int32.f k a0 a1) (slices_Index_int32_int32.f (k + 1) a0 a1) := by
  intro a0 a1 k
  have ih0 := slices_Index_int32_int32.mono_l k
  unfold slices_Index_int32_int32.f
  repeat' first
      | (with_reducible exact ih0 _ _ _ _)
      | (with_reducible exact LeO.refl _)
      | (with_reducible exact LeO.none _)
      | (with_reducible refine LeO.ite ?_ ?_)
      | (with_reducible refine LeO.bind ?_ (fun _ => ?_))
      | exact ih0 _ _ _ _
      | exact LeO.none _
      | refine LeO.ite ?_ ?_
      | refine LeO.bind ?_ (fun _ => ?_)
set_option maxHeartbeats 8000000 in
set_option maxRecDepth 100000 in
theorem slices_Index_int32_int32.calls (k : Nat) (A0 : Option Addr) (c0 : Nat) (l0 : List Int) (a1 : Int) (r : Int) (w : World) (hr0 : Kd.C (Kd.int .i32) w A0 l0.length l0) (hc0 : l0.length ≤ c0) (h : slices_Index_int32_int32.f k l0 a1 = some r) :
    Calls Try.prog 32 #[.slice A0 l0.length c0, .int .i32 a1] w fun e w' => e = .returned (.int .i64 r) ∧ Drawn0 w w' := by
  have HR0 := Aside0.mk hr0
  have HC0 := Aside0.mk hc0
  clear hr0 hc0
  have H : (slices_Index_int32_int32.l0 k l0 a1 (l0.length : Int) 0) = some r := h
  clear h
  have H' := Aside0.mk H
  clear H
  go_enter Try.func32, Try.ntmps32
  go_wp2
  go_loopg [8] k (fun kq v8 w' => ∃ (x8_1 : Int), v8 = .int .i64 x8_1 ∧ Aside0 (slices_Index_int32_int32.l0 kq l0 a1 (l0.length : Int) x8_1 = some r) ∧ Aside0 (kq ≤ k) ∧ Drawn0 w w')
  case atStart => exact ⟨(0), (by first | rfl | (simp; done) | (simp [*]; done)), H', ⟨Nat.le_refl _⟩, by repeat (first | exact Drawn0.refl _ | apply Drawn0.step)⟩
  case round =>
    clear H'
    try clear p2
    obtain ⟨x8_1, rfl, HA, HK1, ⟨m1, rfl⟩⟩ := hrel
    cases gk with
    | zero => exact absurd HA.out (by simp [slices_Index_int32_int32.l0])
    | succ k1 =>
      have H := HA.out
      clear HA
      simp only [slices_Index_int32_int32.l0] at H
      by_cases c3 : x8_1 < (l0.length : Int)
      · rw [if_pos c3] at H
        have c3b0 : decide (x8_1 < (l0.length : Int)) = true := decide_eq_true c3
        clear c3
        by_cases c4 : 0 ≤ x8_1
        · rw [if_pos c4] at H
          have c4b0 : decide (0 ≤ x8_1) = true := decide_eq_true c4
          clear c4
          by_cases c5 : x8_1 < (l0.length : Int)
          · rw [if_pos c5] at H
            have c5b0 : decide (x8_1 < (l0.length : Int)) = true := decide_eq_true c5
            clear c5
            by_cases c6 : a1 = (rd l0 x8_1)
            · rw [if_pos c6] at H
              have c6b0 : (a1 == (rd l0 x8_1)) = true := beq_iff_eq.mpr c6
              have c6b1 : (a1 != (rd l0 x8_1)) = false := bne_eq_false_iff_eq.mpr c6
              clear c6
              obtain rfl := Option.some.inj H
              have p224 : 0 ≤ (x8_1 : Int) := of_decide_eq_true (by first | (with_reducible assumption) | assumption)
              have q224 : x8_1 < (l0.length : Int) := of_decide_eq_true (by first | (with_reducible assumption) | assumption)
              obtain ⟨ad224, e224, hx224_0⟩ := Kd.at_int HR0.out x8_1 p224 q224
              cases e224
              replace p224 := eq_true p224
              replace q224 := eq_true q224
              go_wp2
              go_ret
              exact ⟨by first | rfl | (simp; done) | (simp [*]; done), by repeat (first | exact Drawn0.refl _ | apply Drawn0.step)⟩
            · rw [if_neg c6] at H
              have c6b0 : (a1 == (rd l0 x8_1)) = false := beq_eq_false_iff_ne.mpr c6
              have c6b1 : (a1 != (rd l0 x8_1)) = true := bne_iff_ne.mpr c6
              have H' := Aside0.mk H
              clear H
              have p224 : 0 ≤ (x8_1 : Int) := of_decide_eq_true (by first | (with_reducible assumption) | assumption)
              have q224 : x8_1 < (l0.length : Int) := of_decide_eq_true (by first | (with_reducible assumption) | assumption)
              obtain ⟨ad224, e224, hx224_0⟩ := Kd.at_int HR0.out x8_1 p224 q224
              cases e224
              replace p224 := eq_true p224
              replace q224 := eq_true q224
              go_wp2
              go_roundg k1
              case measure => have := HK1.out; omega
              case rel => exact ⟨(wrap64 (x8_1 + 1)), (by first | rfl | (simp; done) | (simp [*]; done)), H', ⟨by have := HK1.out; omega⟩, by repeat (first | exact Drawn0.refl _ | apply Drawn0.step)⟩
          · rw [if_neg c5] at H
            exact absurd H (by simp)
        · rw [if_neg c4] at H
          exact absurd H (by simp)
      · rw [if_neg c3] at H
        have c3b0 : decide (x8_1 < (l0.length : Int)) = false := decide_eq_false c3
        clear c3
        obtain rfl := Option.some.inj H
        go_wp2
        go_ret
        exact ⟨by first | rfl | (simp; done) | (simp [*]; done), by repeat (first | exact Drawn0.refl _ | apply Drawn0.step)⟩

end Go.Proofs.Ytmldhpnkkkmloaa.Q

namespace Go.Proofs.Ytmldhpnkkkmloaa.Q
open Go.RowKit Go.Proofs.YtmldhpnkkkmloaaW.PrintWords Go.Proofs.YtmldhpnkkkmloaaW.PrintLast Go.Proofs.YtmldhpnkkkmloaaW.PrintMore
attribute [local go_sem] max2_int min2_int max_two min_two max_three min_three max_four min_four   -- for this text's walks alone
set_option linter.unusedVariables false
set_option linter.unusedSimpArgs false

/-! ### dot_Top: function 18 -/
def dot_Top.f (k : Nat) (l0 : List Int) : Option (Int × Int × Int) := if (l0.length : Int) = 0 then (some (0, 0, 14)) else ((slices_Max_int32_int32.f k l0).bind fun t225 => ((slices_Index_int32_int32.f k l0 t225).bind fun t226 => (some (t226, t225, 0))))
theorem dot_Top.mono : ∀ a0 k, LeO (dot_Top.f k a0) (dot_Top.f (k + 1) a0) := by
  intro a0 k
  unfold dot_Top.f
  repeat' first
      | (with_reducible exact slices_Index_int32_int32.mono _ _ _)
      | (with_reducible exact slices_Max_int32_int32.mono _ _)
      | (with_reducible exact LeO.refl _)
      | (with_reducible exact LeO.none _)
      | (with_reducible refine LeO.ite ?_ ?_)
      | (with_reducible refine LeO.bind ?_ (fun _ => ?_))
      | exact slices_Index_int32_int32.mono _ _ _
      | exact slices_Max_int32_int32.mono _ _
      | exact LeO.none _
      | refine LeO.ite ?_ ?_
      | refine LeO.bind ?_ (fun _ => ?_)
set_option maxHeartbeats 8000000 in
set_option maxRecDepth 100000 in
theorem dot_Top.calls (k : Nat) (A0 : Option Addr) (c0 : Nat) (l0 : List Int) (r1 : Int) (r2 : Int) (r3 : Int) (w : World) (hr0 : Kd.C (Kd.int .i32) w A0 l0.length l0) (hc0 : l0.length ≤ c0) (h : dot_Top.f k l0 = some (r1, r2, r3)) :
    Calls Try.prog 18 #[.slice A0 l0.length c0] w fun e w' => e = .returned (.tuple #[.int .i64 r1, .int .i32 r2, .int .i64 r3]) ∧ Below w.heap.size w w' := by
  have HR0 := Aside0.mk hr0
  have HC0 := Aside0.mk hc0
  clear hr0 hc0
  have HB := Aside0.mk (Below.refl w.heap.size w)
  have H : (if (l0.length : Int) = 0 then (some (0, 0, 14)) else ((slices_Max_int32_int32.f k l0).bind fun t225 => ((slices_Index_int32_int32.f k l0 t225).bind fun t226 => (some (t226, t225, 0))))) = some (r1, r2, r3) := h
  clear h
  by_cases c2 : (l0.length : Int) = 0
  · rw [if_pos c2] at H
    have c2b0 : ((l0.length : Int) == 0) = true := beq_iff_eq.mpr c2
    have c2b1 : ((l0.length : Int) != 0) = false := bne_eq_false_iff_eq.mpr c2
    clear c2
    simp only [Option.some.injEq, Prod.mk.injEq] at H
    obtain ⟨rfl, rfl, rfl⟩ := H
    go_enter Try.func18, Try.ntmps18
    go_wp2
    go_ret3
    exact ⟨by first | rfl | (simp [errW_none, errW_some] <;> rfl) | (simp [*, errW_none, errW_some] <;> rfl), by repeat (first | (with_reducible first | exact HB.out | apply below_alloc | apply pw_below_drewN | apply below_drew1) | exact HB.out)⟩
  · rw [if_neg c2] at H
    have c2b0 : ((l0.length : Int) == 0) = false := beq_eq_false_iff_ne.mpr c2
    have c2b1 : ((l0.length : Int) != 0) = true := bne_iff_ne.mpr c2
    have c2b2 : ¬ (l0 = []) := fun h_ => c2 (by rw [h_]; rfl)
    replace H := Option.bind_eq_some_iff.mp H
    obtain ⟨t225, A30, H⟩ := H
    replace H : ((slices_Index_int32_int32.f k l0 t225).bind fun t226 => (some (t226, t225, 0))) = some (r1, r2, r3) := H
    have A3 := Aside0.mk A30
    clear A30
    replace H := Option.bind_eq_some_iff.mp H
    obtain ⟨t226, A40, H⟩ := H
    replace H : (some (t226, t225, 0)) = some (r1, r2, r3) := H
    have A4 := Aside0.mk A40
    clear A40
    simp only [Option.some.injEq, Prod.mk.injEq] at H
    obtain ⟨rfl, rfl, rfl⟩ := H
    go_enter Try.func18, Try.ntmps18
    go_wp2_with (first | ((with_reducible refine gate_callee (f := 31) rfl ?_); refine goesL_ (some 9) rfl rfl Try.func31 (by kernel_rfl) rfl #[.slice A0 l0.length c0] rfl (by (try simp only [List.map_toArray, List.map_cons, List.map_nil]); first | done | rfl | (simp only [List.length_drop, List.length_take]; rfl)) ?_; (with_reducible refine (slices_Max_int32_int32.calls k _ _ l0 t225 _ ?side1 ?side2 A3.out).mono ?_); (case side1 => repeat (first | exact HR0.out | (with_reducible refine Kd.C_alloc ?_ _) | (with_reducible refine Kd.C_drewN ?_ _) | (with_reducible refine Kd.C_drew ?_))); (case side2 => exact HC0.out); rintro e w5 ⟨rfl, hb⟩; refine ⟨_, rfl, ?_⟩; have n0_ := Aside0.mk (below_step (by repeat (first | (with_reducible first | exact HB.out | apply below_alloc | apply pw_below_drewN | apply below_drew1) | exact HB.out)) hb); clear HB; have HB := n0_; clear n0_; (try clear hb); (try clear hb2); (try clear hk); (try clear hi)) | ((with_reducible refine gate_callee (f := 32) rfl ?_); refine goesL_ (some 12) rfl rfl Try.func32 (by kernel_rfl) rfl #[.slice A0 l0.length c0, .int .i32 t225] rfl (by (try simp only [List.map_toArray, List.map_cons, List.map_nil]); first | done | rfl | (simp only [List.length_drop, List.length_take]; rfl)) ?_; (with_reducible refine (slices_Index_int32_int32.calls k _ _ l0 t225 t226 _ ?side1 ?side2 A4.out).mono ?_); (case side1 => repeat (first | exact (Kd.C_below HR0.out HB.out) | (with_reducible refine Kd.C_alloc ?_ _) | (with_reducible refine Kd.C_drewN ?_ _) | (with_reducible refine Kd.C_drew ?_))); (case side2 => exact HC0.out); rintro e w' ⟨rfl, ⟨nd, rfl⟩⟩; refine ⟨_, rfl, ?_⟩))
    go_ret3
    exact ⟨by first | rfl | (simp [errW_none, errW_some] <;> rfl) | (simp [*, errW_none, errW_some] <;> rfl), by repeat (first | (with_reducible first | exact HB.out | apply below_alloc | apply pw_below_drewN | apply below_drew1) | exact HB.out)⟩

end Go.Proofs.Ytmldhpnkkkmloaa.Q

namespace Go.Proofs.Ytmldhpnkkkmloaa.Q
open Go.RowKit Go.Proofs.YtmldhpnkkkmloaaW.PrintWords Go.Proofs.YtmldhpnkkkmloaaW.PrintLast Go.Proofs.YtmldhpnkkkmloaaW.PrintMore
attribute [local go_sem] max2_int min2_int max_two min_two max_three min_three max_four min_four   -- for this text's walks alone
set_option linter.unusedVariables false
set_option linter.unusedSimpArgs false

/-! ### expo_of2: function 46 -/
def expo_of2.f (a0 : Int) : Option (Int) := some (wrap64 (65536 + ((wrap64 (a0 * (wrap64 (45613 + ((wrap64 (a0 * (wrap64 (14743 + ((wrap64 (a0 * 5180)) / 65536))))) / 65536))))) / 65536)))
set_option maxHeartbeats 8000000 in
set_option maxRecDepth 100000 in
theorem expo_of2.calls (a0 : Int) (r : Int) (w : World) (h : expo_of2.f a0 = some r) :
    Calls Try.prog 46 #[.int .i64 a0] w fun e w' => e = .returned (.int .i64 r) ∧ Drawn0 w w' := by
  have H : (some (wrap64 (65536 + ((wrap64 (a0 * (wrap64 (45613 + ((wrap64 (a0 * (wrap64 (14743 + ((wrap64 (a0 * 5180)) / 65536))))) / 65536))))) / 65536)))) = some r := h
  clear h
  obtain rfl := Option.some.inj H
  go_enter Try.func46, Try.ntmps46
  go_wp2
  go_ret
  exact ⟨by first | rfl | (simp; done) | (simp [*]; done), by repeat (first | exact Drawn0.refl _ | apply Drawn0.step)⟩

end Go.Proofs.Ytmldhpnkkkmloaa.Q

namespace Go.Proofs.Ytmldhpnkkkmloaa.Q
open Go.RowKit Go.Proofs.YtmldhpnkkkmloaaW.PrintWords Go.Proofs.YtmldhpnkkkmloaaW.PrintLast Go.Proofs.YtmldhpnkkkmloaaW.PrintMore
attribute [local go_sem] max2_int min2_int max_two min_two max_three min_three max_four min_four   -- for this text's walks alone
set_option linter.unusedVariables false
set_option linter.unusedSimpArgs false

/-! ### expo_Exp: function 35 -/
def expo_Exp.f (a0 : Int) : Option (Int) := (fix_Half.f (wrap64 ((wrap64 (mn a0 0)) * 94548)) 16).bind fun t232 => (if (wrap64 (-(t232 / 65536))) > 62 then (some 0) else ((expo_of2.f (wrap64 (t232 - (wrap64 ((t232 / 65536) * 65536))))).bind fun t233 => ((fix_Half.f t233 (wrap64 (-(t232 / 65536)))).bind fun t234 => (some t234))))
set_option maxHeartbeats 8000000 in
set_option maxRecDepth 100000 in
theorem expo_Exp.calls (a0 : Int) (r : Int) (w : World) (h : expo_Exp.f a0 = some r) :
    Calls Try.prog 35 #[.int .i32 a0] w fun e w' => e = .returned (.int .i64 r) ∧ Below w.heap.size w w' := by
  have HB := Aside0.mk (Below.refl w.heap.size w)
  have H : ((fix_Half.f (wrap64 ((wrap64 (mn a0 0)) * 94548)) 16).bind fun t232 => (if (wrap64 (-(t232 / 65536))) > 62 then (some 0) else ((expo_of2.f (wrap64 (t232 - (wrap64 ((t232 / 65536) * 65536))))).bind fun t233 => ((fix_Half.f t233 (wrap64 (-(t232 / 65536)))).bind fun t234 => (some t234))))) = some r := h
  clear h
  obtain ⟨ji2, hji2⟩ : ∃ j_ : Int, (mn a0 0) = j_ := ⟨_, rfl⟩
  replace H : ((fix_Half.f (wrap64 ((wrap64 (ji2)) * 94548)) 16).bind fun t232 => (if (wrap64 (-(t232 / 65536))) > 62 then (some 0) else ((expo_of2.f (wrap64 (t232 - (wrap64 ((t232 / 65536) * 65536))))).bind fun t233 => ((fix_Half.f t233 (wrap64 (-(t232 / 65536)))).bind fun t234 => (some t234))))) = some r := by first | (rw [hji2] at H; exact H) | (simp only [hji2] at H ⊢; exact H)
  (try (have hji2h : ji2 ≤ 0 := by (rw [← hji2]; unfold mn; (repeat' split) <;> omega)))
  (try (have hji2g : ji2 ≤ 64 := by omega))
  have hji2_ : (if 0 < a0 then 0 else a0) = ji2 := hji2
  replace H := Option.bind_eq_some_iff.mp H
  obtain ⟨t232, A30, H⟩ := H
  replace H : (if (wrap64 (-(t232 / 65536))) > 62 then (some 0) else ((expo_of2.f (wrap64 (t232 - (wrap64 ((t232 / 65536) * 65536))))).bind fun t233 => ((fix_Half.f t233 (wrap64 (-(t232 / 65536)))).bind fun t234 => (some t234)))) = some r := H
  have A3 := Aside0.mk A30
  clear A30
  by_cases c4 : (wrap64 (-(t232 / 65536))) > 62
  · rw [if_pos c4] at H
    have c4b0 : decide (62 < (wrap64 (-(t232 / 65536)))) = true := decide_eq_true c4
    clear c4
    obtain rfl := Option.some.inj H
    go_enter Try.func35, Try.ntmps35
    go_wp2_with (first | ((with_reducible refine gate_callee (f := 45) rfl ?_); refine goesL_ (some 9) rfl rfl Try.func45 (by kernel_rfl) rfl #[.int .i64 (wrap64 ((wrap64 (ji2)) * 94548)), .int .i64 16] rfl (by (try simp only [List.map_toArray, List.map_cons, List.map_nil]); first | done | (simp only [hji2]; rfl) | rfl | (simp only [List.length_drop, List.length_take]; rfl)) ?_; (with_reducible refine (fix_Half.calls (wrap64 ((wrap64 (ji2)) * 94548)) 16 t232 _ A3.out).mono ?_); rintro e w5 ⟨rfl, hb⟩; refine ⟨_, rfl, ?_⟩; have n0_ := Aside0.mk (below_step (by repeat (first | (with_reducible first | exact HB.out | apply below_alloc | apply pw_below_drewN | apply below_drew1) | exact HB.out)) hb); clear HB; have HB := n0_; clear n0_; (try clear hb); (try clear hb2); (try clear hk); (try clear hi)))
    go_ret
    exact ⟨by first | rfl | (simp [errW_none, errW_some] <;> rfl) | (simp only [← hji2]; first | rfl | (simp [errW_none, errW_some] <;> rfl)) | (simp [*, errW_none, errW_some] <;> rfl), by repeat (first | (with_reducible first | exact HB.out | apply below_alloc | apply pw_below_drewN | apply below_drew1) | exact HB.out)⟩
  · rw [if_neg c4] at H
    have c4b0 : decide (62 < (wrap64 (-(t232 / 65536)))) = false := decide_eq_false c4
    clear c4
    replace H := Option.bind_eq_some_iff.mp H
    obtain ⟨t233, A60, H⟩ := H
    replace H : ((fix_Half.f t233 (wrap64 (-(t232 / 65536)))).bind fun t234 => (some t234)) = some r := H
    have A6 := Aside0.mk A60
    clear A60
    replace H := Option.bind_eq_some_iff.mp H
    obtain ⟨t234, A70, H⟩ := H
    replace H : (some t234) = some r := H
    have A7 := Aside0.mk A70
    clear A70
    obtain rfl := Option.some.inj H
    go_enter Try.func35, Try.ntmps35
    go_wp2_with (first | ((with_reducible refine gate_callee (f := 45) rfl ?_); refine goesL_ (some 9) rfl rfl Try.func45 (by kernel_rfl) rfl #[.int .i64 (wrap64 ((wrap64 (ji2)) * 94548)), .int .i64 16] rfl (by (try simp only [List.map_toArray, List.map_cons, List.map_nil]); first | done | (simp only [hji2]; rfl) | rfl | (simp only [List.length_drop, List.length_take]; rfl)) ?_; (with_reducible refine (fix_Half.calls (wrap64 ((wrap64 (ji2)) * 94548)) 16 t232 _ A3.out).mono ?_); rintro e w8 ⟨rfl, hb⟩; refine ⟨_, rfl, ?_⟩; have n0_ := Aside0.mk (below_step (by repeat (first | (with_reducible first | exact HB.out | apply below_alloc | apply pw_below_drewN | apply below_drew1) | exact HB.out)) hb); clear HB; have HB := n0_; clear n0_; (try clear hb); (try clear hb2); (try clear hk); (try clear hi)) | ((with_reducible refine gate_callee (f := 46) rfl ?_); refine goesL_ (some 19) rfl rfl Try.func46 (by kernel_rfl) rfl #[.int .i64 (wrap64 (t232 - (wrap64 ((t232 / 65536) * 65536))))] rfl (by (try simp only [List.map_toArray, List.map_cons, List.map_nil]); first | done | rfl | (simp only [List.length_drop, List.length_take]; rfl)) ?_; (with_reducible refine (expo_of2.calls (wrap64 (t232 - (wrap64 ((t232 / 65536) * 65536)))) t233 _ A6.out).mono ?_); rintro e w' ⟨rfl, ⟨nd, rfl⟩⟩; refine ⟨_, rfl, ?_⟩) | ((with_reducible refine gate_callee (f := 45) rfl ?_); refine goesL_ (some 22) rfl rfl Try.func45 (by kernel_rfl) rfl #[.int .i64 t233, .int .i64 (wrap64 (-(t232 / 65536)))] rfl (by (try simp only [List.map_toArray, List.map_cons, List.map_nil]); first | done | rfl | (simp only [List.length_drop, List.length_take]; rfl)) ?_; (with_reducible refine (fix_Half.calls t233 (wrap64 (-(t232 / 65536))) t234 _ A7.out).mono ?_); rintro e w9 ⟨rfl, hb⟩; refine ⟨_, rfl, ?_⟩; have n0_ := Aside0.mk (below_step (by repeat (first | (with_reducible first | exact HB.out | apply below_alloc | apply pw_below_drewN | apply below_drew1) | exact HB.out)) hb); clear HB; have HB := n0_; clear n0_; (try clear hb); (try clear hb2); (try clear hk); (try clear hi)))
    go_ret
    exact ⟨by first | rfl | (simp [errW_none, errW_some] <;> rfl) | (simp only [← hji2]; first | rfl | (simp [errW_none, errW_some] <;> rfl)) | (simp [*, errW_none, errW_some] <;> rfl), by repeat (first | (with_reducible first | exact HB.out | apply below_alloc | apply pw_below_drewN | apply below_drew1) | exact HB.out)⟩

end Go.Proofs.Ytmldhpnkkkmloaa.Q

namespace Go.Proofs.Ytmldhpnkkkmloaa.Q
open Go.RowKit Go.Proofs.YtmldhpnkkkmloaaW.PrintWords Go.Proofs.YtmldhpnkkkmloaaW.PrintLast Go.Proofs.YtmldhpnkkkmloaaW.PrintMore
attribute [local go_sem] max2_int min2_int max_two min_two max_three min_three max_four min_four   -- for this text's walks alone
set_option linter.unusedVariables false
set_option linter.unusedSimpArgs false

/-! ### fix_Sub: function 36 -/
def fix_Sub.f (a0 : Int) (a1 : Int) : Option (Int) := (fix_Wide.f (wrap64 ((wrap64 (a0)) - (wrap64 (a1))))).bind fun t235 => (some t235)
set_option maxHeartbeats 8000000 in
set_option maxRecDepth 100000 in
theorem fix_Sub.calls (a0 : Int) (a1 : Int) (r : Int) (w : World) (h : fix_Sub.f a0 a1 = some r) :
    Calls Try.prog 36 #[.int .i32 a0, .int .i32 a1] w fun e w' => e = .returned (.int .i32 r) ∧ Below w.heap.size w w' := by
  have HB := Aside0.mk (Below.refl w.heap.size w)
  have H : ((fix_Wide.f (wrap64 ((wrap64 (a0)) - (wrap64 (a1))))).bind fun t235 => (some t235)) = some r := h
  clear h
  replace H := Option.bind_eq_some_iff.mp H
  obtain ⟨t235, A30, H⟩ := H
  replace H : (some t235) = some r := H
  have A3 := Aside0.mk A30
  clear A30
  obtain rfl := Option.some.inj H
  go_enter Try.func36, Try.ntmps36
  go_wp2_with (first | ((with_reducible refine gate_callee (f := 33) rfl ?_); refine goesL_ (some 10) rfl rfl Try.func33 (by kernel_rfl) rfl #[.int .i64 (wrap64 ((wrap64 (a0)) - (wrap64 (a1))))] rfl (by (try simp only [List.map_toArray, List.map_cons, List.map_nil]); first | done | rfl | (simp only [List.length_drop, List.length_take]; rfl)) ?_; (with_reducible refine (fix_Wide.calls (wrap64 ((wrap64 (a0)) - (wrap64 (a1)))) t235 _ A3.out).mono ?_); rintro e w4 ⟨rfl, hb⟩; refine ⟨_, rfl, ?_⟩; have n0_ := Aside0.mk (below_step (by repeat (first | (with_reducible first | exact HB.out | apply below_alloc | apply pw_below_drewN | apply below_drew1) | exact HB.out)) hb); clear HB; have HB := n0_; clear n0_; (try clear hb); (try clear hb2); (try clear hk); (try clear hi)))
  go_ret
  exact ⟨by first | rfl | (simp [errW_none, errW_some] <;> rfl) | (simp [*, errW_none, errW_some] <;> rfl), by repeat (first | (with_reducible first | exact HB.out | apply below_alloc | apply pw_below_drewN | apply below_drew1) | exact HB.out)⟩

end Go.Proofs.Ytmldhpnkkkmloaa.Q

namespace Go.Proofs.Ytmldhpnkkkmloaa.Q
open Go.RowKit Go.Proofs.YtmldhpnkkkmloaaW.PrintWords Go.Proofs.YtmldhpnkkkmloaaW.PrintLast Go.Proofs.YtmldhpnkkkmloaaW.PrintMore
attribute [local go_sem] max2_int min2_int max_two min_two max_three min_three max_four min_four   -- for this text's walks alone
set_option linter.unusedVariables false
set_option linter.unusedSimpArgs false

/-! ### soft_Weights: function 20 -/
def soft_Weights.l0 : Nat → Int → List Int → List Int → Int → Int → Option (List Int × Int)
  | 0, _, _, _, _, _ => none
  | k + 1, x5, x7, x22, x23, x24 => if x24 < x23 then (if 0 ≤ x24 then (if x24 < (x22.length : Int) then ((fix_Sub.f (rd x22 x24) x5).bind fun t240 => ((expo_Exp.f t240).bind fun t241 => (if x7.length < 17592186044416 then (soft_Weights.l0 k x5 (x7 ++ [t241]) x22 x23 (wrap64 (x24 + 1))) else (none)))) else (none)) else (none)) else (some (x7, 0))
def soft_Weights.f (k : Nat) (l0 : List Int) : Option (List Int × Int) := if (l0.length : Int) > 1024 then (some (([] : List Int), 12)) else ((dot_Top.f k l0).bind fun bt236 => (if bt236.2.2 = 0 then (soft_Weights.l0 k bt236.2.1 ([] : List Int) l0 (l0.length : Int) 0) else (some (([] : List Int), bt236.2.2))))
theorem soft_Weights.mono_l : ∀ k, (∀ y0 y1 y2 y3 y4, LeO (soft_Weights.l0 k y0 y1 y2 y3 y4) (soft_Weights.l0 (k + 1) y0 y1 y2 y3 y4))
  | 0 => fun _ _ _ _ _ r h => by simp [soft_Weights.l0] at h
  | k + 1 => by
    have ih0 := soft_Weights.mono_l k
    · intro y0 y1 y2 y3 y4
      unfold soft_Weights.l0
      repeat' first
      | (with_reducible exact ih0 _ _ _ _ _)
      | (with_reducible exact dot_Top.mono _ _)
      | (with_reducible exact LeO.refl _)
      | (with_reducible exact LeO.none _)
      | (with_reducible refine LeO.ite ?_ ?_)
      | (with_reducible refine LeO.bind ?_ (fun _ => ?_))
      | exact ih0 _ _ _ _ _
      | exact dot_Top.mono _ _
      | exact LeO.none _
      | refine LeO.ite ?_ ?_
      | refine LeO.bind ?_ (fun _ => ?_)
theorem soft_Weights.mono : ∀ a0 k, LeO (soft_Weights.f k a0) (soft_Weights.f (k + 1) a0) := by
  intro a0 k
  have ih0 := soft_Weights.mono_l k
  unfold soft_Weights.f
  repeat' first
      | (with_reducible exact ih0 _ _ _ _ _)
      | (with_reducible exact dot_Top.mono _ _)
      | (with_reducible exact LeO.refl _)
      | (with_reducible exact LeO.none _)
      | (with_reducible refine LeO.ite ?_ ?_)
      | (with_reducible refine LeO.bind ?_ (fun _ => ?_))
      | exact ih0 _ _ _ _ _
      | exact dot_Top.mono _ _
      | exact LeO.none _
      | refine LeO.ite ?_ ?_
      | refine LeO.bind ?_ (fun _ => ?_)
set_option maxHeartbeats 8000000 in
set_option maxRecDepth 100000 in
theorem soft_Weights.calls (k : Nat) (A0 : Option Addr) (c0 : Nat) (l0 : List Int) (r1 : List Int) (r2 : Int) (w : World) (hr0 : Kd.C (Kd.int .i32) w A0 l0.length l0) (hc0 : l0.length ≤ c0) (h : soft_Weights.f k l0 = some (r1, r2)) :
    Calls Try.prog 20 #[.slice A0 l0.length c0] w fun e w' => ∃ v0_ : Value, e = .returned (.tuple #[v0_, .int .i64 r2]) ∧ Kd.R (Kd.int .i64) 3 w' w.heap.size (fun _ => True) v0_ r1 ∧ Below w.heap.size w w' := by
  have HR0 := Aside0.mk hr0
  have HC0 := Aside0.mk hc0
  clear hr0 hc0
  have HB := Aside0.mk (Below.refl w.heap.size w)
  have H : (if (l0.length : Int) > 1024 then (some (([] : List Int), 12)) else ((dot_Top.f k l0).bind fun bt236 => (if bt236.2.2 = 0 then (soft_Weights.l0 k bt236.2.1 ([] : List Int) l0 (l0.length : Int) 0) else (some (([] : List Int), bt236.2.2))))) = some (r1, r2) := h
  clear h
  by_cases c2 : (l0.length : Int) > 1024
  · rw [if_pos c2] at H
    have c2b0 : decide (1024 < (l0.length : Int)) = true := decide_eq_true c2
    have c2b1 : decide (1024 < l0.length) = true := decide_eq_true (by omega)
    clear c2
    simp only [Option.some.injEq, Prod.mk.injEq] at H
    obtain ⟨rfl, rfl⟩ := H
    go_enter Try.func20, Try.ntmps20
    go_wp2
    go_ret2
    exact ⟨_, by first | rfl | (simp [errW_none, errW_some] <;> rfl) | (simp [*, errW_none, errW_some] <;> rfl), by first | exact Kd.R_nil _ _ _ _ _ | exact Kd.N_nil _ _ _ _ _ | exact Kd.V_nil _ _ _ _ _ | exact Kd.Q_nil _ _ _ _ _ | exact Kd.S_nil _ _ _ _ _, by repeat (first | (with_reducible first | exact HB.out | apply below_alloc | apply pw_below_drewN | apply below_drew1) | exact HB.out)⟩
  · rw [if_neg c2] at H
    have c2b0 : decide (1024 < (l0.length : Int)) = false := decide_eq_false c2
    have c2b1 : decide (1024 < l0.length) = false := decide_eq_false (by omega)
    clear c2
    replace H := Option.bind_eq_some_iff.mp H
    obtain ⟨⟨t236, t237, t238⟩, A30, H⟩ := H
    replace H : (if t238 = 0 then (soft_Weights.l0 k t237 ([] : List Int) l0 (l0.length : Int) 0) else (some (([] : List Int), t238))) = some (r1, r2) := H
    have A3 := Aside0.mk A30
    clear A30
    by_cases c4 : t238 = 0
    · rw [if_pos c4] at H
      have c4b0 : (t238 == 0) = true := beq_iff_eq.mpr c4
      have c4b1 : (t238 != 0) = false := bne_eq_false_iff_eq.mpr c4
      clear c4
      have H' := Aside0.mk H
      clear H
      go_enter Try.func20, Try.ntmps20
      go_wp2_with (first | ((with_reducible refine gate_callee (f := 18) rfl ?_); refine goesL_ (some 15) rfl rfl Try.func18 (by kernel_rfl) rfl #[.slice A0 l0.length c0] rfl (by (try simp only [List.map_toArray, List.map_cons, List.map_nil]); first | done | rfl | (simp only [List.length_drop, List.length_take]; rfl)) ?_; (with_reducible refine (dot_Top.calls k _ _ l0 t236 t237 t238 _ ?side1 ?side2 A3.out).mono ?_); (case side1 => repeat (first | exact HR0.out | (with_reducible refine Kd.C_alloc ?_ _) | (with_reducible refine Kd.C_drewN ?_ _) | (with_reducible refine Kd.C_drew ?_))); (case side2 => exact HC0.out); rintro e w5 ⟨rfl, hb⟩; refine ⟨_, rfl, ?_⟩; have n0_ := Aside0.mk (below_step (by repeat (first | (with_reducible first | exact HB.out | apply below_alloc | apply pw_below_drewN | apply below_drew1) | exact HB.out)) hb); clear HB; have HB := n0_; clear n0_; (try clear hb); (try clear hb2); (try clear hk); (try clear hi)))
      go_loopg [7, 24] k (fun kq v7 v24 w' => ∃ (x7_1 : List Int) (x24_1 : Int), v24 = .int .i64 x24_1 ∧ Aside0 (soft_Weights.l0 kq t237 x7_1 l0 (l0.length : Int) x24_1 = some (r1, r2)) ∧ Aside0 (kq ≤ k) ∧ Aside0 (Kd.R (Kd.int .i64) 3 w' w.heap.size (fun _ => True) v7 x7_1) ∧ Aside0 (Below w.heap.size w w'))
      case atStart => exact ⟨(([] : List Int)), (0), (by first | rfl | (simp; done) | (simp [*]; done)), H', ⟨Nat.le_refl _⟩, ⟨by first | exact Kd.R_nil _ _ _ _ _ | exact Kd.N_nil _ _ _ _ _ | exact Kd.V_nil _ _ _ _ _ | exact Kd.Q_nil _ _ _ _ _ | exact Kd.S_nil _ _ _ _ _⟩, ⟨by repeat (first | (with_reducible first | exact HB.out | apply below_alloc | apply pw_below_drewN | apply below_drew1) | exact HB.out)⟩⟩
      case round =>
        clear H'
        try clear c1
        try clear c2
        try clear c2b0
        try clear c2b1
        try clear p2
        try clear c4
        try clear c4b0
        try clear c4b1
        obtain ⟨x7_1, x24_1, rfl, HA, HK1, HO_7, HB⟩ := hrel
        cases gk with
        | zero => exact absurd HA.out (by simp [soft_Weights.l0])
        | succ k1 =>
          have H := HA.out
          clear HA
          simp only [soft_Weights.l0] at H
          by_cases c6 : x24_1 < (l0.length : Int)
          · rw [if_pos c6] at H
            have c6b0 : decide (x24_1 < (l0.length : Int)) = true := decide_eq_true c6
            clear c6
            by_cases c7 : 0 ≤ x24_1
            · rw [if_pos c7] at H
              have c7b0 : decide (0 ≤ x24_1) = true := decide_eq_true c7
              clear c7
              by_cases c8 : x24_1 < (l0.length : Int)
              · rw [if_pos c8] at H
                have c8b0 : decide (x24_1 < (l0.length : Int)) = true := decide_eq_true c8
                clear c8
                replace H := Option.bind_eq_some_iff.mp H
                obtain ⟨t240, A90, H⟩ := H
                replace H : ((expo_Exp.f t240).bind fun t241 => (if x7_1.length < 17592186044416 then (soft_Weights.l0 k1 t237 (x7_1 ++ [t241]) l0 (l0.length : Int) (wrap64 (x24_1 + 1))) else (none))) = some (r1, r2) := H
                have A9 := Aside0.mk A90
                clear A90
                replace H := Option.bind_eq_some_iff.mp H
                obtain ⟨t241, A100, H⟩ := H
                replace H : (if x7_1.length < 17592186044416 then (soft_Weights.l0 k1 t237 (x7_1 ++ [t241]) l0 (l0.length : Int) (wrap64 (x24_1 + 1))) else (none)) = some (r1, r2) := H
                have A10 := Aside0.mk A100
                clear A100
                by_cases c11 : x7_1.length < 17592186044416
                · rw [if_pos c11] at H
                  have LMc11 := Aside0.mk c11
                  clear c11
                  obtain ⟨y242, hy242⟩ : ∃ y_ : List Int, y_ = (x7_1 ++ [t241]) := ⟨_, rfl⟩
                  replace H : (soft_Weights.l0 k1 t237 y242 l0 (l0.length : Int) (wrap64 (x24_1 + 1))) = some (r1, r2) := by first | (rw [hy242]; with_reducible exact H) | (have H2_ := (Option.bind_some _ _).symm.trans H; rw [hy242]; with_reducible exact H2_) | (have H2_ := (Option.bind_some _ _).symm.trans H; with_reducible exact H2_) | with_reducible exact H | (rw [hy242]; exact H) | exact H
                  have Ny242 := Aside0.mk hy242
                  clear hy242
                  have H' := Aside0.mk H
                  clear H
                  have p239 : 0 ≤ (x24_1 : Int) := of_decide_eq_true (by first | (with_reducible assumption) | assumption)
                  have q239 : x24_1 < (l0.length : Int) := of_decide_eq_true (by first | (with_reducible assumption) | assumption)
                  obtain ⟨ad239, e239, hx239_0⟩ := Kd.at_int HR0.out x24_1 p239 q239
                  cases e239
                  replace hx239_0 := (HB.out.cell (World.block_lt_of_cell? w _ hx239_0)).trans hx239_0
                  replace p239 := eq_true p239
                  replace q239 := eq_true q239
                  go_wp2_with (first | ((with_reducible refine gate_callee (f := 36) rfl ?_); refine goesL_ (some 31) rfl rfl Try.func36 (by kernel_rfl) rfl #[.int .i32 (rd l0 x24_1), .int .i32 t237] rfl (by (try simp only [List.map_toArray, List.map_cons, List.map_nil]); first | done | rfl | (simp only [List.length_drop, List.length_take]; rfl)) ?_; (with_reducible refine (fix_Sub.calls (rd l0 x24_1) t237 t240 _ A9.out).mono ?_); rintro e w12 ⟨rfl, hb⟩; refine ⟨_, rfl, ?_⟩; have n0_ := Aside0.mk (Kd.R_below (by (with_reducible repeat (first | apply Kd.R_alloc | apply Kd.R_drewN | apply Kd.R_drew)); exact HO_7.out) hb); have n1_ := Aside0.mk (below_step (by repeat (first | (with_reducible first | exact HB.out | apply below_alloc | apply pw_below_drewN | apply below_drew1) | exact HB.out)) hb); clear HO_7; clear HB; have HO_7 := n0_; have HB := n1_; clear n0_ n1_; (try clear hb); (try clear hb2); (try clear hk); (try clear hi)) | ((with_reducible refine gate_callee (f := 35) rfl ?_); refine goesL_ (some 32) rfl rfl Try.func35 (by kernel_rfl) rfl #[.int .i32 t240] rfl (by (try simp only [List.map_toArray, List.map_cons, List.map_nil]); first | done | rfl | (simp only [List.length_drop, List.length_take]; rfl)) ?_; (with_reducible refine (expo_Exp.calls t240 t241 _ A10.out).mono ?_); rintro e w13 ⟨rfl, hb⟩; refine ⟨_, rfl, ?_⟩; have n0_ := Aside0.mk (Kd.R_below (by (with_reducible repeat (first | apply Kd.R_alloc | apply Kd.R_drewN | apply Kd.R_drew)); exact HO_7.out) hb); have n1_ := Aside0.mk (below_step (by repeat (first | (with_reducible first | exact HB.out | apply below_alloc | apply pw_below_drewN | apply below_drew1) | exact HB.out)) hb); clear HO_7; clear HB; have HO_7 := n0_; have HB := n1_; clear n0_ n1_; (try clear hb); (try clear hb2); (try clear hk); (try clear hi)) | ((with_reducible refine gate_builtin (b := .append) (xs := #[.tmp 28, .tmp 33]) rfl ?_); at_builtin; refine Kd.R_append (Kd.int .i64) (w0 := w) w.heap.size rfl (.tmp 28) (.tmp 33) 34 3 (.int .i64 0) 8 rfl Try.underlying34 info3 rfl (by decide) (by omega) u7 x7_1 t241 [.int .i64 t241] (fun _ => True) (fun _ => False) rfl rfl ?aP (fun _ hk => hk.elim) ?aF ?aO ?aB ?aS ?aL ?_; (case aP => exact rfl); (case aB => exact (by repeat (first | (with_reducible first | exact HB.out | apply below_alloc | apply pw_below_drewN | apply below_drew1) | exact HB.out))); (case aF => exact (fun _ _ => trivial)); (case aO => exact (by (with_reducible repeat (first | apply Kd.R_alloc | apply Kd.R_drewN | apply Kd.R_drew)); exact HO_7.out)); (case aS => exact (below_size (by repeat (first | (with_reducible first | exact HB.out | apply below_alloc | apply pw_below_drewN | apply below_drew1) | exact HB.out)))); (case aL => have := LMc11.out; omega); intro v243 w14 ho hb hg hat; rw [← Ny242.out] at ho; have n0_ := Aside0.mk (hb); have n1_ := Aside0.mk (ho); clear HB; clear HO_7; have HB := n0_; have HO244 := n1_; clear n0_ n1_; clear ho hb hg hat))
                  go_roundg k1
                  case measure => have := HK1.out; omega
                  case rel => exact ⟨(y242), (wrap64 (x24_1 + 1)), (by first | rfl | (simp; done) | (simp [*]; done)), H', ⟨by have := HK1.out; omega⟩, ⟨by (with_reducible repeat (first | apply Kd.R_alloc | apply Kd.R_drewN | apply Kd.R_drew)); exact HO244.out⟩, ⟨by repeat (first | (with_reducible first | exact HB.out | apply below_alloc | apply pw_below_drewN | apply below_drew1) | exact HB.out)⟩⟩
                · rw [if_neg c11] at H
                  exact absurd H (by simp)
              · rw [if_neg c8] at H
                exact absurd H (by simp)
            · rw [if_neg c7] at H
              exact absurd H (by simp)
          · rw [if_neg c6] at H
            have c6b0 : decide (x24_1 < (l0.length : Int)) = false := decide_eq_false c6
            clear c6
            simp only [Option.some.injEq, Prod.mk.injEq] at H
            obtain ⟨rfl, rfl⟩ := H
            go_wp2
            go_ret2
            exact ⟨_, by first | rfl | (simp [errW_none, errW_some] <;> rfl) | (simp [*, errW_none, errW_some] <;> rfl), by (with_reducible repeat (first | apply Kd.R_alloc | apply Kd.R_drewN | apply Kd.R_drew)); exact HO_7.out, by repeat (first | (with_reducible first | exact HB.out | apply below_alloc | apply pw_below_drewN | apply below_drew1) | exact HB.out)⟩
    · rw [if_neg c4] at H
      have c4b0 : (t238 == 0) = false := beq_eq_false_iff_ne.mpr c4
      have c4b1 : (t238 != 0) = true := bne_iff_ne.mpr c4
      simp only [Option.some.injEq, Prod.mk.injEq] at H
      obtain ⟨rfl, rfl⟩ := H
      go_enter Try.func20, Try.ntmps20
      go_wp2_with (first | ((with_reducible refine gate_callee (f := 18) rfl ?_); refine goesL_ (some 15) rfl rfl Try.func18 (by kernel_rfl) rfl #[.slice A0 l0.length c0] rfl (by (try simp only [List.map_toArray, List.map_cons, List.map_nil]); first | done | rfl | (simp only [List.length_drop, List.length_take]; rfl)) ?_; (with_reducible refine (dot_Top.calls k _ _ l0 t236 t237 t238 _ ?side1 ?side2 A3.out).mono ?_); (case side1 => repeat (first | exact HR0.out | (with_reducible refine Kd.C_alloc ?_ _) | (with_reducible refine Kd.C_drewN ?_ _) | (with_reducible refine Kd.C_drew ?_))); (case side2 => exact HC0.out); rintro e w15 ⟨rfl, hb⟩; refine ⟨_, rfl, ?_⟩; have n0_ := Aside0.mk (below_step (by repeat (first | (with_reducible first | exact HB.out | apply below_alloc | apply pw_below_drewN | apply below_drew1) | exact HB.out)) hb); clear HB; have HB := n0_; clear n0_; (try clear hb); (try clear hb2); (try clear hk); (try clear hi)))
      go_ret2
      exact ⟨_, by first | rfl | (simp [errW_none, errW_some] <;> rfl) | (simp [*, errW_none, errW_some] <;> rfl), by first | exact Kd.R_nil _ _ _ _ _ | exact Kd.N_nil _ _ _ _ _ | exact Kd.V_nil _ _ _ _ _ | exact Kd.Q_nil _ _ _ _ _ | exact Kd.S_nil _ _ _ _ _, by repeat (first | (with_reducible first | exact HB.out | apply below_alloc | apply pw_below_drewN | apply below_drew1) | exact HB.out)⟩

end Go.Proofs.Ytmldhpnkkkmloaa.Q

namespace Go.Proofs.Ytmldhpnkkkmloaa.Q
open Go.RowKit Go.Proofs.YtmldhpnkkkmloaaW.PrintWords Go.Proofs.YtmldhpnkkkmloaaW.PrintLast Go.Proofs.YtmldhpnkkkmloaaW.PrintMore
attribute [local go_sem] max2_int min2_int max_two min_two max_three min_three max_four min_four   -- for this text's walks alone
set_option linter.unusedVariables false
set_option linter.unusedSimpArgs false

/-! ### credenzaref03_Top: function 17 -/
def credenzaref03_Top.l0 : Nat → List Int → Int → Int → Option (Int)
  | 0, _, _, _ => none
  | k + 1, x0, x3, x4 => if x4 < (x0.length : Int) then (if 0 ≤ x4 then (if 0 ≤ x3 then (if x3 < (x0.length : Int) then (if (rd x0 x4) > (rd x0 x3) then (credenzaref03_Top.l0 k x0 x4 (wrap64 (x4 + 1))) else (credenzaref03_Top.l0 k x0 x3 (wrap64 (x4 + 1)))) else (none)) else (none)) else (none)) else (some x3)
def credenzaref03_Top.f (k : Nat) (l0 : List Int) : Option (Int) := credenzaref03_Top.l0 k l0 0 0
theorem credenzaref03_Top.mono_l : ∀ k, (∀ y0 y1 y2, LeO (credenzaref03_Top.l0 k y0 y1 y2) (credenzaref03_Top.l0 (k + 1) y0 y1 y2))
  | 0 => fun _ _ _ r h => by simp [credenzaref03_Top.l0] at h
  | k + 1 => by
    have ih0 := credenzaref03_Top.mono_l k
    · intro y0 y1 y2
      unfold credenzaref03_Top.l0
      repeat' first
      | (with_reducible exact ih0 _ _ _)
      | (with_reducible exact LeO.refl _)
      | (with_reducible exact LeO.none _)
      | (with_reducible refine LeO.ite ?_ ?_)
      | (with_reducible refine LeO.bind ?_ (fun _ => ?_))
      | exact ih0 _ _ _
      | exact LeO.none _
      | refine LeO.ite ?_ ?_
      | refine LeO.bind ?_ (fun _ => ?_)
theorem credenzaref03_Top.mono : ∀ a0 k, LeO (credenzaref03_Top.f k a0) (credenzaref03_Top.f (k + 1) a0) := by
  intro a0 k
  have ih0 := credenzaref03_Top.mono_l k
  unfold credenzaref03_Top.f
  repeat' first
      | (with_reducible exact ih0 _ _ _)
      | (with_reducible exact LeO.refl _)
      | (with_reducible exact LeO.none _)
      | (with_reducible refine LeO.ite ?_ ?_)
      | (with_reducible refine LeO.bind ?_ (fun _ => ?_))
      | exact ih0 _ _ _
      | exact LeO.none _
      | refine LeO.ite ?_ ?_
      | refine LeO.bind ?_ (fun _ => ?_)
set_option maxHeartbeats 8000000 in
set_option maxRecDepth 100000 in
theorem credenzaref03_Top.calls (k : Nat) (A0 : Option Addr) (c0 : Nat) (l0 : List Int) (r : Int) (w : World) (hr0 : Kd.C (Kd.int .i32) w A0 l0.length l0) (hc0 : l0.length ≤ c0) (h : credenzaref03_Top.f k l0 = some r) :
    Calls Try.prog 17 #[.slice A0 l0.length c0] w fun e w' => e = .returned (.int .i64 r) ∧ Drawn0 w w' := by
  have HR0 := Aside0.mk hr0
  have HC0 := Aside0.mk hc0
  clear hr0 hc0
  have H : (credenzaref03_Top.l0 k l0 0 0) = some r := h
  clear h
  have H' := Aside0.mk H
  clear H
  go_enter Try.func17, Try.ntmps17
  go_wp2
  repeat (go_quiet (fail); try go_wp2)
  go_loopg [3, 4] k (fun kq v3 v4 w' => ∃ (x3_1 : Int) (x4_1 : Int), v3 = .int .i64 x3_1 ∧ v4 = .int .i64 x4_1 ∧ Aside0 (credenzaref03_Top.l0 kq l0 x3_1 x4_1 = some r) ∧ Aside0 (kq ≤ k) ∧ Drawn0 w w')
  case atStart => exact ⟨(0), (0), (by first | rfl | (simp; done) | (simp [*]; done)), (by first | rfl | (simp; done) | (simp [*]; done)), H', ⟨Nat.le_refl _⟩, by repeat (first | exact Drawn0.refl _ | apply Drawn0.step)⟩
  case round =>
    clear H'
    try clear c1
    obtain ⟨x3_1, x4_1, rfl, rfl, HA, HK1, ⟨m1, rfl⟩⟩ := hrel
    cases gk with
    | zero => exact absurd HA.out (by simp [credenzaref03_Top.l0])
    | succ k1 =>
      have H := HA.out
      clear HA
      simp only [credenzaref03_Top.l0] at H
      by_cases c2 : x4_1 < (l0.length : Int)
      · rw [if_pos c2] at H
        have c2b0 : decide (x4_1 < (l0.length : Int)) = true := decide_eq_true c2
        clear c2
        by_cases c3 : 0 ≤ x4_1
        · rw [if_pos c3] at H
          have c3b0 : decide (0 ≤ x4_1) = true := decide_eq_true c3
          clear c3
          by_cases c4 : 0 ≤ x3_1
          · rw [if_pos c4] at H
            have c4b0 : decide (0 ≤ x3_1) = true := decide_eq_true c4
            clear c4
            by_cases c5 : x3_1 < (l0.length : Int)
            · rw [if_pos c5] at H
              have c5b0 : decide (x3_1 < (l0.length : Int)) = true := decide_eq_true c5
              clear c5
              by_cases c6 : (rd l0 x4_1) > (rd l0 x3_1)
              · rw [if_pos c6] at H
                have c6b0 : decide ((rd l0 x3_1) < (rd l0 x4_1)) = true := decide_eq_true c6
                clear c6
                have H' := Aside0.mk H
                clear H
                have p309 : 0 ≤ (x4_1 : Int) := of_decide_eq_true (by first | (with_reducible assumption) | assumption)
                have q309 : x4_1 < (l0.length : Int) := of_decide_eq_true (by first | (with_reducible assumption) | assumption)
                obtain ⟨ad309, e309, hx309_0⟩ := Kd.at_int HR0.out x4_1 p309 q309
                cases e309
                replace p309 := eq_true p309
                replace q309 := eq_true q309
                have p310 : 0 ≤ (x3_1 : Int) := of_decide_eq_true (by first | (with_reducible assumption) | assumption)
                have q310 : x3_1 < (l0.length : Int) := of_decide_eq_true (by first | (with_reducible assumption) | assumption)
                obtain ⟨ad310, e310, hx310_0⟩ := Kd.at_int HR0.out x3_1 p310 q310
                obtain rfl : ad309 = ad310 := (by injection e310)
                replace p310 := eq_true p310
                replace q310 := eq_true q310
                go_wp2
                repeat (go_quiet (fail); try go_wp2)
                go_roundg k1
                case measure => have := HK1.out; omega
                case rel => exact ⟨(x4_1), (wrap64 (x4_1 + 1)), (by first | rfl | (simp; done) | (simp [*]; done)), (by first | rfl | (simp; done) | (simp [*]; done)), H', ⟨by have := HK1.out; omega⟩, by repeat (first | exact Drawn0.refl _ | apply Drawn0.step)⟩
              · rw [if_neg c6] at H
                have c6b0 : decide ((rd l0 x3_1) < (rd l0 x4_1)) = false := decide_eq_false c6
                clear c6
                have H' := Aside0.mk H
                clear H
                have p309 : 0 ≤ (x4_1 : Int) := of_decide_eq_true (by first | (with_reducible assumption) | assumption)
                have q309 : x4_1 < (l0.length : Int) := of_decide_eq_true (by first | (with_reducible assumption) | assumption)
                obtain ⟨ad309, e309, hx309_0⟩ := Kd.at_int HR0.out x4_1 p309 q309
                cases e309
                replace p309 := eq_true p309
                replace q309 := eq_true q309
                have p310 : 0 ≤ (x3_1 : Int) := of_decide_eq_true (by first | (with_reducible assumption) | assumption)
                have q310 : x3_1 < (l0.length : Int) := of_decide_eq_true (by first | (with_reducible assumption) | assumption)
                obtain ⟨ad310, e310, hx310_0⟩ := Kd.at_int HR0.out x3_1 p310 q310
                obtain rfl : ad309 = ad310 := (by injection e310)
                replace p310 := eq_true p310
                replace q310 := eq_true q310
                go_wp2
                repeat (go_quiet (fail); try go_wp2)
                go_roundg k1
                case measure => have := HK1.out; omega
                case rel => exact ⟨(x3_1), (wrap64 (x4_1 + 1)), (by first | rfl | (simp; done) | (simp [*]; done)), (by first | rfl | (simp; done) | (simp [*]; done)), H', ⟨by have := HK1.out; omega⟩, by repeat (first | exact Drawn0.refl _ | apply Drawn0.step)⟩
            · rw [if_neg c5] at H
              exact absurd H (by simp)
          · rw [if_neg c4] at H
            exact absurd H (by simp)
        · rw [if_neg c3] at H
          exact absurd H (by simp)
      · rw [if_neg c2] at H
        have c2b0 : decide (x4_1 < (l0.length : Int)) = false := decide_eq_false c2
        clear c2
        obtain rfl := Option.some.inj H
        go_wp2
        repeat (go_quiet (fail); try go_wp2)
        go_ret
        exact ⟨by first | rfl | (simp; done) | (simp [*]; done), by repeat (first | exact Drawn0.refl _ | apply Drawn0.step)⟩

end Go.Proofs.Ytmldhpnkkkmloaa.Q

namespace Go.Proofs.Ytmldhpnkkkmloaa.Q
open Go.RowKit Go.Proofs.YtmldhpnkkkmloaaW.PrintWords Go.Proofs.YtmldhpnkkkmloaaW.PrintLast Go.Proofs.YtmldhpnkkkmloaaW.PrintMore
attribute [local go_sem] max2_int min2_int max_two min_two max_three min_three max_four min_four   -- for this text's walks alone
set_option linter.unusedVariables false
set_option linter.unusedSimpArgs false

/-! ### credenzaref02_Exp: function 39 -/
def credenzaref02_Exp.j0 : Nat → Int → Option (Int)
  | 0, _ => none
  | k + 1, x0 => (credenzaref01_Ratio.f (wrap64 ((wrap64 (x0)) * 94548)) 65536).bind fun t321 => ((credenzaref01_Floor.f t321 65536).bind fun t322 => (if (wrap64 (-t322)) > 62 then (some 0) else ((credenzaref01_Half.f k (wrap64 (65536 + (wrap64 (Int.tdiv (wrap64 ((wrap64 (t321 - (wrap64 (t322 * 65536)))) * (wrap64 (45613 + (wrap64 (Int.tdiv (wrap64 ((wrap64 (t321 - (wrap64 (t322 * 65536)))) * (wrap64 (14743 + (wrap64 (Int.tdiv (wrap64 ((wrap64 (t321 - (wrap64 (t322 * 65536)))) * 5180)) 65536)))))) 65536)))))) 65536)))) (wrap64 (-t322))).bind fun t323 => (some t323))))
def credenzaref02_Exp.f (k : Nat) (a0 : Int) : Option (Int) := if a0 > 0 then (credenzaref02_Exp.j0 k 0) else (credenzaref02_Exp.j0 k a0)
theorem credenzaref02_Exp.mono_l : ∀ k, (∀ y0, LeO (credenzaref02_Exp.j0 k y0) (credenzaref02_Exp.j0 (k + 1) y0))
  | 0 => fun _ r h => by simp [credenzaref02_Exp.j0] at h
  | k + 1 => by
    have ih0 := credenzaref02_Exp.mono_l k
    · intro y0
      unfold credenzaref02_Exp.j0
      repeat' first
      | (with_reducible exact ih0 _)
      | (with_reducible exact credenzaref01_Half.mono _ _ _)
      | (with_reducible exact LeO.refl _)
      | (with_reducible exact LeO.none _)
      | (with_reducible refine LeO.ite ?_ ?_)
      | (with_reducible refine LeO.bind ?_ (fun _ => ?_))
      | exact ih0 _
      | exact credenzaref01_Half.mono _ _ _
      | exact LeO.none _
      | refine LeO.ite ?_ ?_
      | refine LeO.bind ?_ (fun _ => ?_)
theorem credenzaref02_Exp.mono : ∀ a0 k, LeO (credenzaref02_Exp.f k a0) (credenzaref02_Exp.f (k + 1) a0) := by
  intro a0 k
  have ih0 := credenzaref02_Exp.mono_l k
  unfold credenzaref02_Exp.f
  repeat' first
      | (with_reducible exact ih0 _)
      | (with_reducible exact credenzaref01_Half.mono _ _ _)
      | (with_reducible exact LeO.refl _)
      | (with_reducible exact LeO.none _)
      | (with_reducible refine LeO.ite ?_ ?_)
      | (with_reducible refine LeO.bind ?_ (fun _ => ?_))
      | exact ih0 _
      | exact credenzaref01_Half.mono _ _ _
      | exact LeO.none _
      | refine LeO.ite ?_ ?_
      | refine LeO.bind ?_ (fun _ => ?_)
set_option maxHeartbeats 8000000 in
set_option maxRecDepth 100000 in
theorem credenzaref02_Exp.calls (k : Nat) (a0 : Int) (r : Int) (w : World) (h : credenzaref02_Exp.f k a0 = some r) :
    Calls Try.prog 39 #[.int .i32 a0] w fun e w' => e = .returned (.int .i64 r) ∧ Drawn0 w w' := by
  have H : (if a0 > 0 then (credenzaref02_Exp.j0 k 0) else (credenzaref02_Exp.j0 k a0)) = some r := h
  clear h
  have HC2 := Aside0.mk H
  clear H
  go_enter Try.func39, Try.ntmps39
  go_upto_if 8 with (fail)
  go_cut [0] (fun v0 wc => ∃ (kq : Nat) (x0_1 : Int), v0 = .int .i32 x0_1 ∧ Aside0 (credenzaref02_Exp.j0 kq x0_1 = some r) ∧ Aside0 (kq ≤ k) ∧ Drawn0 w wc)
  case first =>
    have H := HC2.out
    clear HC2
    by_cases c3 : a0 > 0
    · rw [if_pos c3] at H
      have c3b0 : decide (0 < a0) = true := decide_eq_true c3
      clear c3
      (first | rw [c3b0] | (simp only [i64_w, i32_w]; rw [c3b0]) | skip)
      have H' := Aside0.mk H
      clear H
      go_wp2
      go_meet
      case rel => exact ⟨_, (0), (by first | rfl | (simp; done) | (simp [*]; done)), H', ⟨by first | omega | exact Nat.le_refl _⟩, by repeat (first | exact Drawn0.refl _ | apply Drawn0.step)⟩
    · rw [if_neg c3] at H
      have c3b0 : decide (0 < a0) = false := decide_eq_false c3
      clear c3
      (first | rw [c3b0] | (simp only [i64_w, i32_w]; rw [c3b0]) | skip)
      have H' := Aside0.mk H
      clear H
      go_wp2
      go_meet
      case rel => exact ⟨_, (a0), (by first | rfl | (simp; done) | (simp [*]; done)), H', ⟨by first | omega | exact Nat.le_refl _⟩, by repeat (first | exact Drawn0.refl _ | apply Drawn0.step)⟩
  case rest =>
    clear HC2
    try clear p2
    try clear c3
    try clear c3b0
    obtain ⟨kq, x0_1, rfl, HA, HJ1, ⟨mc1, rfl⟩⟩ := hcut
    cases kq with
    | zero => exact absurd HA.out (by simp [credenzaref02_Exp.j0])
    | succ kj1 =>
      have H := HA.out
      clear HA
      simp only [credenzaref02_Exp.j0] at H
      replace H := Option.bind_eq_some_iff.mp H
      obtain ⟨t321, A40, H⟩ := H
      replace H : ((credenzaref01_Floor.f t321 65536).bind fun t322 => (if (wrap64 (-t322)) > 62 then (some 0) else ((credenzaref01_Half.f kj1 (wrap64 (65536 + (wrap64 (Int.tdiv (wrap64 ((wrap64 (t321 - (wrap64 (t322 * 65536)))) * (wrap64 (45613 + (wrap64 (Int.tdiv (wrap64 ((wrap64 (t321 - (wrap64 (t322 * 65536)))) * (wrap64 (14743 + (wrap64 (Int.tdiv (wrap64 ((wrap64 (t321 - (wrap64 (t322 * 65536)))) * 5180)) 65536)))))) 65536)))))) 65536)))) (wrap64 (-t322))).bind fun t323 => (some t323)))) = some r := H
      have A4 := Aside0.mk A40
      clear A40
      replace H := Option.bind_eq_some_iff.mp H
      obtain ⟨t322, A50, H⟩ := H
      replace H : (if (wrap64 (-t322)) > 62 then (some 0) else ((credenzaref01_Half.f kj1 (wrap64 (65536 + (wrap64 (Int.tdiv (wrap64 ((wrap64 (t321 - (wrap64 (t322 * 65536)))) * (wrap64 (45613 + (wrap64 (Int.tdiv (wrap64 ((wrap64 (t321 - (wrap64 (t322 * 65536)))) * (wrap64 (14743 + (wrap64 (Int.tdiv (wrap64 ((wrap64 (t321 - (wrap64 (t322 * 65536)))) * 5180)) 65536)))))) 65536)))))) 65536)))) (wrap64 (-t322))).bind fun t323 => (some t323))) = some r := H
      have A5 := Aside0.mk A50
      clear A50
      by_cases c6 : (wrap64 (-t322)) > 62
      · rw [if_pos c6] at H
        have c6b0 : decide (62 < (wrap64 (-t322))) = true := decide_eq_true c6
        clear c6
        obtain rfl := Option.some.inj H
        go_wp2_with (first | ((with_reducible refine gate_callee (f := 38) rfl ?_); refine goesL_ (some 12) rfl rfl Try.func38 (by kernel_rfl) rfl #[.int .i64 (wrap64 ((wrap64 (x0_1)) * 94548)), .int .i64 65536] rfl (by (try simp only [List.map_toArray, List.map_cons, List.map_nil]); first | done | rfl | (simp only [List.length_drop, List.length_take]; rfl)) ?_; (with_reducible refine (credenzaref01_Ratio.calls (wrap64 ((wrap64 (x0_1)) * 94548)) 65536 t321 _ A4.out).mono ?_); rintro e w' ⟨rfl, ⟨nd, rfl⟩⟩; refine ⟨_, rfl, ?_⟩) | ((with_reducible refine gate_callee (f := 48) rfl ?_); refine goesL_ (some 14) rfl rfl Try.func48 (by kernel_rfl) rfl #[.int .i64 t321, .int .i64 65536] rfl (by (try simp only [List.map_toArray, List.map_cons, List.map_nil]); first | done | rfl | (simp only [List.length_drop, List.length_take]; rfl)) ?_; (with_reducible refine (credenzaref01_Floor.calls t321 65536 t322 _ A5.out).mono ?_); rintro e w' ⟨rfl, ⟨nd, rfl⟩⟩; refine ⟨_, rfl, ?_⟩))
        go_ret
        exact ⟨by first | rfl | (simp; done) | (simp [*]; done), by repeat (first | exact Drawn0.refl _ | apply Drawn0.step)⟩
      · rw [if_neg c6] at H
        have c6b0 : decide (62 < (wrap64 (-t322))) = false := decide_eq_false c6
        clear c6
        replace H := Option.bind_eq_some_iff.mp H
        obtain ⟨t323, A70, H⟩ := H
        replace H : (some t323) = some r := H
        have A7 := Aside0.mk A70
        clear A70
        obtain rfl := Option.some.inj H
        go_wp2_with (first | ((with_reducible refine gate_callee (f := 38) rfl ?_); refine goesL_ (some 12) rfl rfl Try.func38 (by kernel_rfl) rfl #[.int .i64 (wrap64 ((wrap64 (x0_1)) * 94548)), .int .i64 65536] rfl (by (try simp only [List.map_toArray, List.map_cons, List.map_nil]); first | done | rfl | (simp only [List.length_drop, List.length_take]; rfl)) ?_; (with_reducible refine (credenzaref01_Ratio.calls (wrap64 ((wrap64 (x0_1)) * 94548)) 65536 t321 _ A4.out).mono ?_); rintro e w' ⟨rfl, ⟨nd, rfl⟩⟩; refine ⟨_, rfl, ?_⟩) | ((with_reducible refine gate_callee (f := 48) rfl ?_); refine goesL_ (some 14) rfl rfl Try.func48 (by kernel_rfl) rfl #[.int .i64 t321, .int .i64 65536] rfl (by (try simp only [List.map_toArray, List.map_cons, List.map_nil]); first | done | rfl | (simp only [List.length_drop, List.length_take]; rfl)) ?_; (with_reducible refine (credenzaref01_Floor.calls t321 65536 t322 _ A5.out).mono ?_); rintro e w' ⟨rfl, ⟨nd, rfl⟩⟩; refine ⟨_, rfl, ?_⟩) | ((with_reducible refine gate_callee (f := 49) rfl ?_); refine goesL_ (some 37) rfl rfl Try.func49 (by kernel_rfl) rfl #[.int .i64 (wrap64 (65536 + (wrap64 (Int.tdiv (wrap64 ((wrap64 (t321 - (wrap64 (t322 * 65536)))) * (wrap64 (45613 + (wrap64 (Int.tdiv (wrap64 ((wrap64 (t321 - (wrap64 (t322 * 65536)))) * (wrap64 (14743 + (wrap64 (Int.tdiv (wrap64 ((wrap64 (t321 - (wrap64 (t322 * 65536)))) * 5180)) 65536)))))) 65536)))))) 65536)))), .int .i64 (wrap64 (-t322))] rfl (by (try simp only [List.map_toArray, List.map_cons, List.map_nil]); first | done | rfl | (simp only [List.length_drop, List.length_take]; rfl)) ?_; (with_reducible refine (credenzaref01_Half.calls kj1 (wrap64 (65536 + (wrap64 (Int.tdiv (wrap64 ((wrap64 (t321 - (wrap64 (t322 * 65536)))) * (wrap64 (45613 + (wrap64 (Int.tdiv (wrap64 ((wrap64 (t321 - (wrap64 (t322 * 65536)))) * (wrap64 (14743 + (wrap64 (Int.tdiv (wrap64 ((wrap64 (t321 - (wrap64 (t322 * 65536)))) * 5180)) 65536)))))) 65536)))))) 65536)))) (wrap64 (-t322)) t323 _ A7.out).mono ?_); rintro e w' ⟨rfl, ⟨nd, rfl⟩⟩; refine ⟨_, rfl, ?_⟩))
        go_ret
        exact ⟨by first | rfl | (simp; done) | (simp [*]; done), by repeat (first | exact Drawn0.refl _ | apply Drawn0.step)⟩

end Go.Proofs.Ytmldhpnkkkmloaa.Q

namespace Go.Proofs.Ytmldhpnkkkmloaa.Q
open Go.RowKit Go.Proofs.YtmldhpnkkkmloaaW.PrintWords Go.Proofs.YtmldhpnkkkmloaaW.PrintLast Go.Proofs.YtmldhpnkkkmloaaW.PrintMore
attribute [local go_sem] max2_int min2_int max_two min_two max_three min_three max_four min_four   -- for this text's walks alone
set_option linter.unusedVariables false
set_option linter.unusedSimpArgs false

/-! ### credenzaref04_Weights: function 23 -/
def credenzaref04_Weights.l0 : Nat → List Int → Int → List Int → Int → Option (List Int)
  | 0, _, _, _, _ => none
  | k + 1, x0, x3, x4, x5 => if x5 < (x0.length : Int) then (if 0 ≤ x5 then ((credenzaref01_Wide.f (wrap64 ((wrap64 (rd x0 x5)) - (wrap64 (x3))))).bind fun t327 => ((credenzaref02_Exp.f k t327).bind fun t328 => (if x4.length < 17592186044416 then (credenzaref04_Weights.l0 k x0 x3 (x4 ++ [t328]) (wrap64 (x5 + 1))) else (none)))) else (none)) else (some x4)
def credenzaref04_Weights.f (k : Nat) (l0 : List Int) : Option (List Int) := (credenzaref03_Top.f k l0).bind fun t324 => (if 0 ≤ t324 then (if t324 < (l0.length : Int) then (credenzaref04_Weights.l0 k l0 (rd l0 t324) ([] : List Int) 0) else (none)) else (none))
theorem credenzaref04_Weights.mono_l : ∀ k, (∀ y0 y1 y2 y3, LeO (credenzaref04_Weights.l0 k y0 y1 y2 y3) (credenzaref04_Weights.l0 (k + 1) y0 y1 y2 y3))
  | 0 => fun _ _ _ _ r h => by simp [credenzaref04_Weights.l0] at h
  | k + 1 => by
    have ih0 := credenzaref04_Weights.mono_l k
    · intro y0 y1 y2 y3
      unfold credenzaref04_Weights.l0
      repeat' first
      | (with_reducible exact ih0 _ _ _ _)
      | (with_reducible exact credenzaref02_Exp.mono _ _)
      | (with_reducible exact credenzaref03_Top.mono _ _)
      | (with_reducible exact LeO.refl _)
      | (with_reducible exact LeO.none _)
      | (with_reducible refine LeO.ite ?_ ?_)
      | (with_reducible refine LeO.bind ?_ (fun _ => ?_))
      | exact ih0 _ _ _ _
      | exact credenzaref02_Exp.mono _ _
      | exact credenzaref03_Top.mono _ _
      | exact LeO.none _
      | refine LeO.ite ?_ ?_
      | refine LeO.bind ?_ (fun _ => ?_)
theorem credenzaref04_Weights.mono : ∀ a0 k, LeO (credenzaref04_Weights.f k a0) (credenzaref04_Weights.f (k + 1) a0) := by
  intro a0 k
  have ih0 := credenzaref04_Weights.mono_l k
  unfold credenzaref04_Weights.f
  repeat' first
      | (with_reducible exact ih0 _ _ _ _)
      | (with_reducible exact credenzaref02_Exp.mono _ _)
      | (with_reducible exact credenzaref03_Top.mono _ _)
      | (with_reducible exact LeO.refl _)
      | (with_reducible exact LeO.none _)
      | (with_reducible refine LeO.ite ?_ ?_)
      | (with_reducible refine LeO.bind ?_ (fun _ => ?_))
      | exact ih0 _ _ _ _
      | exact credenzaref02_Exp.mono _ _
      | exact credenzaref03_Top.mono _ _
      | exact LeO.none _
      | refine LeO.ite ?_ ?_
      | refine LeO.bind ?_ (fun _ => ?_)
set_option maxHeartbeats 8000000 in
set_option maxRecDepth 100000 in
theorem credenzaref04_Weights.calls (k : Nat) (A0 : Option Addr) (c0 : Nat) (l0 : List Int) (r : List Int) (w : World) (hr0 : Kd.C (Kd.int .i32) w A0 l0.length l0) (hc0 : l0.length ≤ c0) (h : credenzaref04_Weights.f k l0 = some r) :
    Calls Try.prog 23 #[.slice A0 l0.length c0] w fun e w' => ∃ v0_ : Value, e = .returned (v0_) ∧ Kd.R (Kd.int .i64) 3 w' w.heap.size (fun _ => True) v0_ r ∧ Below w.heap.size w w' := by
  have HR0 := Aside0.mk hr0
  have HC0 := Aside0.mk hc0
  clear hr0 hc0
  have HB := Aside0.mk (Below.refl w.heap.size w)
  have H : ((credenzaref03_Top.f k l0).bind fun t324 => (if 0 ≤ t324 then (if t324 < (l0.length : Int) then (credenzaref04_Weights.l0 k l0 (rd l0 t324) ([] : List Int) 0) else (none)) else (none))) = some r := h
  clear h
  replace H := Option.bind_eq_some_iff.mp H
  obtain ⟨t324, A20, H⟩ := H
  replace H : (if 0 ≤ t324 then (if t324 < (l0.length : Int) then (credenzaref04_Weights.l0 k l0 (rd l0 t324) ([] : List Int) 0) else (none)) else (none)) = some r := H
  have A2 := Aside0.mk A20
  clear A20
  by_cases c3 : 0 ≤ t324
  · rw [if_pos c3] at H
    have c3b0 : decide (0 ≤ t324) = true := decide_eq_true c3
    clear c3
    by_cases c4 : t324 < (l0.length : Int)
    · rw [if_pos c4] at H
      have c4b0 : decide (t324 < (l0.length : Int)) = true := decide_eq_true c4
      clear c4
      have H' := Aside0.mk H
      clear H
      go_enter Try.func23, Try.ntmps23
      go_wp2_with (first | ((with_reducible refine gate_callee (f := 17) rfl ?_); refine goesL_ (some 8) rfl rfl Try.func17 (by kernel_rfl) rfl #[.slice A0 l0.length c0] rfl (by (try simp only [List.map_toArray, List.map_cons, List.map_nil]); first | done | rfl | (simp only [List.length_drop, List.length_take]; rfl)) ?_; (with_reducible refine (credenzaref03_Top.calls k _ _ l0 t324 _ ?side1 ?side2 A2.out).mono ?_); (case side1 => repeat (first | exact HR0.out | (with_reducible refine Kd.C_alloc ?_ _) | (with_reducible refine Kd.C_drewN ?_ _) | (with_reducible refine Kd.C_drew ?_))); (case side2 => exact HC0.out); rintro e w' ⟨rfl, ⟨nd, rfl⟩⟩; refine ⟨_, rfl, ?_⟩; have p325 : 0 ≤ (t324 : Int) := of_decide_eq_true (by first | (with_reducible assumption) | assumption); have q325 : t324 < (l0.length : Int) := of_decide_eq_true (by first | (with_reducible assumption) | assumption); obtain ⟨ad325, e325, hx325_0⟩ := Kd.at_int HR0.out t324 p325 q325; cases e325; replace p325 := eq_true p325; replace q325 := eq_true q325))
      go_loopg [4, 5] k (fun kq v4 v5 w' => ∃ (x4_1 : List Int) (x5_1 : Int), v5 = .int .i64 x5_1 ∧ Aside0 (credenzaref04_Weights.l0 kq l0 (rd l0 t324) x4_1 x5_1 = some r) ∧ Aside0 (kq ≤ k) ∧ Aside0 (Kd.R (Kd.int .i64) 3 w' w.heap.size (fun _ => True) v4 x4_1) ∧ Aside0 (Below w.heap.size w w'))
      case atStart => exact ⟨(([] : List Int)), (0), (by first | rfl | (simp; done) | (simp [*]; done)), H', ⟨Nat.le_refl _⟩, ⟨by first | exact Kd.R_nil _ _ _ _ _ | exact Kd.N_nil _ _ _ _ _ | exact Kd.V_nil _ _ _ _ _ | exact Kd.Q_nil _ _ _ _ _ | exact Kd.S_nil _ _ _ _ _⟩, ⟨by repeat (first | (with_reducible first | exact HB.out | apply below_alloc | apply pw_below_drewN | apply below_drew1) | exact HB.out)⟩⟩
      case round =>
        clear H'
        try clear c1
        try clear c2
        try clear p2
        try clear c3
        try clear c3b0
        try clear p3
        try clear q3
        try clear hx3
        try clear c4
        try clear c4b0
        try clear hx325_0
        try clear p325
        try clear q325
        obtain ⟨x4_1, x5_1, rfl, HA, HK1, HO_4, HB⟩ := hrel
        cases gk with
        | zero => exact absurd HA.out (by simp [credenzaref04_Weights.l0])
        | succ k1 =>
          have H := HA.out
          clear HA
          simp only [credenzaref04_Weights.l0] at H
          by_cases c5 : x5_1 < (l0.length : Int)
          · rw [if_pos c5] at H
            have c5b0 : decide (x5_1 < (l0.length : Int)) = true := decide_eq_true c5
            clear c5
            by_cases c6 : 0 ≤ x5_1
            · rw [if_pos c6] at H
              have c6b0 : decide (0 ≤ x5_1) = true := decide_eq_true c6
              clear c6
              replace H := Option.bind_eq_some_iff.mp H
              obtain ⟨t327, A70, H⟩ := H
              replace H : ((credenzaref02_Exp.f k1 t327).bind fun t328 => (if x4_1.length < 17592186044416 then (credenzaref04_Weights.l0 k1 l0 (rd l0 t324) (x4_1 ++ [t328]) (wrap64 (x5_1 + 1))) else (none))) = some r := H
              have A7 := Aside0.mk A70
              clear A70
              replace H := Option.bind_eq_some_iff.mp H
              obtain ⟨t328, A80, H⟩ := H
              replace H : (if x4_1.length < 17592186044416 then (credenzaref04_Weights.l0 k1 l0 (rd l0 t324) (x4_1 ++ [t328]) (wrap64 (x5_1 + 1))) else (none)) = some r := H
              have A8 := Aside0.mk A80
              clear A80
              by_cases c9 : x4_1.length < 17592186044416
              · rw [if_pos c9] at H
                have LMc9 := Aside0.mk c9
                clear c9
                obtain ⟨y329, hy329⟩ : ∃ y_ : List Int, y_ = (x4_1 ++ [t328]) := ⟨_, rfl⟩
                replace H : (credenzaref04_Weights.l0 k1 l0 (rd l0 t324) y329 (wrap64 (x5_1 + 1))) = some r := by first | (rw [hy329]; with_reducible exact H) | (have H2_ := (Option.bind_some _ _).symm.trans H; rw [hy329]; with_reducible exact H2_) | (have H2_ := (Option.bind_some _ _).symm.trans H; with_reducible exact H2_) | with_reducible exact H | (rw [hy329]; exact H) | exact H
                have Ny329 := Aside0.mk hy329
                clear hy329
                have H' := Aside0.mk H
                clear H
                have p326 : 0 ≤ (x5_1 : Int) := of_decide_eq_true (by first | (with_reducible assumption) | assumption)
                have q326 : x5_1 < (l0.length : Int) := of_decide_eq_true (by first | (with_reducible assumption) | assumption)
                obtain ⟨ad326, e326, hx326_0⟩ := Kd.at_int HR0.out x5_1 p326 q326
                obtain rfl : ad325 = ad326 := (by injection e326)
                replace hx326_0 := (HB.out.cell (World.block_lt_of_cell? w _ hx326_0)).trans hx326_0
                replace p326 := eq_true p326
                replace q326 := eq_true q326
                go_wp2_with (first | ((with_reducible refine gate_callee (f := 37) rfl ?_); refine goesL_ (some 26) rfl rfl Try.func37 (by kernel_rfl) rfl #[.int .i64 (wrap64 ((wrap64 (rd l0 x5_1)) - (wrap64 ((rd l0 t324)))))] rfl (by (try simp only [List.map_toArray, List.map_cons, List.map_nil]); first | done | rfl | (simp only [List.length_drop, List.length_take]; rfl)) ?_; (with_reducible refine (credenzaref01_Wide.calls (wrap64 ((wrap64 (rd l0 x5_1)) - (wrap64 ((rd l0 t324))))) t327 _ A7.out).mono ?_); rintro e w' ⟨rfl, ⟨nd, rfl⟩⟩; refine ⟨_, rfl, ?_⟩) | ((with_reducible refine gate_callee (f := 39) rfl ?_); refine goesL_ (some 27) rfl rfl Try.func39 (by kernel_rfl) rfl #[.int .i32 t327] rfl (by (try simp only [List.map_toArray, List.map_cons, List.map_nil]); first | done | rfl | (simp only [List.length_drop, List.length_take]; rfl)) ?_; (with_reducible refine (credenzaref02_Exp.calls k1 t327 t328 _ A8.out).mono ?_); rintro e w' ⟨rfl, ⟨nd, rfl⟩⟩; refine ⟨_, rfl, ?_⟩) | ((with_reducible refine gate_builtin (b := .append) (xs := #[.tmp 17, .tmp 28]) rfl ?_); at_builtin; refine Kd.R_append (Kd.int .i64) (w0 := w) w.heap.size rfl (.tmp 17) (.tmp 28) 34 3 (.int .i64 0) 8 rfl Try.underlying34 info3 rfl (by decide) (by omega) u4 x4_1 t328 [.int .i64 t328] (fun _ => True) (fun _ => False) rfl rfl ?aP (fun _ hk => hk.elim) ?aF ?aO ?aB ?aS ?aL ?_; (case aP => exact rfl); (case aB => exact (by repeat (first | (with_reducible first | exact HB.out | apply below_alloc | apply pw_below_drewN | apply below_drew1) | exact HB.out))); (case aF => exact (fun _ _ => trivial)); (case aO => exact (by (with_reducible repeat (first | apply Kd.R_alloc | apply Kd.R_drewN | apply Kd.R_drew)); exact HO_4.out)); (case aS => exact (below_size (by repeat (first | (with_reducible first | exact HB.out | apply below_alloc | apply pw_below_drewN | apply below_drew1) | exact HB.out)))); (case aL => have := LMc9.out; omega); intro v330 w10 ho hb hg hat; rw [← Ny329.out] at ho; have n0_ := Aside0.mk (hb); have n1_ := Aside0.mk (ho); clear HB; clear HO_4; have HB := n0_; have HO331 := n1_; clear n0_ n1_; clear ho hb hg hat))
                go_roundg k1
                case measure => have := HK1.out; omega
                case rel => exact ⟨(y329), (wrap64 (x5_1 + 1)), (by first | rfl | (simp; done) | (simp [*]; done)), H', ⟨by have := HK1.out; omega⟩, ⟨by (with_reducible repeat (first | apply Kd.R_alloc | apply Kd.R_drewN | apply Kd.R_drew)); exact HO331.out⟩, ⟨by repeat (first | (with_reducible first | exact HB.out | apply below_alloc | apply pw_below_drewN | apply below_drew1) | exact HB.out)⟩⟩
              · rw [if_neg c9] at H
                exact absurd H (by simp)
            · rw [if_neg c6] at H
              exact absurd H (by simp)
          · rw [if_neg c5] at H
            have c5b0 : decide (x5_1 < (l0.length : Int)) = false := decide_eq_false c5
            clear c5
            obtain rfl := Option.some.inj H
            go_wp2
            go_ret
            exact ⟨_, by first | rfl | (simp [errW_none, errW_some] <;> rfl) | (simp [*, errW_none, errW_some] <;> rfl), by (with_reducible repeat (first | apply Kd.R_alloc | apply Kd.R_drewN | apply Kd.R_drew)); exact HO_4.out, by repeat (first | (with_reducible first | exact HB.out | apply below_alloc | apply pw_below_drewN | apply below_drew1) | exact HB.out)⟩
    · rw [if_neg c4] at H
      exact absurd H (by simp)
  · rw [if_neg c3] at H
    exact absurd H (by simp)

end Go.Proofs.Ytmldhpnkkkmloaa.Q

namespace Go.Proofs.Ytmldhpnkkkmloaa.Pure
open Go.RowKit Go.Proofs.Ytmldhpnkkkmloaa.Q Go.Proofs.YtmldhpnkkkmloaaW.PrintWords Go.Proofs.YtmldhpnkkkmloaaW.PrintLast

def of2R (f : Int) : Int := 65536 + f * (45613 + f * (14743 + f * 5180 / 65536) / 65536) / 65536
theorem of2_bd {f : Int} (h1 : 0 ≤ f) (h2 : f ≤ 65535) : 0 ≤ f * 5180 / 65536 ∧ f * 5180 / 65536 ≤ 5180 ∧ 0 ≤ f * (14743 + f * 5180 / 65536) ∧ f * (14743 + f * 5180 / 65536) ≤ 1305653805 ∧ 0 ≤ f * (14743 + f * 5180 / 65536) / 65536 ∧ f * (14743 + f * 5180 / 65536) / 65536 ≤ 19923 ∧
    0 ≤ f * (45613 + f * (14743 + f * 5180 / 65536) / 65536) ∧ f * (45613 + f * (14743 + f * 5180 / 65536) / 65536) ≤ 4294901760 ∧ 65536 ≤ of2R f ∧ of2R f ≤ 131071 := by
  have a1 : 0 ≤ f * 5180 / 65536 ∧ f * 5180 / 65536 ≤ 5180 := by omega
  unfold of2R
  generalize f * 5180 / 65536 = u at *
  have a2 : 0 ≤ f * (14743 + u) ∧ f * (14743 + u) ≤ 65535 * (14743 + 5180) := ⟨Int.mul_nonneg (by omega) (by omega), Int.mul_le_mul (by omega) (by omega) (by omega) (by omega)⟩
  generalize f * (14743 + u) = v at *
  have a3 : 0 ≤ v / 65536 ∧ v / 65536 ≤ 19923 := by omega
  generalize v / 65536 = z at *
  have a4 : 0 ≤ f * (45613 + z) ∧ f * (45613 + z) ≤ 65535 * (45613 + 19923) := ⟨Int.mul_nonneg (by omega) (by omega), Int.mul_le_mul (by omega) (by omega) (by omega) (by omega)⟩
  generalize f * (45613 + z) = y at *
  omega
/-- e to a number that isn't above 0 -/
def expT (x : Int) : Int := rnd ((if x < 0 then x else 0) * 94548) 65536
def expR (x : Int) : Int := if 62 < -(expT x / 65536) then 0 else rnd (of2R (expT x % 65536)) (2 ^ (-(expT x / 65536)).toNat)
theorem expT_bd {x : Int} (hx : I32 x) : -4611686018427387904 ≤ (if x < 0 then x else 0) * 94548 ∧ (if x < 0 then x else 0) * 94548 ≤ 0 ∧ -4000000000 ≤ expT x ∧ expT x ≤ 0 := by
  unfold I32 at hx
  unfold expT rnd
  generalize hm : (if x < 0 then x else 0) = m
  have h1 : -2147483648 ≤ m ∧ m ≤ 0 := by rw [← hm]; split <;> omega
  refine ⟨by omega, by omega, ?_, ?_⟩ <;> split <;> omega
theorem emod_eq (t : Int) : t - t / 65536 * 65536 = t % 65536 := by omega
theorem expo_of2_some {f : Int} (h1 : 0 ≤ f) (h2 : f ≤ 65535) : expo_of2.f f = some (of2R f) := by
  obtain ⟨a1, a2, a3, a4, a5, a6, a7, a8, a9, a10⟩ := of2_bd h1 h2
  have e1 : wrap64 (f * 5180) = f * 5180 := w64 (by omega) (by omega)
  have e2 : wrap64 (14743 + f * 5180 / 65536) = 14743 + f * 5180 / 65536 := w64 (by omega) (by omega)
  have e3 : wrap64 (f * (14743 + f * 5180 / 65536)) = f * (14743 + f * 5180 / 65536) := w64 (by omega) (by omega)
  have e4 : wrap64 (45613 + f * (14743 + f * 5180 / 65536) / 65536) = 45613 + f * (14743 + f * 5180 / 65536) / 65536 := w64 (by omega) (by omega)
  have e5 : wrap64 (f * (45613 + f * (14743 + f * 5180 / 65536) / 65536)) = f * (45613 + f * (14743 + f * 5180 / 65536) / 65536) := w64 (by omega) (by omega)
  have e6 : wrap64 (of2R f) = of2R f := w64 (by omega) (by omega)
  unfold expo_of2.f
  rw [e1, e2, e3, e4, e5]
  exact congrArg some e6
theorem expo_Exp_some {x : Int} (hx : I32 x) : expo_Exp.f x = some (expR x) := by
  obtain ⟨b1, b2, b3, b4⟩ := expT_bd hx
  unfold I32 at hx
  have e0 : mn x 0 = (if x < 0 then x else 0) := by unfold mn; split <;> split <;> omega
  have e1 : wrap64 (if x < 0 then x else 0) = (if x < 0 then x else 0) := by split <;> exact w64 (by omega) (by omega)
  have e2 : wrap64 ((if x < 0 then x else 0) * 94548) = (if x < 0 then x else 0) * 94548 := w64 (by omega) (by omega)
  have e3 : fix_Half.f ((if x < 0 then x else 0) * 94548) 16 = some (expT x) := fix_Half_16 b1 (by omega)
  have e4 : wrap64 (-(expT x / 65536)) = -(expT x / 65536) := w64 (by omega) (by omega)
  have e5 : wrap64 (expT x / 65536 * 65536) = expT x / 65536 * 65536 := w64 (by omega) (by omega)
  have e6 : wrap64 (expT x - expT x / 65536 * 65536) = expT x % 65536 := by rw [w64 (by omega) (by omega), emod_eq]
  have e7 := expo_of2_some (f := expT x % 65536) (by omega) (by omega)
  have hof := (of2_bd (f := expT x % 65536) (by omega) (by omega)).2.2.2.2.2.2.2.2
  rw [expo_Exp.f, e0, e1, e2, e3, Option.bind_some, e4, expR]
  by_cases c : -(expT x / 65536) > 62
  · rw [if_pos c, if_pos c]
  · have e8 := fix_Half_some (a := of2R (expT x % 65536)) (n := (-(expT x / 65536)).toNat) (by omega) (by omega) (by omega)
    rw [Int.toNat_of_nonneg (by omega)] at e8
    rw [if_neg c, if_neg c, e5, e6, e7, Option.bind_some, e8, Option.bind_some]
theorem power_loop (n : Nat) (hn : n ≤ 62) : ∀ (d k p : Nat), p + d = n → d < k → credenzaref01_Power.l0 k (n : Int) (2 ^ p) (p : Int) = some (2 ^ n) := by
  intro d
  induction d with
  | zero =>
    intro k p hp hk
    obtain ⟨k, rfl⟩ : ∃ m, k = m + 1 := ⟨k - 1, by omega⟩
    obtain rfl : p = n := by omega
    rw [credenzaref01_Power.l0, if_neg (by omega)]
  | succ d ih =>
    intro k p hp hk
    obtain ⟨k, rfl⟩ : ∃ m, k = m + 1 := ⟨k - 1, by omega⟩
    have hb := pow2_bd (n := p + 1) (by omega)
    have e : wrap64 ((2 : Int) ^ p * 2) = 2 ^ (p + 1) := by rw [← Int.pow_succ]; exact w64 (by omega) (by omega)
    rw [credenzaref01_Power.l0, if_pos (by omega), e, wnext (show p < n by omega) (by omega)]
    exact ih k (p + 1) (by omega) (by omega)
theorem ref_Half_some {a : Int} {n : Nat} (hn : n ≤ 62) (ha1 : -4611686018427387904 ≤ a) (ha2 : a ≤ 4611686018427387904) {k : Nat} (hk : 63 ≤ k) : credenzaref01_Half.f k a (n : Int) = some (rnd a (2 ^ n)) := by
  obtain ⟨hp1, hp2⟩ := pow2_bd hn
  have e1 : cutR (n : Int) 0 62 = (n : Int) := by unfold cutR; rw [if_neg (by omega), if_neg (by omega)]
  have e2 : credenzaref01_Power.f k (n : Int) = some (2 ^ n) := power_loop n hn n k 0 (by omega) (by omega)
  have e3 := ref_Ratio_some (a := a) (b := 2 ^ n) (by omega) ha1 ha2 hp2
  rw [credenzaref01_Half.f, ref_Cut_some, Option.bind_some, e1, e2, Option.bind_some, e3, Option.bind_some]
theorem tdiv65536 {a : Int} (h : 0 ≤ a) : Int.tdiv a 65536 = a / 65536 := Int.tdiv_eq_ediv_of_nonneg h
theorem exp_j0 {y : Int} (hy : -2147483648 ≤ y) (hy2 : y ≤ 0) {k : Nat} (hk : 64 ≤ k) : credenzaref02_Exp.j0 k y = some (expR y) := by
  obtain ⟨k, rfl⟩ : ∃ m, k = m + 1 := ⟨k - 1, by omega⟩
  have hif : (if y < 0 then y else 0) = y := by split <;> omega
  obtain ⟨b1, b2, b3, b4⟩ := expT_bd (x := y) ⟨by omega, by omega⟩
  rw [hif] at b1 b2
  have hT : expT y = rnd (y * 94548) 65536 := by unfold expT; rw [hif]
  have e1 : wrap64 y = y := w64 (by omega) (by omega)
  have e2 : wrap64 (y * 94548) = y * 94548 := w64 (by omega) (by omega)
  have e3 : credenzaref01_Ratio.f (y * 94548) 65536 = some (expT y) := by rw [hT]; exact ref_Ratio_some (by omega) (by omega) (by omega) (by omega)
  have e3' : credenzaref01_Floor.f (expT y) 65536 = some (expT y / 65536) := ref_Floor_some (by omega) (by omega) (by omega) (by omega)
  have e4 : wrap64 (-(expT y / 65536)) = -(expT y / 65536) := w64 (by omega) (by omega)
  have e5 : wrap64 (expT y / 65536 * 65536) = expT y / 65536 * 65536 := w64 (by omega) (by omega)
  have e6 : wrap64 (expT y - expT y / 65536 * 65536) = expT y % 65536 := by rw [w64 (by omega) (by omega), emod_eq]
  have hf1 : 0 ≤ expT y % 65536 := by omega
  have hf2 : expT y % 65536 ≤ 65535 := by omega
  obtain ⟨a1, a2, a3, a4, a5, a6, a7, a8, a9, a10⟩ := of2_bd hf1 hf2
  rw [credenzaref02_Exp.j0, e1, e2, e3, Option.bind_some, e3', Option.bind_some, e4, expR]
  by_cases c : -(expT y / 65536) > 62
  · rw [if_pos c, if_pos c]
  · have e8 := ref_Half_some (a := of2R (expT y % 65536)) (n := (-(expT y / 65536)).toNat) (by omega) (by omega) (by omega) (k := k) (by omega)
    rw [Int.toNat_of_nonneg (by omega)] at e8
    rw [if_neg c, if_neg c, e5, e6]
    generalize expT y % 65536 = f at *
    have g1 : wrap64 (f * 5180) = f * 5180 := w64 (by omega) (by omega)
    have g2 : wrap64 (f * 5180 / 65536) = f * 5180 / 65536 := w64 (by omega) (by omega)
    have g2' : wrap64 (14743 + f * 5180 / 65536) = 14743 + f * 5180 / 65536 := w64 (by omega) (by omega)
    have g3 : wrap64 (f * (14743 + f * 5180 / 65536)) = f * (14743 + f * 5180 / 65536) := w64 (by omega) (by omega)
    have g4 : wrap64 (f * (14743 + f * 5180 / 65536) / 65536) = f * (14743 + f * 5180 / 65536) / 65536 := w64 (by omega) (by omega)
    have g4' : wrap64 (45613 + f * (14743 + f * 5180 / 65536) / 65536) = 45613 + f * (14743 + f * 5180 / 65536) / 65536 := w64 (by omega) (by omega)
    have g5 : wrap64 (f * (45613 + f * (14743 + f * 5180 / 65536) / 65536)) = f * (45613 + f * (14743 + f * 5180 / 65536) / 65536) := w64 (by omega) (by omega)
    have g6 : wrap64 (f * (45613 + f * (14743 + f * 5180 / 65536) / 65536) / 65536) = f * (45613 + f * (14743 + f * 5180 / 65536) / 65536) / 65536 := w64 (by omega) (by omega)
    have g7 : wrap64 (65536 + f * (45613 + f * (14743 + f * 5180 / 65536) / 65536) / 65536) = of2R f := w64 (by unfold of2R at a9; omega) (by unfold of2R at a10; omega)
    rw [g1, tdiv65536 (a := f * 5180) (by omega), g2, g2', g3, tdiv65536 a3, g4, g4', g5, tdiv65536 a7, g6, g7, e8, Option.bind_some]
theorem expR_pos {x : Int} (h : 0 ≤ x) : expR x = expR 0 := by
  have : expT x = expT 0 := by unfold expT; rw [if_neg (by omega), if_neg (by omega)]
  unfold expR
  rw [this]
theorem ref_Exp_some {x : Int} (hx : I32 x) {k : Nat} (hk : 64 ≤ k) : credenzaref02_Exp.f k x = some (expR x) := by
  unfold I32 at hx
  rw [credenzaref02_Exp.f]
  by_cases c : x > 0
  · rw [if_pos c, exp_j0 (by omega) (by omega) hk, expR_pos (x := x) (by omega)]
  · rw [if_neg c, exp_j0 (by omega) (by omega) hk]
theorem expR_0 : expR 0 = 65536 := by decide +kernel
theorem expR_bd {x : Int} (hx : I32 x) : 0 ≤ expR x ∧ expR x ≤ 131072 := by
  obtain ⟨b1, b2, b3, b4⟩ := expT_bd hx
  unfold expR
  split
  · omega
  · have hof := (of2_bd (f := expT x % 65536) (by omega) (by omega)).2.2.2.2.2.2.2.2
    obtain ⟨hp1, hp2⟩ := pow2_bd (n := (-(expT x / 65536)).toNat) (by omega)
    generalize (2 : Int) ^ (-(expT x / 65536)).toNat = b at *
    generalize of2R (expT x % 65536) = a at *
    have h1 := div_bd (a := a) (b := b) (by omega) 131071 (by omega) (by omega)
    have h2 : 0 ≤ a / b := Int.ediv_nonneg (by omega) (by omega)
    unfold rnd
    split <;> omega

/-- the greatest one -/
def topR : List Int → Int
  | [] => 0
  | x :: xs => xs.foldl (fun a b => if a < b then b else a) x
theorem mx_eq (a b : Int) : mx a b = if a < b then b else a := rfl
theorem fold_take {l : List Int} {p : Nat} (h : p < l.length) (h0 : 0 < p) : topR (l.take (p + 1)) = if topR (l.take p) < rd l (p : Int) then rd l (p : Int) else topR (l.take p) := by
  rw [take_rd h]
  cases hl : l.take p with
  | nil =>
    have h3 : (l.take p).length = 0 := by rw [hl]; rfl
    rw [List.length_take] at h3
    omega
  | cons x xs =>
    simp only [topR, List.cons_append, List.foldl_append, List.foldl_cons, List.foldl_nil]
    exact ite_congr rfl (fun _ => rfl) (fun _ => rfl)
theorem max_loop (l : List Int) (hl : l.length ≤ 1000000) : ∀ (d k p : Nat), p + d = l.length → d < k → 0 < p → slices_Max_int32_int32.l0 k l (topR (l.take p)) (p : Int) = some (topR l) := by
  intro d
  induction d with
  | zero =>
    intro k p hp hk h0
    obtain ⟨k, rfl⟩ : ∃ m, k = m + 1 := ⟨k - 1, by omega⟩
    rw [slices_Max_int32_int32.l0, if_neg (by omega), List.take_of_length_le (by omega)]
  | succ d ih =>
    intro k p hp hk h0
    obtain ⟨k, rfl⟩ : ∃ m, k = m + 1 := ⟨k - 1, by omega⟩
    have hlt : p < l.length := by omega
    rw [slices_Max_int32_int32.l0, if_pos (by omega), if_pos (by omega), mx_eq, ← fold_take hlt h0, wnext hlt (by omega)]
    exact ih k (p + 1) (by omega) (by omega) (by omega)
theorem take_one {l : List Int} (h : 0 < l.length) : topR (l.take 1) = rd l 0 := by
  cases l with
  | nil => simp at h
  | cons x xs => simp [topR, rd]
theorem max_some {l : List Int} (h : 0 < l.length) (hl : l.length ≤ 1000000) {k : Nat} (hk : l.length < k) : slices_Max_int32_int32.f k l = some (topR l) := by
  rw [slices_Max_int32_int32.f, if_neg (by omega), if_pos (by omega), ← take_one h]
  exact max_loop l hl (l.length - 1) k 1 (by omega) (by omega) (by omega)
theorem index_some (l : List Int) (a : Int) (hl : l.length ≤ 1000000) : ∀ (d k p : Nat), p + d = l.length → d < k → ∃ r, slices_Index_int32_int32.l0 k l a (l.length : Int) (p : Int) = some r := by
  intro d
  induction d with
  | zero =>
    intro k p hp hk
    obtain ⟨k, rfl⟩ : ∃ m, k = m + 1 := ⟨k - 1, by omega⟩
    exact ⟨_, by rw [slices_Index_int32_int32.l0, if_neg (by omega)]⟩
  | succ d ih =>
    intro k p hp hk
    obtain ⟨k, rfl⟩ : ∃ m, k = m + 1 := ⟨k - 1, by omega⟩
    have hlt : p < l.length := by omega
    rw [slices_Index_int32_int32.l0, if_pos (by omega), if_pos (by omega), if_pos (by omega)]
    by_cases c : a = rd l (p : Int)
    · exact ⟨_, by rw [if_pos c]⟩
    · rw [if_neg c, wnext hlt (by omega)]
      exact ih k (p + 1) (by omega) (by omega)
theorem dot_Top_some {l : List Int} (h : 0 < l.length) (hl : l.length ≤ 1000000) {k : Nat} (hk : l.length < k) : ∃ r, dot_Top.f k l = some (r, topR l, 0) := by
  obtain ⟨r, hr⟩ := index_some l (topR l) hl l.length k 0 (by omega) hk
  have hr' : slices_Index_int32_int32.f k l (topR l) = some r := hr
  exact ⟨r, by rw [dot_Top.f, if_neg (by omega), max_some h hl hk, Option.bind_some, hr', Option.bind_some]⟩
theorem ref_top_loop (l : List Int) (hl : l.length ≤ 1000000) : ∀ (d k p q : Nat), p + d = l.length → d < k → 0 < p → q < p → rd l (q : Int) = topR (l.take p) → ∃ r : Nat, r < l.length ∧ credenzaref03_Top.l0 k l (q : Int) (p : Int) = some (r : Int) ∧ rd l (r : Int) = topR l := by
  intro d
  induction d with
  | zero =>
    intro k p q hp hk h0 hq h
    obtain ⟨k, rfl⟩ : ∃ m, k = m + 1 := ⟨k - 1, by omega⟩
    exact ⟨q, by omega, by rw [credenzaref03_Top.l0, if_neg (by omega)], by rw [h, List.take_of_length_le (by omega)]⟩
  | succ d ih =>
    intro k p q hp hk h0 hq h
    obtain ⟨k, rfl⟩ : ∃ m, k = m + 1 := ⟨k - 1, by omega⟩
    have hlt : p < l.length := by omega
    have hf := fold_take hlt h0
    rw [credenzaref03_Top.l0, if_pos (by omega), if_pos (by omega), if_pos (by omega), if_pos (by omega), wnext hlt (by omega)]
    by_cases c : rd l (p : Int) > rd l (q : Int)
    · rw [if_pos c]
      exact ih k (p + 1) p (by omega) (by omega) (by omega) (by omega) (by rw [hf, if_pos (by omega)])
    · rw [if_neg c]
      exact ih k (p + 1) q (by omega) (by omega) (by omega) (by omega) (by rw [hf, if_neg (by omega), h])
theorem ref_Top_some {l : List Int} (h : 0 < l.length) (hl : l.length ≤ 1000000) {k : Nat} (hk : l.length < k) : ∃ r : Nat, r < l.length ∧ credenzaref03_Top.f k l = some (r : Int) ∧ rd l (r : Int) = topR l := by
  obtain ⟨k, rfl⟩ : ∃ m, k = m + 1 := ⟨k - 1, by omega⟩
  have := ref_top_loop l hl (l.length - 1) k 1 0 (by omega) (by omega) (by omega) (by omega) (take_one h).symm
  rw [credenzaref03_Top.f, credenzaref03_Top.l0, if_pos (by omega), if_pos (by omega), if_pos (by omega), if_pos (by omega), if_neg (by simp), show wrap64 ((0 : Int) + 1) = ((1 : Nat) : Int) from w64 (by omega) (by omega)]
  exact this
/-- weights of scores -/
def wR (top x : Int) : Int := expR (wideR (x - top))
def weightsR (l : List Int) : List Int := l.map (wR (topR l))
theorem topR_key {l : List Int} (hh : 0 < l.length) : ∀ p : Nat, 0 < p → p ≤ l.length → ∃ r : Nat, r < p ∧ rd l (r : Int) = topR (l.take p) := by
  intro p
  induction p with
  | zero => intro h0; omega
  | succ p ih =>
    intro _ hp
    by_cases c : p = 0
    · subst c
      exact ⟨0, by omega, (take_one hh).symm⟩
    · obtain ⟨r, hr, e⟩ := ih (by omega) (by omega)
      have hf := fold_take (l := l) (p := p) (by omega) (by omega)
      by_cases c2 : topR (l.take p) < rd l (p : Int)
      · exact ⟨p, by omega, by rw [hf, if_pos c2]⟩
      · exact ⟨r, by omega, by rw [hf, if_neg c2, e]⟩
theorem topR_mem {l : List Int} (h : 0 < l.length) : topR l ∈ l := by
  obtain ⟨r, hr, e⟩ := topR_key h l.length h (Nat.le_refl _)
  rw [List.take_length] at e
  rw [← e]
  exact rd_mem hr
theorem w_loop (l : List Int) (top : Int) (ht : I32 top) (hl : l.length ≤ 1000000) (hw : A32 l) : ∀ (d k p : Nat), p + d = l.length → d < k → soft_Weights.l0 k top ((l.take p).map (wR top)) l (l.length : Int) (p : Int) = some (l.map (wR top), 0) := by
  intro d
  unfold I32 at ht
  induction d with
  | zero =>
    intro k p hp hk
    obtain ⟨k, rfl⟩ : ∃ m, k = m + 1 := ⟨k - 1, by omega⟩
    rw [soft_Weights.l0, if_neg (by omega), List.take_of_length_le (by omega)]
  | succ d ih =>
    intro k p hp hk
    obtain ⟨k, rfl⟩ : ∃ m, k = m + 1 := ⟨k - 1, by omega⟩
    have hlt : p < l.length := by omega
    have hx := hw _ (rd_mem hlt)
    unfold I32 at hx
    have hwd := wideR_bd (rd l (p : Int) - top)
    have e1 : fix_Sub.f (rd l (p : Int)) top = some (wideR (rd l (p : Int) - top)) := by
      rw [fix_Sub.f, w64 (x := rd l (p : Int)) (by omega) (by omega), w64 (x := top) (by omega) (by omega), w64 (x := rd l (p : Int) - top) (by omega) (by omega), fix_Wide_some, Option.bind_some]
    have e2 := expo_Exp_some (x := wideR (rd l (p : Int) - top)) hwd
    have e3 : (l.take p).map (wR top) ++ [expR (wideR (rd l (p : Int) - top))] = (l.take (p + 1)).map (wR top) := by rw [take_rd hlt]; simp [wR]
    rw [soft_Weights.l0, if_pos (by omega), if_pos (by omega), if_pos (by omega), e1, Option.bind_some, e2, Option.bind_some, if_pos (by simp; omega), e3, wnext hlt (by omega)]
    exact ih k (p + 1) (by omega) (by omega)
theorem soft_Weights_some {l : List Int} (h : 0 < l.length) (hl : l.length ≤ 1024) (hw : A32 l) {k : Nat} (hk : l.length < k) : soft_Weights.f k l = some (weightsR l, 0) := by
  obtain ⟨r, hr⟩ := dot_Top_some h (by omega) hk
  rw [soft_Weights.f, if_neg (by omega), hr, Option.bind_some, if_pos rfl]
  exact w_loop l (topR l) (hw _ (topR_mem h)) (by omega) hw l.length k 0 (by omega) hk
theorem ref_w_loop (l : List Int) (top : Int) (ht : I32 top) (hl : l.length ≤ 1000000) (hw : A32 l) : ∀ (d k p : Nat), p + d = l.length → d + 64 < k → credenzaref04_Weights.l0 k l top ((l.take p).map (wR top)) (p : Int) = some (l.map (wR top)) := by
  intro d
  unfold I32 at ht
  induction d with
  | zero =>
    intro k p hp hk
    obtain ⟨k, rfl⟩ : ∃ m, k = m + 1 := ⟨k - 1, by omega⟩
    rw [credenzaref04_Weights.l0, if_neg (by omega), List.take_of_length_le (by omega)]
  | succ d ih =>
    intro k p hp hk
    obtain ⟨k, rfl⟩ : ∃ m, k = m + 1 := ⟨k - 1, by omega⟩
    have hlt : p < l.length := by omega
    have hx := hw _ (rd_mem hlt)
    unfold I32 at hx
    have hwd := wideR_bd (rd l (p : Int) - top)
    have e2 := ref_Exp_some (x := wideR (rd l (p : Int) - top)) hwd (k := k) (by omega)
    have e3 : (l.take p).map (wR top) ++ [expR (wideR (rd l (p : Int) - top))] = (l.take (p + 1)).map (wR top) := by rw [take_rd hlt]; simp [wR]
    rw [credenzaref04_Weights.l0, if_pos (by omega), if_pos (by omega), w64 (x := rd l (p : Int)) (by omega) (by omega), w64 (x := top) (by omega) (by omega), w64 (x := rd l (p : Int) - top) (by omega) (by omega), ref_Wide_some, Option.bind_some, e2, Option.bind_some, if_pos (by simp; omega), e3, wnext hlt (by omega)]
    exact ih k (p + 1) (by omega) (by omega)
theorem ref_Weights_some {l : List Int} (h : 0 < l.length) (hl : l.length ≤ 1024) (hw : A32 l) {k : Nat} (hk : l.length + 64 < k) : credenzaref04_Weights.f k l = some (weightsR l) := by
  obtain ⟨r, hr, e, e2⟩ := ref_Top_some h (by omega) (k := k) (by omega)
  rw [credenzaref04_Weights.f, e, Option.bind_some, if_pos (by omega), if_pos (by omega), e2]
  exact ref_w_loop l (topR l) (hw _ (topR_mem h)) (by omega) hw l.length k 0 (by omega) (by omega)
end Go.Proofs.Ytmldhpnkkkmloaa.Pure

namespace Go.Proofs.Ytmldhpnkkkmloaa.SortM
open Go.Sort
set_option linter.unusedVariables false

/-! ### one exchange -/
theorem swp_list (p q r : List Int) (x y : Int) (i j : Nat) (hi : i = p.length) (hj : j = p.length + 1 + q.length) :
    swp (p ++ x :: (q ++ y :: r)).toArray i j = (p ++ y :: (q ++ x :: r)).toArray := by
  subst hi hj
  have ex : (p ++ x :: (q ++ y :: r)).toArray[p.length]! = x := by simp
  have ey : (p ++ x :: (q ++ y :: r)).toArray[p.length + 1 + q.length]! = y := by
    have e : (p ++ x :: (q ++ y :: r))[p.length + 1 + q.length]? = some y := by
      rw [List.getElem?_append_right (by omega), show p.length + 1 + q.length - p.length = q.length + 1 by omega, List.getElem?_cons_succ, List.getElem?_append_right (by omega), Nat.sub_self]; rfl
    simp [e]
  unfold swp
  rw [ex, ey]
  simp only [List.setIfInBounds_toArray]
  congr 1
  rw [List.set_append_right _ _ (by omega), Nat.sub_self, List.set_cons_zero, List.set_append_right _ _ (by omega)]
  rw [show p.length + 1 + q.length - p.length = q.length + 1 by omega, List.set_cons_succ, List.set_append_right _ _ (by omega), Nat.sub_self, List.set_cons_zero]

theorem swp_list' (p q r : List Int) (x y : Int) (i j : Nat) (hi : i = p.length + 1 + q.length) (hj : j = p.length) :
    swp (p ++ x :: (q ++ y :: r)).toArray i j = (p ++ y :: (q ++ x :: r)).toArray := by
  subst hi hj
  have ex : (p ++ x :: (q ++ y :: r)).toArray[p.length]! = x := by simp
  have ey : (p ++ x :: (q ++ y :: r)).toArray[p.length + 1 + q.length]! = y := by
    have e : (p ++ x :: (q ++ y :: r))[p.length + 1 + q.length]? = some y := by
      rw [List.getElem?_append_right (by omega), show p.length + 1 + q.length - p.length = q.length + 1 by omega, List.getElem?_cons_succ, List.getElem?_append_right (by omega), Nat.sub_self]; rfl
    simp [e]
  unfold swp
  rw [ex, ey]
  simp only [List.setIfInBounds_toArray]
  congr 1
  rw [List.set_append_right _ _ (by omega), show p.length + 1 + q.length - p.length = q.length + 1 by omega, List.set_cons_succ, List.set_append_right _ _ (by omega), Nat.sub_self, List.set_cons_zero]
  rw [List.set_append_right _ _ (by omega), Nat.sub_self, List.set_cons_zero]

theorem at_list (p r : List Int) (x : Int) (i : Nat) (hi : i = p.length) : (p ++ x :: r).toArray[i]! = x := by subst hi; simp

/-- An element of the middle part. -/
theorem at_mid (p l r : List Int) (i : Nat) (h : i < l.length) : (p ++ l ++ r).toArray[p.length + i]! = l[i]! := by
  have e : (p ++ l ++ r)[p.length + i]? = l[i]? := by
    rw [List.append_assoc, List.getElem?_append_right (by omega), show p.length + i - p.length = i by omega, List.getElem?_append_left h]
  simp only [List.getElem!_toArray, List.getElem!_eq_getElem?_getD]
  rw [e]

/-! ### order -/
/-- A strict order, told of lists. -/
structure Ord (R : Int → Int → Prop) : Prop where
  trans : ∀ x y z, R x y → R y z → R x z

/-- What is asked of the comparison between the left and the right. -/
def Cross (cf : Int → Int → Int) (R : Int → Int → Prop) (l r : List Int) : Prop :=
  ∀ x ∈ l, ∀ y ∈ r, (cf y x < 0 → R y x) ∧ (¬ cf y x < 0 → R x y)

theorem Cross.sub {cf : Int → Int → Int} {R : Int → Int → Prop} {l r l' r' : List Int} (h : Cross cf R l r) (hl : ∀ x ∈ l', x ∈ l) (hr : ∀ x ∈ r', x ∈ r) : Cross cf R l' r' :=
  fun x hx y hy => h x (hl x hx) y (hr y hy)

variable {R : Int → Int → Prop}

/-- The least and the greatest of two sorted lists decide for all. -/
theorem below_all (hO : Ord R) (l r : List Int) (hl : l.Pairwise R) (hr : r.Pairwise R) (h : ∀ x y, l.getLast? = some x → r.head? = some y → R x y) : ∀ x ∈ l, ∀ y ∈ r, R x y := by
  intro x hx y hy
  obtain ⟨l0, z, rfl⟩ : ∃ l0 z, l = l0 ++ [z] := ⟨l.dropLast, l.getLast (List.ne_nil_of_mem hx), (List.dropLast_concat_getLast _).symm⟩
  obtain ⟨u, r0, rfl⟩ : ∃ u r0, r = u :: r0 := by cases r with | nil => cases hy | cons u r0 => exact ⟨u, r0, rfl⟩
  have hzu := h z u (by simp) rfl
  have hxu : R x u := by
    rcases List.mem_append.1 hx with hx | hx
    · exact hO.trans _ _ _ ((List.pairwise_append.1 hl).2.2 x hx z (by simp)) hzu
    · rw [List.mem_singleton.1 hx]; exact hzu
  rcases List.mem_cons.1 hy with rfl | hy
  · exact hxu
  · exact hO.trans _ _ _ hxu ((List.pairwise_cons.1 hr).1 y hy)

theorem glue (l r : List Int) (hl : l.Pairwise R) (hr : r.Pairwise R) (h : ∀ x ∈ l, ∀ y ∈ r, R x y) : (l ++ r).Pairwise R := List.pairwise_append.2 ⟨hl, hr, h⟩

/-- The two halves behind the rotation: all of the first is below all of the second. -/
theorem halves (hO : Ord R) (l1 l2 r1 r2 : List Int) (hl : (l1 ++ l2).Pairwise R) (hr : (r1 ++ r2).Pairwise R)
    (h1 : ∀ x y, l1.getLast? = some x → r2.head? = some y → R x y) (h2 : ∀ x y, r1.getLast? = some x → l2.head? = some y → R x y)
    (m1 m2 : List Int) (p1 : m1.Perm (l1 ++ r1)) (p2 : m2.Perm (l2 ++ r2)) (s1 : m1.Pairwise R) (s2 : m2.Pairwise R) :
    (m1 ++ m2).Perm ((l1 ++ l2) ++ (r1 ++ r2)) ∧ (m1 ++ m2).Pairwise R := by
  obtain ⟨hl1, hl2, hl12⟩ := List.pairwise_append.1 hl
  obtain ⟨hr1, hr2, hr12⟩ := List.pairwise_append.1 hr
  have a := below_all hO l1 r2 hl1 hr2 h1
  have b := below_all hO r1 l2 hr1 hl2 h2
  refine ⟨?_, glue _ _ s1 s2 ?_⟩
  · refine (p1.append p2).trans ?_
    rw [List.append_assoc, List.append_assoc]
    refine List.Perm.append_left l1 ?_
    rw [← List.append_assoc, ← List.append_assoc]
    exact List.Perm.append_right r2 List.perm_append_comm
  · intro x hx y hy
    rcases List.mem_append.1 (p1.mem_iff.1 hx) with hx | hx <;> rcases List.mem_append.1 (p2.mem_iff.1 hy) with hy | hy
    · exact hl12 x hx y hy
    · exact a x hx y hy
    · exact b x hx y hy
    · exact hr12 x hx y hy

/-- One element put into a sorted list. -/
theorem insert_left (hO : Ord R) (x : Int) (r1 r2 : List Int) (hr : (r1 ++ r2).Pairwise R) (h1 : ∀ y, r1.getLast? = some y → R y x) (h2 : ∀ y, r2.head? = some y → R x y) :
    (r1 ++ x :: r2).Perm ([x] ++ (r1 ++ r2)) ∧ (r1 ++ x :: r2).Pairwise R := by
  obtain ⟨hr1, hr2, hr12⟩ := List.pairwise_append.1 hr
  have a := below_all hO r1 [x] hr1 (by simp) (fun u v hu hv => by simp at hv; subst hv; exact h1 u hu)
  have b := below_all hO [x] r2 (by simp) hr2 (fun u v hu hv => by simp at hu; subst hu; exact h2 v hv)
  refine ⟨List.perm_middle, glue _ _ hr1 (List.pairwise_cons.2 ⟨fun y hy => b x (by simp) y hy, hr2⟩) ?_⟩
  intro u hu v hv
  rcases List.mem_cons.1 hv with rfl | hv
  · exact a u hu v (by simp)
  · exact hr12 u hu v hv
theorem insert_right (hO : Ord R) (x : Int) (l1 l2 : List Int) (hl : (l1 ++ l2).Pairwise R) (h1 : ∀ y, l1.getLast? = some y → R y x) (h2 : ∀ y, l2.head? = some y → R x y) :
    (l1 ++ x :: l2).Perm ((l1 ++ l2) ++ [x]) ∧ (l1 ++ x :: l2).Pairwise R := by
  obtain ⟨a, b⟩ := insert_left hO x l1 l2 hl h1 h2
  exact ⟨a.trans List.perm_append_comm, b⟩

/-- A list cut at a place, with its last and its first. -/
theorem cut (l : List Int) (k : Nat) (h : k ≤ l.length) : ∃ l1 l2, l = l1 ++ l2 ∧ l1.length = k ∧ (∀ x, l1.getLast? = some x → 0 < k ∧ x = l[k - 1]!) ∧ (∀ x, l2.head? = some x → k < l.length ∧ x = l[k]!) := by
  refine ⟨l.take k, l.drop k, (List.take_append_drop k l).symm, by rw [List.length_take]; omega, ?_, ?_⟩
  · intro x hx
    rw [List.getLast?_eq_getElem?, List.length_take, Nat.min_eq_left h] at hx
    by_cases hk : 0 < k
    · refine ⟨hk, ?_⟩
      rw [List.getElem?_take_of_lt (by omega)] at hx
      rw [List.getElem!_eq_getElem?_getD, hx]; rfl
    · have : k = 0 := by omega
      subst this
      simp at hx
  · intro x hx
    rw [List.head?_drop] at hx
    obtain ⟨hk, _⟩ := List.getElem?_eq_some_iff.1 hx
    exact ⟨hk, by rw [List.getElem!_eq_getElem?_getD, hx]; rfl⟩
end Go.Proofs.Ytmldhpnkkkmloaa.SortM

namespace Go.Proofs.Ytmldhpnkkkmloaa.SortM
open Go.Sort
set_option linter.unusedVariables false

/-- What is known of a pair of which the first stood ahead. -/
def Cmp2 (cf : Int → Int → Int) (R : Int → Int → Prop) (x y : Int) : Prop := (cf y x < 0 → R y x) ∧ (¬ cf y x < 0 → R x y)
def Cr (C : Int → Int → Prop) (B B' : List Int) : Prop := ∀ x ∈ B, ∀ y ∈ B', C x y

theorem cr_pair {C : Int → Int → Prop} {D E : List (List Int)} {A B : List Int} (h : (D ++ A :: B :: E).Pairwise (Cr C)) : Cr C A B :=
  (List.pairwise_cons.1 (List.pairwise_append.1 h).2.1).1 B (by simp)

theorem cr_merge {C : Int → Int → Prop} {D E : List (List Int)} {A B M : List Int} (h : (D ++ A :: B :: E).Pairwise (Cr C)) (hM : ∀ x ∈ M, x ∈ A ∨ x ∈ B) : (D ++ M :: E).Pairwise (Cr C) := by
  obtain ⟨h1, h2, h3⟩ := List.pairwise_append.1 h
  obtain ⟨h4, h5⟩ := List.pairwise_cons.1 h2
  obtain ⟨h6, h7⟩ := List.pairwise_cons.1 h5
  refine List.pairwise_append.2 ⟨h1, List.pairwise_cons.2 ⟨?_, h7⟩, ?_⟩
  · intro E1 hE x hx y hy
    rcases hM x hx with h | h
    · exact h4 E1 (by simp [hE]) x h y hy
    · exact h6 E1 hE x h y hy
  · intro D1 hD F hF x hx y hy
    rcases List.mem_cons.1 hF with rfl | hF
    · rcases hM y hy with h | h
      · exact h3 D1 hD A (by simp) x hx y h
      · exact h3 D1 hD B (by simp) x hx y h
    · exact h3 D1 hD F (by simp [hF]) x hx y hy

theorem cr_split {C : Int → Int → Prop} {D : List (List Int)} {A B : List Int} (h : (D ++ [A ++ B]).Pairwise (Cr C)) (hC : (A ++ B).Pairwise C) : (D ++ [A, B]).Pairwise (Cr C) := by
  obtain ⟨h1, h2, h3⟩ := List.pairwise_append.1 h
  obtain ⟨c1, c2, c3⟩ := List.pairwise_append.1 hC
  refine List.pairwise_append.2 ⟨h1, List.pairwise_cons.2 ⟨by intro F hF; simp at hF; subst hF; exact fun x hx y hy => c3 x hx y hy, by simp⟩, ?_⟩
  intro D1 hD F hF x hx y hy
  simp at hF
  rcases hF with rfl | rfl
  · exact h3 D1 hD (F ++ B) (by simp) x hx y (by simp [hy])
  · exact h3 D1 hD (A ++ F) (by simp) x hx y (by simp [hy])

theorem flat_len {D : List (List Int)} {n : Nat} (h : ∀ B ∈ D, B.length = n) : D.flatten.length = D.length * n := by
  induction D with
  | nil => simp
  | cons A D ih => rw [List.flatten_cons, List.length_append, h A (by simp), ih (fun B hB => h B (by simp [hB])), List.length_cons, Nat.add_mul]; omega

/-! ### the first phase -/
structure St1 (C R : Int → Int → Prop) (l0 : List Int) (D : List (List Int)) (rest : List Int) : Prop where
  perm : (D.flatten ++ rest).Perm l0
  len : ∀ B ∈ D, B.length = 20
  srt : ∀ B ∈ D, B.Pairwise R
  cr : (D ++ [rest]).Pairwise (Cr C)
  raw : rest.Pairwise C

theorem St1.start {C R : Int → Int → Prop} {l0 : List Int} (h : l0.Pairwise C) : St1 C R l0 [] l0 :=
  ⟨List.Perm.refl _, by simp, by simp, by simp, h⟩

theorem St1.step {C R : Int → Int → Prop} {l0 : List Int} {D : List (List Int)} {A B M : List Int} (h : St1 C R l0 D (A ++ B)) (hA : A.length = 20) (hp : M.Perm A) (hs : M.Pairwise R) : St1 C R l0 (D ++ [M]) B where
  perm := by
    refine List.Perm.trans ?_ h.perm
    simp only [List.flatten_append, List.flatten_cons, List.flatten_nil, List.append_nil, List.append_assoc]
    exact List.Perm.append_left _ (List.Perm.append_right _ hp)
  len := by
    intro X hX
    rcases List.mem_append.1 hX with hX | hX
    · exact h.len X hX
    · simp at hX; subst hX; rw [hp.length_eq, hA]
  srt := by
    intro X hX
    rcases List.mem_append.1 hX with hX | hX
    · exact h.srt X hX
    · simp at hX; subst hX; exact hs
  cr := by
    have h1 := cr_split h.cr h.raw
    have h2 : (D ++ M :: [B]).Pairwise (Cr C) := by
      obtain ⟨x1, x2, x3⟩ := List.pairwise_append.1 h1
      obtain ⟨x4, x5⟩ := List.pairwise_cons.1 x2
      refine List.pairwise_append.2 ⟨x1, List.pairwise_cons.2 ⟨fun E hE x hx y hy => x4 E hE x (hp.mem_iff.1 hx) y hy, x5⟩, ?_⟩
      intro D1 hD F hF x hx y hy
      rcases List.mem_cons.1 hF with rfl | hF
      · exact x3 D1 hD A (by simp) x hx y (hp.mem_iff.1 hy)
      · exact x3 D1 hD F (by simp [hF]) x hx y hy
    simpa using h2
  raw := (List.pairwise_append.1 h.raw).2.1

/-! ### the second phase -/
structure St2 (C R : Int → Int → Prop) (l0 : List Int) (bs : Nat) (D E : List (List Int)) (last : List Int) : Prop where
  perm : (D.flatten ++ E.flatten ++ last).Perm l0
  lenD : ∀ B ∈ D, B.length = 2 * bs
  srtD : ∀ B ∈ D, B.Pairwise R
  lenE : ∀ B ∈ E, B.length = bs
  srtE : ∀ B ∈ E, B.Pairwise R
  lenL : last.length < bs
  srtL : last.Pairwise R
  cr : (D ++ E ++ [last]).Pairwise (Cr C)

theorem St1.done {C R : Int → Int → Prop} {l0 : List Int} {D : List (List Int)} {A M : List Int} (h : St1 C R l0 D A) (hA : A.length < 20) (hp : M.Perm A) (hs : M.Pairwise R) : St2 C R l0 20 [] D M where
  perm := by
    refine List.Perm.trans ?_ h.perm
    simpa using List.Perm.append_left _ hp
  lenD := by simp
  srtD := by simp
  lenE := h.len
  srtE := h.srt
  lenL := by rw [hp.length_eq]; exact hA
  srtL := hs
  cr := by
    obtain ⟨x1, x2, x3⟩ := List.pairwise_append.1 h.cr
    refine List.pairwise_append.2 ⟨by simpa using x1, by simp, ?_⟩
    intro D1 hD F hF x hx y hy
    simp at hF hD
    subst hF
    exact x3 D1 hD A (by simp) x hx y (hp.mem_iff.1 hy)

/-- Two blocks become one. -/
theorem St2.step {C R : Int → Int → Prop} {l0 : List Int} {bs : Nat} {D E : List (List Int)} {A B M last : List Int} (h : St2 C R l0 bs D (A :: B :: E) last) (hp : M.Perm (A ++ B)) (hs : M.Pairwise R) : St2 C R l0 bs (D ++ [M]) E last where
  perm := by
    refine List.Perm.trans ?_ h.perm
    simp only [List.flatten_append, List.flatten_cons, List.flatten_nil, List.append_nil, List.append_assoc]
    refine List.Perm.append_left _ ?_
    rw [← List.append_assoc A]
    exact List.Perm.append_right _ hp
  lenD := by
    intro X hX
    rcases List.mem_append.1 hX with hX | hX
    · exact h.lenD X hX
    · simp at hX; subst hX; rw [hp.length_eq, List.length_append, h.lenE A (by simp), h.lenE B (by simp)]; omega
  srtD := by
    intro X hX
    rcases List.mem_append.1 hX with hX | hX
    · exact h.srtD X hX
    · simp at hX; subst hX; exact hs
  lenE := fun X hX => h.lenE X (by simp [hX])
  srtE := fun X hX => h.srtE X (by simp [hX])
  lenL := h.lenL
  srtL := h.srtL
  cr := by
    have h1 : (D ++ A :: B :: (E ++ [last])).Pairwise (Cr C) := by simpa using h.cr
    have h2 := cr_merge h1 (M := M) (fun x hx => List.mem_append.1 (hp.mem_iff.1 hx))
    simpa using h2

/-- The blocks' length is doubled: what is left over is one short block. -/
theorem St2.double {C R : Int → Int → Prop} {l0 : List Int} {bs : Nat} {D E : List (List Int)} {last M : List Int} (h : St2 C R l0 bs D E last) (hn : E.length * bs + last.length < 2 * bs) (hp : M.Perm (E.flatten ++ last)) (hs : M.Pairwise R) : St2 C R l0 (2 * bs) [] D M where
  perm := by
    refine List.Perm.trans ?_ h.perm
    simp only [List.flatten_nil, List.nil_append, List.append_assoc]
    exact List.Perm.append_left _ hp
  lenD := by simp
  srtD := by simp
  lenE := h.lenD
  srtE := h.srtD
  lenL := by rw [hp.length_eq, List.length_append, flat_len h.lenE]; exact hn
  srtL := hs
  cr := by
    have h0 := h.cr
    rw [List.append_assoc] at h0
    obtain ⟨x1, x2, x3⟩ := List.pairwise_append.1 h0
    refine List.pairwise_append.2 ⟨by simpa using x1, by simp, ?_⟩
    intro D1 hD F hF x hx y hy
    simp at hF hD
    subst hF
    rcases List.mem_append.1 (hp.mem_iff.1 hy) with hy | hy
    · obtain ⟨X, hX, hyX⟩ := List.mem_flatten.1 hy
      exact x3 D1 hD X (by simp [hX]) x hx y hyX
    · exact x3 D1 hD last (by simp) x hx y hy

theorem few {n bs x : Nat} (h : n * bs + x < 2 * bs) : n = 0 ∨ n = 1 := by
  rcases n with _ | _ | n
  · exact .inl rfl
  · exact .inr rfl
  · exfalso
    have : (n + 1 + 1) * bs = n * bs + 2 * bs := by rw [Nat.add_mul, Nat.add_mul]; omega
    omega
theorem many {n bs x : Nat} (h : 2 * bs ≤ n * bs + x) (hx : x < bs) : 2 ≤ n := by
  rcases n with _ | _ | n
  · simp at h; omega
  · simp at h; omega
  · omega

/-- Behind the last doubling all is one sorted list. -/
theorem St2.fin {C R : Int → Int → Prop} {l0 : List Int} {bs : Nat} {E : List (List Int)} {last : List Int} (h : St2 C R l0 bs [] E last) (hn : l0.length ≤ bs) :
    (E.flatten ++ last).Perm l0 ∧ (E.flatten ++ last).Pairwise R := by
  have hp := h.perm
  simp only [List.flatten_nil, List.nil_append] at hp
  refine ⟨hp, ?_⟩
  have hl := hp.length_eq
  rw [List.length_append, flat_len h.lenE] at hl
  rcases few (n := E.length) (bs := bs) (x := last.length) (by have := h.lenL; omega) with h0 | h1
  · have : E = [] := List.length_eq_zero_iff.1 h0
    subst this
    simpa using h.srtL
  · obtain ⟨A, rfl⟩ := List.length_eq_one_iff.1 h1
    have : last = [] := List.length_eq_zero_iff.1 (by simp at hl; omega)
    subst this
    simpa using h.srtE A (by simp)
end Go.Proofs.Ytmldhpnkkkmloaa.SortM

namespace Go.Proofs.Ytmldhpnkkkmloaa.SortM
open Go.Sort Go.Proofs.YtmldhpnkkkmloaaW.PrintWords
set_option linter.unusedVariables false

/-- Place y is ahead of place x: its score is greater, or it comes first. -/
def before (l : List Int) (y x : Int) : Bool := decide (rd l y > rd l x ∨ rd l y = rd l x ∧ y < x)
def Bef (l : List Int) (y x : Int) : Prop := rd l y > rd l x ∨ rd l y = rd l x ∧ y < x
def iota (n : Nat) : List Int := (List.range n).map Int.ofNat
def ahead (l : List Int) (x : Int) : Nat := (iota l.length).countP (fun y => before l y x)
def keptOf (l : List Int) (t : Nat) : List Int := (iota l.length).filter (fun x => decide (ahead l x < t))

theorem iota_length (n : Nat) : (iota n).length = n := by simp [iota]
theorem mem_iota {n : Nat} {x : Int} : x ∈ iota n ↔ 0 ≤ x ∧ x < n := by
  simp only [iota, List.mem_map, List.mem_range]
  constructor
  · rintro ⟨a, h, rfl⟩
    simp; omega
  · rintro ⟨h1, h2⟩
    exact ⟨x.toNat, by omega, by simp; omega⟩
theorem iota_lt (n : Nat) : (iota n).Pairwise (· < ·) := by
  rw [iota, List.pairwise_map]
  exact List.pairwise_lt_range.imp (fun h => by simp; omega)
theorem iota_at {n : Nat} (i : Nat) (h : i < n) : (iota n)[i]! = (i : Int) := by
  rw [List.getElem!_eq_getElem?_getD]; simp [iota, h]

theorem bef_ord (l : List Int) : Ord (Bef l) := ⟨fun x y z h1 h2 => by unfold Bef at *; omega⟩
theorem bef_irrefl (l : List Int) (x : Int) : ¬ Bef l x x := by unfold Bef; omega
theorem bef_asymm {l : List Int} {x y : Int} (h : Bef l x y) : ¬ Bef l y x := by unfold Bef at *; omega
theorem before_iff {l : List Int} {y x : Int} : before l y x = true ↔ Bef l y x := by simp [before, Bef]

/-- The comparison by scores, of places in their order. -/
theorem iota_cmp (l : List Int) (cf : Int → Int → Int) (hcf : ∀ x y, (cf x y < 0 ↔ rd l y < rd l x)) (n : Nat) : (iota n).Pairwise (Cmp2 cf (Bef l)) :=
  (iota_lt n).imp (fun {x y} h => ⟨fun h1 => by have := (hcf y x).1 h1; unfold Bef; omega, fun h1 => by have := mt (hcf y x).2 h1; unfold Bef; omega⟩)

theorem take_iff {l M : List Int} (hs : M.Pairwise (Bef l)) (t : Nat) {x : Int} (hx : x ∈ M) : x ∈ M.take t ↔ M.countP (fun y => before l y x) < t := by
  obtain ⟨A, B, rfl⟩ := List.append_of_mem hx
  obtain ⟨h1, h2, h3⟩ := List.pairwise_append.1 hs
  obtain ⟨h4, h5⟩ := List.pairwise_cons.1 h2
  have c : (A ++ x :: B).countP (fun y => before l y x) = A.length := by
    rw [List.countP_append, List.countP_cons, List.countP_eq_length.2 (fun a ha => before_iff.2 (h3 a ha x (by simp))), List.countP_eq_zero.2 (fun b hb => by rw [before_iff]; exact bef_asymm (h4 b hb))]
    have : before l x x = false := by rw [Bool.eq_false_iff, ne_eq, before_iff]; exact bef_irrefl l x
    simp [this]
  rw [c]
  constructor
  · intro h
    by_cases hlt : A.length < t
    · exact hlt
    · exfalso
      rw [List.take_append_of_le_length (by omega)] at h
      exact bef_irrefl l x (h3 x (List.mem_of_mem_take h) x (by simp))
  · intro h
    rw [List.take_append, show t - A.length = (t - A.length - 1) + 1 by omega, List.take_succ_cons]
    simp

theorem kept_sorted (l : List Int) (t : Nat) : (keptOf l t).Pairwise (· < ·) := (iota_lt _).filter _

/-- The first t ones of the sorted places, in their order, are the kept ones. -/
theorem kept_eq (l M : List Int) (hp : M.Perm (iota l.length)) (hs : M.Pairwise (Bef l)) (t : Nat) : (M.take t).mergeSort (fun x y => decide (x ≤ y)) = keptOf l t := by
  have hnd : (iota l.length).Nodup := (iota_lt _).imp (fun h => by omega)
  have hMn : M.Nodup := hp.symm.nodup hnd
  have hm : ∀ x, x ∈ M.take t ↔ x ∈ keptOf l t := by
    intro x
    rw [keptOf, List.mem_filter, ← hp.mem_iff, decide_eq_true_iff, ahead, ← hp.countP_eq]
    constructor
    · intro h
      have h1 := List.mem_of_mem_take h
      exact ⟨h1, (take_iff hs t h1).1 h⟩
    · intro h
      exact (take_iff hs t h.1).2 h.2
  have hperm : (M.take t).Perm (keptOf l t) := (List.perm_ext_iff_of_nodup (hMn.sublist (List.take_sublist _ _)) ((kept_sorted l t).imp (fun h => by omega))).2 (fun x => hm x)
  refine List.Perm.eq_of_pairwise (le := fun x y : Int => x ≤ y) (fun a b _ _ h1 h2 => by omega) ?_ ((kept_sorted l t).imp (fun h => by omega)) ((List.mergeSort_perm _ _).trans hperm)
  have := List.pairwise_mergeSort (le := fun x y : Int => decide (x ≤ y)) (fun a b c h1 h2 => by simp at *; omega) (fun a b => by simp; omega) (M.take t)
  exact this.imp (fun h => by simpa using h)

theorem kept_all (l : List Int) (t : Nat) (h : l.length ≤ t) : keptOf l t = iota l.length := by
  rw [keptOf, List.filter_eq_self]
  intro x hx
  rw [decide_eq_true_iff, ahead]
  have h1 : (iota l.length).countP (fun y => before l y x) < (iota l.length).length := by
    rw [Nat.lt_iff_le_and_ne]
    refine ⟨List.countP_le_length, fun e => ?_⟩
    have := List.countP_eq_length.1 e x hx
    exact bef_irrefl l x (before_iff.1 this)
  rw [iota_length] at h1
  omega
theorem kept_length (l : List Int) (t : Nat) (h : ∃ M : List Int, M.Perm (iota l.length) ∧ M.Pairwise (Bef l)) : (keptOf l t).length = min t l.length := by
  obtain ⟨M, hp, hs⟩ := h
  rw [← kept_eq l M hp hs t, List.length_mergeSort, List.length_take, hp.length_eq, iota_length]
end Go.Proofs.Ytmldhpnkkkmloaa.SortM

namespace Go.Proofs.Ytmldhpnkkkmloaa.SortW
open Go.Sort Go.RowKit Go.Proofs Go.Proofs.Ytmldhpnkkkmloaa.SortM
set_option linter.unusedVariables false
set_option linter.unusedSimpArgs false

abbrev enc : Int → Value := Value.int .i64
abbrev SL (w0 : World) (blk off : Nat) (l : List Int) (W : World) : Prop := SW enc w0 blk off l.toArray W

theorem SL.swap {w0 W : World} {blk off : Nat} {d0 : Array Int} (R : Row1 enc w0 blk off d0) (p q r : List Int) (x y : Int) (h : SL w0 blk off (p ++ x :: (q ++ y :: r)) W) (i j : Nat) (hi : i = p.length) (hj : j = p.length + 1 + q.length) :
    SL w0 blk off (p ++ y :: (q ++ x :: r)) ((W.setCell ⟨blk, off + i, none⟩ (enc y)).setCell ⟨blk, off + j, none⟩ (enc x)).drew := by
  have hs := h.swapped R i j (by subst hi; simp) (by subst hj; simp; omega)
  have ex : (p ++ x :: (q ++ y :: r)).toArray[i]! = x := at_list p _ x i hi
  have ey : (p ++ x :: (q ++ y :: r)).toArray[j]! = y := by
    have := at_list (p ++ x :: q) r y j (by simp; omega)
    simpa using this
  rw [ex, ey, swp_list p q r x y i j hi hj] at hs
  exact hs

set_option maxHeartbeats 4000000 in
set_option maxRecDepth 100000 in
/-- slices.swapRangeCmpFunc: two blocks of one length are exchanged. -/
theorem swapRange_any (blk off cap N : Nat) (w0 w : World) (d0 : Array Int) (R : Row1 enc w0 blk off d0) (hd0 : d0.size = N) (hN : N ≤ 1000000) (cv : Value)
    (pre A B C post : List Int) (a b n : Nat) (ha : a = pre.length) (hb : b = pre.length + A.length + B.length) (hA : A.length = n) (hC : C.length = n) (hl : pre.length + A.length + B.length + C.length + post.length = N)
    (S : SL w0 blk off (pre ++ A ++ B ++ C ++ post) w) :
    Calls Try.prog 71 #[.slice (some ⟨blk, off, none⟩) N cap, .int .i64 a, .int .i64 b, .int .i64 n, cv] w fun e w' => e = .returned (.tuple #[]) ∧ SL w0 blk off (pre ++ C ++ B ++ A ++ post) w' := by
  have S0 : Aside (SL w0 blk off (pre ++ A ++ B ++ C ++ post) w) := S
  clear S
  have R0 : Aside (Row1 enc w0 blk off d0) := R
  clear R
  go_enter Try.func71, Try.ntmps71
  go_wp2
  go_loopw [10] (fun vi wr => ∃ (k : Nat) (A1 A2 C1 C2 : List Int), vi = .int .i64 k ∧ k ≤ n ∧ A1.length = k ∧ C1.length = k ∧ A2.length = n - k ∧ C2.length = n - k ∧ Hid (A = A1 ++ A2) ∧ Hid (C = C1 ++ C2) ∧ Aside (SL w0 blk off (pre ++ C1 ++ A2 ++ B ++ A1 ++ C2 ++ post) wr)) (fun vi _ => n - (intOf vi).toNat)
  case atStart => exact ⟨0, [], A, [], C, rfl, Nat.zero_le _, rfl, rfl, by omega, by omega, rfl, rfl, (by show SL _ _ _ _ _; simpa using S0.out)⟩
  case round =>
    clear S0
    obtain ⟨k, A1, A2, C1, C2, rfl, hk, h1, h2, h3, h4, EA, EC, S1⟩ := hrel
    by_cases hlt : k < n
    · obtain ⟨x, A3, rfl⟩ : ∃ x A3, A2 = x :: A3 := by cases A2 with | nil => simp at h3; omega | cons x A3 => exact ⟨x, A3, rfl⟩
      obtain ⟨y, C3, rfl⟩ : ∃ x A3, C2 = x :: A3 := by cases C2 with | nil => simp at h4; omega | cons x A3 => exact ⟨x, A3, rfl⟩
      simp only [List.length_cons] at h3 h4
      have hAl : A.length = A1.length + (A3.length + 1) := by rw [EA.out]; simp
      have hCl : C.length = C1.length + (C3.length + 1) := by rw [EC.out]; simp
      obtain ⟨iN, hiN⟩ : ∃ q, q = a + k := ⟨_, rfl⟩
      obtain ⟨jN, hjN⟩ : ∃ q, q = b + k := ⟨_, rfl⟩
      have S2 : SL w0 blk off ((pre ++ C1) ++ x :: ((A3 ++ B ++ A1) ++ y :: (C3 ++ post))) wr := by have := S1.out; simpa using this
      have S3 : Aside (SL w0 blk off ((pre ++ C1) ++ y :: ((A3 ++ B ++ A1) ++ x :: (C3 ++ post))) ((wr.setCell ⟨blk, off + iN, none⟩ (enc y)).setCell ⟨blk, off + jN, none⟩ (enc x)).drew) :=
        SL.swap R0.out _ _ _ x y S2 iN jN (by simp; omega) (by simp; omega)
      have hsz : ((pre ++ C1) ++ x :: ((A3 ++ B ++ A1) ++ y :: (C3 ++ post))).toArray.size = d0.size := by simp; omega
      have c1 := S2.c1 R0.out hsz iN (by rw [hsz, hd0]; omega)
      have c2 := S2.c1 R0.out hsz jN (by rw [hsz, hd0]; omega)
      have f1 := S2.f1 R0.out hsz iN (by rw [hsz, hd0]; omega)
      have f2 := S2.f1 R0.out hsz jN (by rw [hsz, hd0]; omega)
      rw [at_list _ _ x iN (by simp; omega)] at c1
      rw [show (pre ++ C1) ++ x :: ((A3 ++ B ++ A1) ++ y :: (C3 ++ post)) = ((pre ++ C1) ++ x :: (A3 ++ B ++ A1)) ++ y :: (C3 ++ post) by simp, at_list _ _ y jN (by simp; omega)] at c2
      have c3 := S2.c2 R0.out hsz iN jN (by rw [hsz, hd0]; omega) (by rw [hsz, hd0]; omega) (enc y)
      obtain ⟨u, c3⟩ := c3
      have ea : ((a : Int) + (k : Int)).toNat = iN := by omega
      have pa : (0 : Int) ≤ (a : Int) + (k : Int) := by omega
      have ba : (a : Int) + (k : Int) < (N : Int) := by omega
      have ra : IntKind.i64.wrap ((a : Int) + (k : Int)) = (a : Int) + (k : Int) := by rw [IntKind.wrap_i64]; omega
      have ec : ((b : Int) + (k : Int)).toNat = jN := by omega
      have pc : (0 : Int) ≤ (b : Int) + (k : Int) := by omega
      have bc : (b : Int) + (k : Int) < (N : Int) := by omega
      have rc : IntKind.i64.wrap ((b : Int) + (k : Int)) = (b : Int) + (k : Int) := by rw [IntKind.wrap_i64]; omega
      have T : Aside (k < n ∧ A1.length = k ∧ C1.length = k ∧ A3.length + 1 = n - k ∧ C3.length + 1 = n - k ∧ n ≤ 1000000) := ⟨hlt, h1, h2, h3, h4, by omega⟩
      have hltz : (k : Int) < (n : Int) := by omega
      have hkb : (k : Int) ≤ 1000000 := by omega
      clear S2 S1 hsz hiN hjN hAl hCl h1 h2 h3 h4 hA hC hl ha hb hd0 hk
      go_wp2_with fail
      go_region
      clear c1 c2 c3 f1 f2 ea pa ba ra ec pc bc rc
      generalize ((wr.setCell ⟨blk, off + iN, none⟩ (enc y)).setCell ⟨blk, off + jN, none⟩ (enc x)).drew = w3 at S3 ⊢
      go_wp2
      obtain ⟨hlt', h1, h2, h3, h4, hn4⟩ := T.out
      go_roundw
      case rel => exact ⟨k + 1, A1 ++ [x], A3, C1 ++ [y], C3, by go_num, by omega, by simp; omega, by simp; omega, by omega, by omega, EA.out.trans (by simp), EC.out.trans (by simp), (by show SL _ _ _ _ _; simpa using S3.out)⟩
      case measure => simp [intOf]; omega
    · have e0 : k = n := by omega
      have l1 : A2 = [] := List.length_eq_zero_iff.1 (by omega)
      have l2 : C2 = [] := List.length_eq_zero_iff.1 (by omega)
      subst l1 l2
      have hltz : ¬ (k : Int) < (n : Int) := by omega
      have S2 : Aside (SL w0 blk off (pre ++ C ++ B ++ A ++ post) wr) := by rw [EA.out, EC.out]; show SL _ _ _ _ _; simpa using S1.out
      clear S1 EA EC
      go_wp2
      go_end0
      exact ⟨rfl, by simpa using S2.out⟩
end Go.Proofs.Ytmldhpnkkkmloaa.SortW

namespace Go.Proofs.Ytmldhpnkkkmloaa.SortW
open Go.Sort Go.RowKit Go.Proofs Go.Proofs.Ytmldhpnkkkmloaa.SortM
set_option linter.unusedVariables false
set_option linter.unusedSimpArgs false

theorem swapRange_int (blk off cap N : Nat) (w0 w : World) (d0 : Array Int) (R : Row1 enc w0 blk off d0) (hd0 : d0.size = N) (hN : N ≤ 1000000) (cv : Value)
    (pre A B C post : List Int) (a b n : Int) (ha : a = (pre.length : Int)) (hb : b = (pre.length : Int) + A.length + B.length) (hA : (A.length : Int) = n) (hC : (C.length : Int) = n) (hl : pre.length + A.length + B.length + C.length + post.length = N)
    (S : SL w0 blk off (pre ++ A ++ B ++ C ++ post) w) :
    Calls Try.prog 71 #[.slice (some ⟨blk, off, none⟩) N cap, .int .i64 a, .int .i64 b, .int .i64 n, cv] w fun e w' => e = .returned (.tuple #[]) ∧ SL w0 blk off (pre ++ C ++ B ++ A ++ post) w' := by
  subst ha hb hA
  have h := swapRange_any blk off cap N w0 w d0 R hd0 hN cv pre A B C post pre.length (pre.length + A.length + B.length) A.length rfl rfl rfl (by omega) hl S
  simpa using h

set_option maxHeartbeats 4000000 in
set_option maxRecDepth 100000 in
theorem rotate_any (blk off cap N : Nat) (w0 w : World) (d0 : Array Int) (R : Row1 enc w0 blk off d0) (hd0 : d0.size = N) (hN : N ≤ 1000000) (cv : Value)
    (pre U V post : List Int) (a m b : Int) (ha : a = (pre.length : Int)) (hm : m = (pre.length : Int) + U.length) (hb : b = (pre.length : Int) + U.length + V.length) (hU : 0 < U.length) (hV : 0 < V.length) (hl : pre.length + U.length + V.length + post.length = N)
    (S : SL w0 blk off (pre ++ U ++ V ++ post) w) :
    Calls Try.prog 64 #[.slice (some ⟨blk, off, none⟩) N cap, .int .i64 a, .int .i64 m, .int .i64 b, cv] w fun e w' => e = .returned (.tuple #[]) ∧ SL w0 blk off (pre ++ V ++ U ++ post) w' := by
  have S0 : Aside (SL w0 blk off (pre ++ U ++ V ++ post) w) := S
  clear S
  have R0 : Aside (Row1 enc w0 blk off d0 ∧ d0.size = N) := ⟨R, hd0⟩
  clear R hd0
  obtain ⟨T, hT⟩ : ∃ T, T = pre ++ V ++ U ++ post := ⟨_, rfl⟩
  rw [← hT]
  have HT : Aside (T = pre ++ V ++ U ++ post) := hT
  clear hT
  have b1 : (0 : Int) ≤ a := by omega
  have b2 : a < m := by omega
  have b3 : m < b := by omega
  have b4 : b ≤ (N : Int) := by omega
  have b5 : (N : Int) ≤ 1000000 := by omega
  have F : Aside (a = (pre.length : Int) ∧ m = (pre.length : Int) + U.length ∧ b = (pre.length : Int) + U.length + V.length ∧ 0 < U.length ∧ 0 < V.length ∧ pre.length + U.length + V.length + post.length = N) := ⟨ha, hm, hb, hU, hV, hl⟩
  clear ha hm hb hU hV hl
  go_enter Try.func64, Try.ntmps64
  go_wp2
  go_loopw [10, 11] (fun vi vj wr => ∃ (i j : Int) (p u v q : List Int), vi = .int .i64 i ∧ vj = .int .i64 j ∧ 0 < i ∧ 0 < j ∧ i ≤ m ∧ m + j ≤ N ∧ Aside (m = (p.length : Int) + i ∧ (u.length : Int) = i ∧ (v.length : Int) = j ∧ p.length + u.length + v.length + q.length = N ∧ p ++ v ++ u ++ q = T ∧ SL w0 blk off (p ++ u ++ v ++ q) wr)) (fun vi vj _ => (intOf vi + intOf vj).toNat)
  case atStart =>
    obtain ⟨ha, hm, hb, hU, hV, hl⟩ := F.out
    exact ⟨m - a, b - m, pre, U, V, post, rfl, rfl, by omega, by omega, by omega, by omega, by omega, by omega, by omega, hl, HT.out.symm, S0.out⟩
  case round =>
    clear S0
    obtain ⟨i, j, p, u, v, q, rfl, rfl, hi0, hj0, him, hjm, S1⟩ := hrel
    by_cases heq : i = j
    · subst heq
      go_wp2_with ((with_reducible refine (swapRange_int blk off cap N w0 _ d0 R0.out.1 R0.out.2 (by omega) cv p u [] v q _ _ _ (by have := S1.out; omega) (by have := S1.out; simp; omega) (by have := S1.out; omega) (by have := S1.out; omega) (by have := S1.out; simp; omega) (by have := S1.out.2.2.2.2.2; simpa using this)).mono ?_); rintro e w' ⟨rfl, hS⟩; have HS : Aside (SL w0 blk off (p ++ v ++ [] ++ u ++ q) w') := hS; clear hS)
      go_end0
      exact ⟨rfl, by have h := HS.out; have e := S1.out.2.2.2.2.1; simp at h e; rw [← e]; simpa using h⟩
    · by_cases hgt : j < i
      · obtain ⟨u1, u2, eu, lu⟩ : ∃ u1 u2, u = u1 ++ u2 ∧ (u1.length : Int) = j := ⟨u.take j.toNat, u.drop j.toNat, (List.take_append_drop _ _).symm, by have := S1.out; rw [List.length_take]; omega⟩
        subst eu
        have S2 : Aside (m = (p.length : Int) + i ∧ (u2.length : Int) = i - j ∧ (u1.length : Int) = j ∧ (v.length : Int) = j ∧ p.length + u1.length + u2.length + v.length + q.length = N ∧ p ++ v ++ u1 ++ u2 ++ q = T ∧ SL w0 blk off (p ++ u1 ++ u2 ++ v ++ q) wr) := by
          obtain ⟨x1, x2, x3, x4, x5, x6⟩ := S1.out
          simp only [List.length_append] at x2 x4
          exact ⟨x1, by omega, lu, x3, by omega, by simpa using x5, by simpa using x6⟩
        clear S1 lu
        go_wp2_with ((with_reducible refine (swapRange_int blk off cap N w0 _ d0 R0.out.1 R0.out.2 (by omega) cv p u1 u2 v q _ _ _ (by have := S2.out; omega) (by have := S2.out; omega) (by have := S2.out; omega) (by have := S2.out; omega) (by have := S2.out; omega) S2.out.2.2.2.2.2.2).mono ?_); rintro e w' ⟨rfl, hS⟩; have HS : Aside (SL w0 blk off (p ++ v ++ u2 ++ u1 ++ q) w') := hS; clear hS)
        go_roundw
        case rel => exact ⟨i - j, j, p ++ v, u2, u1, q, rfl, rfl, by omega, by omega, by omega, by omega, by obtain ⟨x1, x2, x3, x4, x5, x6, x7⟩ := S2.out; exact ⟨by simp; omega, by omega, by omega, by simp; omega, by simpa using x6, HS.out⟩⟩
        case measure => simp [intOf]; omega
      · obtain ⟨v1, v2, ev, lv⟩ : ∃ u1 u2, v = u1 ++ u2 ∧ (u1.length : Int) = j - i := ⟨v.take (j - i).toNat, v.drop (j - i).toNat, (List.take_append_drop _ _).symm, by have := S1.out; rw [List.length_take]; omega⟩
        subst ev
        have S2 : Aside (m = (p.length : Int) + i ∧ (v1.length : Int) = j - i ∧ (v2.length : Int) = i ∧ (u.length : Int) = i ∧ p.length + u.length + v1.length + v2.length + q.length = N ∧ p ++ v1 ++ v2 ++ u ++ q = T ∧ SL w0 blk off (p ++ u ++ v1 ++ v2 ++ q) wr) := by
          obtain ⟨x1, x2, x3, x4, x5, x6⟩ := S1.out
          simp only [List.length_append] at x3 x4
          exact ⟨x1, lv, by omega, x2, by omega, by simpa using x5, by simpa using x6⟩
        clear S1 lv
        have hij : i < j := by omega
        go_wp2_with ((with_reducible refine (swapRange_int blk off cap N w0 _ d0 R0.out.1 R0.out.2 (by omega) cv p u v1 v2 q _ _ _ (by have := S2.out; omega) (by have := S2.out; omega) (by have := S2.out; omega) (by have := S2.out; omega) (by have := S2.out; omega) S2.out.2.2.2.2.2.2).mono ?_); rintro e w' ⟨rfl, hS⟩; have HS : Aside (SL w0 blk off (p ++ v2 ++ v1 ++ u ++ q) w') := hS; clear hS)
        go_roundw
        case rel => exact ⟨i, j - i, p, v2, v1, u ++ q, rfl, rfl, by omega, by omega, by omega, by omega, by obtain ⟨x1, x2, x3, x4, x5, x6, x7⟩ := S2.out; exact ⟨by omega, by omega, by omega, by simp; omega, by simpa using x6, by simpa using HS.out⟩⟩
        case measure => simp [intOf]; omega
end Go.Proofs.Ytmldhpnkkkmloaa.SortW

namespace Go.Proofs.Ytmldhpnkkkmloaa.SortW
open Go.Sort Go.RowKit Go.Proofs Go.Proofs.Ytmldhpnkkkmloaa.SortM
set_option linter.unusedVariables false
set_option linter.unusedSimpArgs false

/-- The comparison of two places, in whatever world of the sort's. -/
def CmpAt (w0 : World) (blk off N : Nat) (bx : Addr) (cf : Int → Int → Int) (ok : Int → Prop) : Prop :=
  ∀ (l : List Int) (W : World), l.length = N → SL w0 blk off l W → ∀ x y, ok x → ok y →
    Calls Try.prog 26 #[.int .i64 x, .int .i64 y, .pointer (some bx)] W fun e w' => e = .returned (.int .i64 (cf x y)) ∧ ∃ q, w' = W.drewN q

def Merged (w0 : World) (blk off : Nat) (Rel : Int → Int → Prop) (pre L Rr post : List Int) (e : Ending) (w' : World) : Prop :=
  e = .returned (.tuple #[]) ∧ ∃ M, M.Perm (L ++ Rr) ∧ M.Pairwise Rel ∧ SL w0 blk off (pre ++ M ++ post) w'

theorem SL.at {w0 W : World} {blk off : Nat} {d0 : Array Int} (R : Row1 enc w0 blk off d0) (l : List Int) (h : SL w0 blk off l W) (hs : l.length = d0.size) (i : Nat) (hi : i < l.length) :
    W.cell? ⟨blk, off + i, none⟩ = some (.int .i64 l[i]!) := by
  have := h.c1 R (by simpa using hs) i (by simpa using hi)
  simpa using this

set_option maxHeartbeats 4000000 in
set_option maxRecDepth 100000 in
/-- The left part is one element. -/
theorem symMerge_left (blk off cap N : Nat) (w0 : World) (d0 : Array Int) (bx : Addr) (cf : Int → Int → Int) (ok : Int → Prop) (Rel : Int → Int → Prop) (hO : Ord Rel) (R : Row1 enc w0 blk off d0) (hd0 : d0.size = N) (hN : N ≤ 1000000) (hC : CmpAt w0 blk off N bx cf ok)
    (pre Rr post : List Int) (x : Int) (a m b : Int) (w : World) (ha : a = pre.length) (hm : m = pre.length + 1) (hb : b = pre.length + 1 + Rr.length) (hr : 0 < Rr.length) (hl : pre.length + 1 + Rr.length + post.length = N)
    (hRs : Rr.Pairwise Rel) (hX : Cross cf Rel [x] Rr) (hk : ∀ y ∈ x :: Rr, ok y) (S : SL w0 blk off (pre ++ [x] ++ Rr ++ post) w) :
    Calls Try.prog 51 #[.slice (some ⟨blk, off, none⟩) N cap, .int .i64 a, .int .i64 m, .int .i64 b, .func (.func 26) #[] #[.pointer (some bx)]] w (Merged w0 blk off Rel pre [x] Rr post) := by
  obtain ⟨l, el⟩ : ∃ l, l = pre ++ [x] ++ Rr ++ post := ⟨_, rfl⟩
  have S0 : Aside (SL w0 blk off l w) := by rw [el]; exact S
  clear S
  have hll : l.length = N := by rw [el]; simp; omega
  have hla : l[pre.length]! = x := by rw [el]; simp
  have hlr : ∀ q : Nat, q < Rr.length → l[pre.length + 1 + q]! = Rr[q]! := by
    intro q hq; rw [el]; have := at_mid (pre ++ [x]) Rr post q hq; simpa using this
  have b1 : (0 : Int) ≤ a := by omega
  have b2 : m = a + 1 := by omega
  have b3 : m < b := by omega
  have b4 : b ≤ (N : Int) := by omega
  have b5 : (N : Int) ≤ 1000000 := by omega
  have F : Aside (a = (pre.length : Int) ∧ b = (pre.length : Int) + 1 + Rr.length ∧ 0 < Rr.length ∧ pre.length + 1 + Rr.length + post.length = N ∧ l = pre ++ [x] ++ Rr ++ post ∧ l.length = N ∧ l[pre.length]! = x ∧ (∀ q : Nat, q < Rr.length → l[pre.length + 1 + q]! = Rr[q]!)) := ⟨ha, hb, hr, hl, el, hll, hla, hlr⟩
  have G : Aside (Ord Rel ∧ Row1 enc w0 blk off d0 ∧ d0.size = N ∧ CmpAt w0 blk off N bx cf ok ∧ Rr.Pairwise Rel ∧ Cross cf Rel [x] Rr ∧ (∀ y ∈ x :: Rr, ok y)) := ⟨hO, R, hd0, hC, hRs, hX, hk⟩
  clear hO R hd0 hC hRs hX hk ha hb hr hl el hll hla hlr hm
  subst b2
  have hone : a + 1 - a = 1 := by omega
  go_enter Try.func51, Try.ntmps51
  go_wp2
  go_loopw [10, 11] (fun vi vj wr => ∃ i j : Int, vi = .int .i64 i ∧ vj = .int .i64 j ∧ a + 1 ≤ i ∧ i ≤ j ∧ j ≤ b ∧ Aside ((a + 1 < i → Rel l[(i - 1).toNat]! x) ∧ (j < b → Rel x l[j.toNat]!) ∧ SL w0 blk off l wr)) (fun vi vj _ => (intOf vj - intOf vi).toNat)
  case atStart => exact ⟨a + 1, b, rfl, rfl, by omega, by omega, by omega, fun h => by omega, fun h => by omega, S0.out⟩
  case round =>
    clear S0
    obtain ⟨i, j, rfl, rfl, hi, hij, hj, S1⟩ := hrel
    by_cases hlt : i < j
    · go_wp2_with fail
      generalize hh : (i + j) / 2 = h
      have h1 : i ≤ h := by omega
      have h2 : h < j := by omega
      have h3 : (0 : Int) ≤ h := by omega
      have h4 : h < (N : Int) := by omega
      have h5 : a < (N : Int) := by omega
      obtain ⟨y, hy⟩ : ∃ y, y = l[h.toNat]! := ⟨_, rfl⟩
      have Y : Aside (ok x ∧ ok y ∧ (cf y x < 0 → Rel y x) ∧ (¬ cf y x < 0 → Rel x y) ∧ y = l[h.toNat]!) := by
        obtain ⟨ha, hb, hr, hl, el, hll, hla, hlr⟩ := F.out
        obtain ⟨hO, R, hd0, hC, hRs, hX, hk⟩ := G.out
        have e1 : y = Rr[h.toNat - (pre.length + 1)]! := by
          rw [← hlr _ (by omega), hy]; congr 1; omega
        have hm : y ∈ Rr := by rw [e1]; rw [List.getElem!_eq_getElem?_getD, List.getElem?_eq_getElem (by omega)]; exact List.getElem_mem _
        exact ⟨hk x (by simp), hk y (by simp [hm]), (hX x (by simp) y hm).1, (hX x (by simp) y hm).2, hy⟩
      have c1 : wr.cell? ⟨blk, off + h.toNat, none⟩ = some (.int .i64 y) := by
        rw [hy]; exact SL.at G.out.2.1 l S1.out.2.2 (by have := F.out.2.2.2.2.2.1; have := G.out.2.2.1; omega) _ (by have := F.out.2.2.2.2.2.1; omega)
      have c2 : wr.cell? ⟨blk, off + a.toNat, none⟩ = some (.int .i64 x) := by
        obtain ⟨ha, hb, hr, hl, el, hll, hla, hlr⟩ := F.out
        have := SL.at G.out.2.1 l S1.out.2.2 (by have := G.out.2.2.1; omega) a.toNat (by omega)
        rw [show a.toNat = pre.length by omega, hla] at this
        rw [show a.toNat = pre.length by omega]; exact this
      have HC : Aside (∀ q : Nat, Calls Try.prog 26 #[.int .i64 y, .int .i64 x, .pointer (some bx)] (wr.drewN q) fun e w' => e = .returned (.int .i64 (cf y x)) ∧ ∃ q', w' = (wr.drewN q).drewN q') :=
        fun q => G.out.2.2.2.1 l (wr.drewN q) (by have := F.out.2.2.2.2.2.1; omega) (S1.out.2.2.drewN q) y x Y.out.2.1 Y.out.1
      clear hy hh
      obtain ⟨c, hcv⟩ : ∃ c, c = cf y x := ⟨_, rfl⟩
      rw [← hcv] at HC
      have HV : Aside (c = cf y x) := hcv
      clear hcv
      by_cases hneg : c < 0
      · have hd : decide (c < 0) = true := decide_eq_true hneg
        go_quiet (exact Calls.quiet_of (HC.out _))
        clear c1 c2 HC
        go_wp2_with fail
        go_roundw
        case rel => exact ⟨h + 1, j, rfl, rfl, by omega, by omega, by omega, fun _ => by rw [show h + 1 - 1 = h by omega, ← Y.out.2.2.2.2]; exact Y.out.2.2.1 (by rw [← HV.out]; exact hneg), S1.out.2.1, S1.out.2.2.drewN _⟩
        case measure => simp [intOf]; omega
      · have hd : decide (c < 0) = false := decide_eq_false hneg
        go_quiet (exact Calls.quiet_of (HC.out _))
        clear c1 c2 HC
        go_wp2_with fail
        go_roundw
        case rel => exact ⟨i, h, rfl, rfl, by omega, by omega, by omega, S1.out.1, fun _ => by rw [← Y.out.2.2.2.2]; exact Y.out.2.2.2.1 (by rw [← HV.out]; exact hneg), S1.out.2.2.drewN _⟩
        case measure => simp [intOf]; omega
    · obtain rfl : i = j := by omega
      have D : Aside (∃ r1 r2 : List Int, Rr = r1 ++ r2 ∧ (r1.length : Int) = i - (a + 1) ∧ (r1 ++ x :: r2).Perm ([x] ++ (r1 ++ r2)) ∧ (r1 ++ x :: r2).Pairwise Rel ∧ SL w0 blk off (pre ++ [x] ++ r1 ++ r2 ++ post) wr) := by
        obtain ⟨ha, hb, hr, hl, el, hll, hla, hlr⟩ := F.out
        obtain ⟨hO, R, hd0, hC, hRs, hX, hk⟩ := G.out
        obtain ⟨r1, r2, e, l1, p1, p2⟩ := cut Rr (i - (a + 1)).toNat (by omega)
        subst e
        obtain ⟨q1, q2⟩ := insert_left hO x r1 r2 hRs
          (fun y hy => by
            obtain ⟨z1, z2⟩ := p1 y hy
            have := S1.out.1 (by omega)
            rw [show (i - 1).toNat = pre.length + 1 + ((i - (a + 1)).toNat - 1) by omega, hlr _ (by omega)] at this
            rw [z2]; exact this)
          (fun y hy => by
            obtain ⟨z1, z2⟩ := p2 y hy
            have := S1.out.2.1 (by omega)
            rw [show i.toNat = pre.length + 1 + ((i - (a + 1)).toNat) by omega, hlr _ (by omega)] at this
            rw [z2]; exact this)
        exact ⟨r1, r2, rfl, by omega, q1, q2, by have h := S1.out.2.2; rw [el] at h; simpa using h⟩
      clear S1 hlt hij
      obtain ⟨r1, r2, er, lr, hp, hs, S2⟩ := D.out
      subst er
      have S3 : Aside ((r1.length : Int) = i - (a + 1) ∧ (r1 ++ x :: r2).Perm ([x] ++ (r1 ++ r2)) ∧ (r1 ++ x :: r2).Pairwise Rel ∧ SL w0 blk off (pre ++ [x] ++ r1 ++ r2 ++ post) wr) := ⟨lr, hp, hs, S2⟩
      clear D lr hp hs S2
      go_wp2_with fail
      go_loopw [13] (fun vk wr => ∃ (k : Int) (ra rb : List Int), vk = .int .i64 k ∧ a ≤ k ∧ k ≤ i - 1 ∧ Aside (r1 = ra ++ rb ∧ (ra.length : Int) = k - a ∧ SL w0 blk off (pre ++ ra ++ [x] ++ rb ++ r2 ++ post) wr)) (fun vk _ => (i - intOf vk).toNat)
      case atStart => exact ⟨a, [], r1, rfl, by omega, by omega, rfl, by simp, by have := S3.out.2.2.2; simpa using this⟩
      case round =>
        obtain ⟨k, ra, rb, rfl, hka, hki, S4⟩ := hrel
        by_cases hlt : k < i - 1
        · obtain ⟨y, rb2, erb⟩ : ∃ y rb2, rb = y :: rb2 := by
            obtain ⟨e1, e2, e3⟩ := S4.out
            cases rb with
            | nil => have := S3.out.1; rw [e1] at this; simp at this; omega
            | cons y rb2 => exact ⟨y, rb2, rfl⟩
          subst erb
          obtain ⟨iN, hiN⟩ : ∃ q, q = k.toNat := ⟨_, rfl⟩
          obtain ⟨jN, hjN⟩ : ∃ q, q = (k + 1).toNat := ⟨_, rfl⟩
          have S5 : Aside (SL w0 blk off ((pre ++ ra) ++ x :: ([] ++ y :: (rb2 ++ r2 ++ post))) wr) := by show SL _ _ _ _ _; have := S4.out.2.2; simpa using this
          have P : Aside (iN = (pre ++ ra).length ∧ jN = (pre ++ ra).length + 1 + ([] : List Int).length ∧ ((pre ++ ra) ++ x :: ([] ++ y :: (rb2 ++ r2 ++ post))).toArray.size = d0.size ∧ jN < d0.size ∧ iN < d0.size) := by
            obtain ⟨ha, hb, hr, hl, el, hll, hla, hlr⟩ := F.out
            obtain ⟨e1, e2, e3⟩ := S4.out
            have h0 := G.out.2.2.1
            have h9 := S3.out.1
            rw [e1] at h9 hl
            simp at h9 hl
            exact ⟨by simp; omega, by simp; omega, by simp; omega, by omega, by omega⟩
          have S6 : Aside (SL w0 blk off ((pre ++ ra) ++ y :: ([] ++ x :: (rb2 ++ r2 ++ post))) ((wr.setCell ⟨blk, off + iN, none⟩ (enc y)).setCell ⟨blk, off + jN, none⟩ (enc x)).drew) :=
            SL.swap G.out.2.1 _ _ _ x y S5.out iN jN P.out.1 P.out.2.1
          have c1 := S5.out.c1 G.out.2.1 P.out.2.2.1 iN (by have := P.out.2.2; omega)
          have c2 := S5.out.c1 G.out.2.1 P.out.2.2.1 jN (by have := P.out.2.2; omega)
          have f1 := S5.out.f1 G.out.2.1 P.out.2.2.1 iN (by have := P.out.2.2; omega)
          have f2 := S5.out.f1 G.out.2.1 P.out.2.2.1 jN (by have := P.out.2.2; omega)
          obtain ⟨u, c3⟩ := S5.out.c2 G.out.2.1 P.out.2.2.1 iN jN (by have := P.out.2.2; omega) (by have := P.out.2.2; omega) (enc y)
          rw [at_list _ _ x iN P.out.1] at c1
          rw [show (pre ++ ra) ++ x :: ([] ++ y :: (rb2 ++ r2 ++ post)) = ((pre ++ ra) ++ x :: []) ++ y :: (rb2 ++ r2 ++ post) by simp, at_list _ _ y jN (by have := P.out.2.1; simp at this; simp; omega)] at c2
          have pa : (0 : Int) ≤ k := by omega
          have ba : k < (N : Int) := by omega
          have bc : k + 1 < (N : Int) := by omega
          have rc : IntKind.i64.wrap (k + 1) = k + 1 := by rw [IntKind.wrap_i64]; omega
          clear S5 P
          have ea : k.toNat = iN := hiN.symm
          have ec : (k + 1).toNat = jN := hjN.symm
          clear hiN hjN
          go_wp2_with fail
          go_region
          clear c1 c2 c3 f1 f2 ea ec pa ba bc rc
          generalize ((wr.setCell ⟨blk, off + iN, none⟩ (enc y)).setCell ⟨blk, off + jN, none⟩ (enc x)).drew = w3 at S6 ⊢
          go_wp2_with fail
          go_roundw
          case rel => exact ⟨k + 1, ra ++ [y], rb2, rfl, by omega, by omega, by have := S4.out.1; simpa using this, by have := S4.out.2.1; simp; omega, by have := S6.out; simpa using this⟩
          case measure => simp [intOf]; omega
        · have hb0 : rb = [] := by
            obtain ⟨e1, e2, e3⟩ := S4.out
            have := S3.out.1; rw [e1] at this; simp at this
            exact List.length_eq_zero_iff.1 (by omega)
          subst hb0
          go_wp2_with fail
          go_end0
          refine ⟨rfl, r1 ++ x :: r2, S3.out.2.1, S3.out.2.2.1, ?_⟩
          obtain ⟨e1, e2, e3⟩ := S4.out
          rw [e1]
          simpa using e3
end Go.Proofs.Ytmldhpnkkkmloaa.SortW

namespace Go.Proofs.Ytmldhpnkkkmloaa.SortW
open Go.Sort Go.RowKit Go.Proofs Go.Proofs.Ytmldhpnkkkmloaa.SortM
set_option linter.unusedVariables false
set_option linter.unusedSimpArgs false

theorem SL.swap' {w0 W : World} {blk off : Nat} {d0 : Array Int} (R : Row1 enc w0 blk off d0) (p q r : List Int) (x y : Int) (h : SL w0 blk off (p ++ x :: (q ++ y :: r)) W) (i j : Nat) (hi : i = p.length + 1 + q.length) (hj : j = p.length) :
    SL w0 blk off (p ++ y :: (q ++ x :: r)) ((W.setCell ⟨blk, off + i, none⟩ (enc x)).setCell ⟨blk, off + j, none⟩ (enc y)).drew := by
  have hs := h.swapped R i j (by subst hi; simp; omega) (by subst hj; simp)
  have ex : (p ++ x :: (q ++ y :: r)).toArray[j]! = x := at_list p _ x j hj
  have ey : (p ++ x :: (q ++ y :: r)).toArray[i]! = y := by
    have := at_list (p ++ x :: q) r y i (by simp; omega)
    simpa using this
  rw [ex, ey, swp_list' p q r x y i j hi hj] at hs
  exact hs

set_option maxHeartbeats 4000000 in
set_option maxRecDepth 100000 in
/-- The right part is one element. -/
theorem symMerge_right (blk off cap N : Nat) (w0 : World) (d0 : Array Int) (bx : Addr) (cf : Int → Int → Int) (ok : Int → Prop) (Rel : Int → Int → Prop) (hO : Ord Rel) (R : Row1 enc w0 blk off d0) (hd0 : d0.size = N) (hN : N ≤ 1000000) (hC : CmpAt w0 blk off N bx cf ok)
    (pre L post : List Int) (x : Int) (a m b : Int) (w : World) (ha : a = pre.length) (hm : m = pre.length + L.length) (hb : b = pre.length + L.length + 1) (hr : 1 < L.length) (hl : pre.length + L.length + 1 + post.length = N)
    (hRs : L.Pairwise Rel) (hX : Cross cf Rel L [x]) (hk : ∀ y ∈ x :: L, ok y) (S : SL w0 blk off (pre ++ L ++ [x] ++ post) w) :
    Calls Try.prog 51 #[.slice (some ⟨blk, off, none⟩) N cap, .int .i64 a, .int .i64 m, .int .i64 b, .func (.func 26) #[] #[.pointer (some bx)]] w (Merged w0 blk off Rel pre L [x] post) := by
  obtain ⟨l, el⟩ : ∃ l, l = pre ++ L ++ [x] ++ post := ⟨_, rfl⟩
  have S0 : Aside (SL w0 blk off l w) := by rw [el]; exact S
  clear S
  have hll : l.length = N := by rw [el]; simp; omega
  have hla : l[pre.length + L.length]! = x := by
    rw [el]; simp
  have hlr : ∀ q : Nat, q < L.length → l[pre.length + q]! = L[q]! := by
    intro q hq; rw [el]; have := at_mid pre L ([x] ++ post) q hq; simpa using this
  have b1 : (0 : Int) ≤ a := by omega
  have b2 : b = m + 1 := by omega
  have b3 : a + 1 < m := by omega
  have b4 : m < (N : Int) := by omega
  have b5 : (N : Int) ≤ 1000000 := by omega
  have F : Aside (a = (pre.length : Int) ∧ m = (pre.length : Int) + L.length ∧ 0 < L.length ∧ pre.length + L.length + 1 + post.length = N ∧ l = pre ++ L ++ [x] ++ post ∧ l.length = N ∧ l[pre.length + L.length]! = x ∧ (∀ q : Nat, q < L.length → l[pre.length + q]! = L[q]!)) := ⟨ha, hm, by omega, hl, el, hll, hla, hlr⟩
  have G : Aside (Ord Rel ∧ Row1 enc w0 blk off d0 ∧ d0.size = N ∧ CmpAt w0 blk off N bx cf ok ∧ L.Pairwise Rel ∧ Cross cf Rel L [x] ∧ (∀ y ∈ x :: L, ok y)) := ⟨hO, R, hd0, hC, hRs, hX, hk⟩
  clear hO R hd0 hC hRs hX hk ha hm hb hr hl el hll hla hlr
  subst b2
  have hone : decide (m - a = 1) = false := decide_eq_false (by omega)
  have hone' : ¬ m - a = 1 := by omega
  have hone2 : m + 1 - m = 1 := by omega
  go_enter Try.func51, Try.ntmps51
  go_wp2_with fail
  go_loopw [14, 15] (fun vi vj wr => ∃ i j : Int, vi = .int .i64 i ∧ vj = .int .i64 j ∧ a ≤ i ∧ i ≤ j ∧ j ≤ m ∧ Aside ((a < i → Rel l[(i - 1).toNat]! x) ∧ (j < m → Rel x l[j.toNat]!) ∧ SL w0 blk off l wr)) (fun vi vj _ => (intOf vj - intOf vi).toNat)
  case atStart => exact ⟨a, m, rfl, rfl, by omega, by omega, by omega, fun h => by omega, fun h => by omega, S0.out⟩
  case round =>
    clear S0
    obtain ⟨i, j, rfl, rfl, hi, hij, hj, S1⟩ := hrel
    by_cases hlt : i < j
    · go_wp2_with fail
      generalize hh : (i + j) / 2 = h
      have h1 : i ≤ h := by omega
      have h2 : h < j := by omega
      have h3 : (0 : Int) ≤ h := by omega
      have h4 : h < (N : Int) := by omega
      have h5 : (0 : Int) ≤ m := by omega
      obtain ⟨y, hy⟩ : ∃ y, y = l[h.toNat]! := ⟨_, rfl⟩
      have Y : Aside (ok x ∧ ok y ∧ (cf x y < 0 → Rel x y) ∧ (¬ cf x y < 0 → Rel y x) ∧ y = l[h.toNat]!) := by
        obtain ⟨ha, hb, hr, hl, el, hll, hla, hlr⟩ := F.out
        obtain ⟨hO, R, hd0, hC, hRs, hX, hk⟩ := G.out
        have e1 : y = L[h.toNat - pre.length]! := by
          rw [← hlr _ (by omega), hy]; congr 1; omega
        have hm : y ∈ L := by rw [e1]; rw [List.getElem!_eq_getElem?_getD, List.getElem?_eq_getElem (by omega)]; exact List.getElem_mem _
        exact ⟨hk x (by simp), hk y (by simp [hm]), (hX y hm x (by simp)).1, (hX y hm x (by simp)).2, hy⟩
      have c1 : wr.cell? ⟨blk, off + h.toNat, none⟩ = some (.int .i64 y) := by
        rw [hy]; exact SL.at G.out.2.1 l S1.out.2.2 (by have := F.out.2.2.2.2.2.1; have := G.out.2.2.1; omega) _ (by have := F.out.2.2.2.2.2.1; omega)
      have c2 : wr.cell? ⟨blk, off + m.toNat, none⟩ = some (.int .i64 x) := by
        obtain ⟨ha, hb, hr, hl, el, hll, hla, hlr⟩ := F.out
        have := SL.at G.out.2.1 l S1.out.2.2 (by have := G.out.2.2.1; omega) m.toNat (by omega)
        rw [show m.toNat = pre.length + L.length by omega, hla] at this
        rw [show m.toNat = pre.length + L.length by omega]; exact this
      have HC : Aside (∀ q : Nat, Calls Try.prog 26 #[.int .i64 x, .int .i64 y, .pointer (some bx)] (wr.drewN q) fun e w' => e = .returned (.int .i64 (cf x y)) ∧ ∃ q', w' = (wr.drewN q).drewN q') :=
        fun q => G.out.2.2.2.1 l (wr.drewN q) (by have := F.out.2.2.2.2.2.1; omega) (S1.out.2.2.drewN q) x y Y.out.1 Y.out.2.1
      clear hy hh
      obtain ⟨c, hcv⟩ : ∃ c, c = cf x y := ⟨_, rfl⟩
      rw [← hcv] at HC
      have HV : Aside (c = cf x y) := hcv
      clear hcv
      by_cases hneg : c < 0
      · have hd : decide (c < 0) = true := decide_eq_true hneg
        go_quiet (exact Calls.quiet_of (HC.out _))
        clear c1 c2 HC
        go_wp2_with fail
        go_roundw
        case rel => exact ⟨i, h, rfl, rfl, by omega, by omega, by omega, S1.out.1, fun _ => by rw [← Y.out.2.2.2.2]; exact Y.out.2.2.1 (by rw [← HV.out]; exact hneg), S1.out.2.2.drewN _⟩
        case measure => simp [intOf]; omega
      · have hd : decide (c < 0) = false := decide_eq_false hneg
        go_quiet (exact Calls.quiet_of (HC.out _))
        clear c1 c2 HC
        go_wp2_with fail
        go_roundw
        case rel => exact ⟨h + 1, j, rfl, rfl, by omega, by omega, by omega, fun _ => by rw [show h + 1 - 1 = h by omega, ← Y.out.2.2.2.2]; exact Y.out.2.2.2.1 (by rw [← HV.out]; exact hneg), S1.out.2.1, S1.out.2.2.drewN _⟩
        case measure => simp [intOf]; omega
    · obtain rfl : i = j := by omega
      have D : Aside (∃ r1 r2 : List Int, L = r1 ++ r2 ∧ (r1.length : Int) = i - a ∧ (r1 ++ x :: r2).Perm ((r1 ++ r2) ++ [x]) ∧ (r1 ++ x :: r2).Pairwise Rel ∧ SL w0 blk off (pre ++ r1 ++ r2 ++ [x] ++ post) wr) := by
        obtain ⟨ha, hb, hr, hl, el, hll, hla, hlr⟩ := F.out
        obtain ⟨hO, R, hd0, hC, hRs, hX, hk⟩ := G.out
        obtain ⟨r1, r2, e, l1, p1, p2⟩ := cut L (i - a).toNat (by omega)
        subst e
        obtain ⟨q1, q2⟩ := insert_right hO x r1 r2 hRs
          (fun y hy => by
            obtain ⟨z1, z2⟩ := p1 y hy
            have := S1.out.1 (by omega)
            rw [show (i - 1).toNat = pre.length + ((i - a).toNat - 1) by omega, hlr _ (by omega)] at this
            rw [z2]; exact this)
          (fun y hy => by
            obtain ⟨z1, z2⟩ := p2 y hy
            have := S1.out.2.1 (by omega)
            rw [show i.toNat = pre.length + ((i - a).toNat) by omega, hlr _ (by omega)] at this
            rw [z2]; exact this)
        exact ⟨r1, r2, rfl, by omega, q1, q2, by have h := S1.out.2.2; rw [el] at h; simpa using h⟩
      clear S1 hlt hij
      obtain ⟨r1, r2, er, lr, hp, hs, S2⟩ := D.out
      subst er
      have S3 : Aside ((r1.length : Int) = i - a ∧ (r1 ++ x :: r2).Perm ((r1 ++ r2) ++ [x]) ∧ (r1 ++ x :: r2).Pairwise Rel ∧ SL w0 blk off (pre ++ r1 ++ r2 ++ [x] ++ post) wr) := ⟨lr, hp, hs, S2⟩
      clear D lr hp hs S2
      go_wp2_with fail
      go_loopw [17] (fun vk wr => ∃ (k : Int) (ra rb : List Int), vk = .int .i64 k ∧ k ≤ m ∧ i ≤ k ∧ Aside (r2 = ra ++ rb ∧ (ra.length : Int) = k - i ∧ SL w0 blk off (pre ++ r1 ++ ra ++ [x] ++ rb ++ post) wr)) (fun vk _ => (intOf vk - i).toNat)
      case atStart => exact ⟨m, r2, [], rfl, by omega, by omega, by simp, by have h1 := S3.out.1; have h2 := F.out.1; have h3 := F.out.2.1; simp at h3; omega, by have := S3.out.2.2.2; simpa using this⟩
      case round =>
        obtain ⟨k, ra, rb, rfl, hka, hki, S4⟩ := hrel
        by_cases hlt : i < k
        · obtain ⟨ra2, y, erb⟩ : ∃ ra2 y, ra = ra2 ++ [y] := by
            obtain ⟨e1, e2, e3⟩ := S4.out
            exact ⟨ra.dropLast, ra.getLast (by intro e; rw [e] at e2; simp at e2; omega), (List.dropLast_concat_getLast _).symm⟩
          subst erb
          obtain ⟨iN, hiN⟩ : ∃ q, q = k.toNat := ⟨_, rfl⟩
          obtain ⟨jN, hjN⟩ : ∃ q, q = (k - 1).toNat := ⟨_, rfl⟩
          have S5 : Aside (SL w0 blk off ((pre ++ r1 ++ ra2) ++ y :: ([] ++ x :: (rb ++ post))) wr) := by show SL _ _ _ _ _; have := S4.out.2.2; simpa using this
          have P : Aside (iN = (pre ++ r1 ++ ra2).length + 1 + ([] : List Int).length ∧ jN = (pre ++ r1 ++ ra2).length ∧ ((pre ++ r1 ++ ra2) ++ y :: ([] ++ x :: (rb ++ post))).toArray.size = d0.size ∧ jN < d0.size ∧ iN < d0.size) := by
            obtain ⟨ha, hb, hr, hl, el, hll, hla, hlr⟩ := F.out
            obtain ⟨e1, e2, e3⟩ := S4.out
            have h0 := G.out.2.2.1
            have h9 := S3.out.1
            rw [e1] at hl
            simp at h9 hl e2
            exact ⟨by simp; omega, by simp; omega, by simp; omega, by omega, by omega⟩
          have S6 : Aside (SL w0 blk off ((pre ++ r1 ++ ra2) ++ x :: ([] ++ y :: (rb ++ post))) ((wr.setCell ⟨blk, off + iN, none⟩ (enc y)).setCell ⟨blk, off + jN, none⟩ (enc x)).drew) :=
            SL.swap' G.out.2.1 _ _ _ y x S5.out iN jN P.out.1 P.out.2.1
          have c1 := S5.out.c1 G.out.2.1 P.out.2.2.1 iN (by have := P.out.2.2; omega)
          have c2 := S5.out.c1 G.out.2.1 P.out.2.2.1 jN (by have := P.out.2.2; omega)
          have f1 := S5.out.f1 G.out.2.1 P.out.2.2.1 iN (by have := P.out.2.2; omega)
          have f2 := S5.out.f1 G.out.2.1 P.out.2.2.1 jN (by have := P.out.2.2; omega)
          obtain ⟨u, c3⟩ := S5.out.c2 G.out.2.1 P.out.2.2.1 iN jN (by have := P.out.2.2; omega) (by have := P.out.2.2; omega) (enc y)
          rw [at_list _ _ y jN P.out.2.1] at c2
          rw [show (pre ++ r1 ++ ra2) ++ y :: ([] ++ x :: (rb ++ post)) = ((pre ++ r1 ++ ra2) ++ y :: []) ++ x :: (rb ++ post) by simp, at_list _ _ x iN (by have := P.out.1; simp at this; simp; omega)] at c1
          have pa : (0 : Int) ≤ k - 1 := by omega
          have pk : (0 : Int) ≤ k := by omega
          have ba : k < (N : Int) := by omega
          have bc : k - 1 < (N : Int) := by omega
          have rc : IntKind.i64.wrap (k - 1) = k - 1 := by rw [IntKind.wrap_i64]; omega
          clear S5 P
          have ea : k.toNat = iN := hiN.symm
          have ec : (k - 1).toNat = jN := hjN.symm
          clear hiN hjN
          go_wp2_with fail
          go_region
          clear c1 c2 c3 f1 f2 ea ec pa ba bc rc
          generalize ((wr.setCell ⟨blk, off + iN, none⟩ (enc y)).setCell ⟨blk, off + jN, none⟩ (enc x)).drew = w3 at S6 ⊢
          go_wp2_with fail
          go_roundw
          case rel => exact ⟨k - 1, ra2, y :: rb, rfl, by omega, by omega, by have := S4.out.1; simpa using this, by have := S4.out.2.1; simp at this; omega, by have := S6.out; simpa using this⟩
          case measure => simp [intOf]; omega
        · have hb0 : ra = [] := by
            obtain ⟨e1, e2, e3⟩ := S4.out
            exact List.length_eq_zero_iff.1 (by omega)
          subst hb0
          go_wp2_with fail
          go_end0
          refine ⟨rfl, r1 ++ x :: r2, S3.out.2.1, S3.out.2.2.1, ?_⟩
          obtain ⟨e1, e2, e3⟩ := S4.out
          rw [e1]
          simpa using e3
end Go.Proofs.Ytmldhpnkkkmloaa.SortW

namespace Go.Proofs.Ytmldhpnkkkmloaa.SortW
open Go.Sort Go.RowKit Go.Proofs Go.Proofs.Ytmldhpnkkkmloaa.SortM
set_option linter.unusedVariables false
set_option linter.unusedSimpArgs false

/-- The claim for all pairs of parts that are together shorter than k. -/
def SymOK (blk off cap N : Nat) (w0 : World) (bx : Addr) (cf : Int → Int → Int) (ok : Int → Prop) (Rel : Int → Int → Prop) (k : Nat) : Prop :=
  ∀ (pre L Rr post : List Int) (a m b : Int) (w : World), L.length + Rr.length < k → a = pre.length → m = pre.length + L.length → b = pre.length + L.length + Rr.length → 0 < L.length → 0 < Rr.length → pre.length + L.length + Rr.length + post.length = N →
    L.Pairwise Rel → Rr.Pairwise Rel → Cross cf Rel L Rr → (∀ y ∈ L ++ Rr, ok y) → SL w0 blk off (pre ++ L ++ Rr ++ post) w →
    Calls Try.prog 51 #[.slice (some ⟨blk, off, none⟩) N cap, .int .i64 a, .int .i64 m, .int .i64 b, .func (.func 26) #[] #[.pointer (some bx)]] w (Merged w0 blk off Rel pre L Rr post)

/-- What the search leaves: where the two parts are cut. -/
def CutAt (w0 : World) (blk off : Nat) (Rel : Int → Int → Prop) (pre L Rr post : List Int) (a m s e : Int) (l1 l2 r1 r2 : List Int) (w : World) : Prop :=
  L = l1 ++ l2 ∧ Rr = r1 ++ r2 ∧ (l1.length : Int) = s - a ∧ (r1.length : Int) = e - m ∧ (∀ x y, l1.getLast? = some x → r2.head? = some y → Rel x y) ∧ (∀ x y, r1.getLast? = some x → l2.head? = some y → Rel x y) ∧
  SL w0 blk off (pre ++ l1 ++ l2 ++ r1 ++ r2 ++ post) w

theorem pair_sub {l : List Int} {Rel : Int → Int → Prop} {l1 l2 : List Int} (h : (l1 ++ l2).Pairwise Rel) : l1.Pairwise Rel ∧ l2.Pairwise Rel := ⟨(List.pairwise_append.1 h).1, (List.pairwise_append.1 h).2.1⟩
theorem nil_of {l : List Int} (h : ¬ 0 < l.length) : l = [] := List.length_eq_zero_iff.1 (by omega)

set_option maxHeartbeats 16000000 in
set_option maxRecDepth 100000 in
theorem symMerge_hi (blk off cap N : Nat) (w0 : World) (d0 : Array Int) (bx : Addr) (cf : Int → Int → Int) (ok : Int → Prop) (Rel : Int → Int → Prop) (hO : Ord Rel) (R : Row1 enc w0 blk off d0) (hd0 : d0.size = N) (hN : N ≤ 1000000) (hC : CmpAt w0 blk off N bx cf ok)
    (pre L Rr post : List Int) (a m b : Int) (w : World) (IH : SymOK blk off cap N w0 bx cf ok Rel (L.length + Rr.length)) (ha : a = pre.length) (hm : m = pre.length + L.length) (hb : b = pre.length + L.length + Rr.length) (hlL : 1 < L.length) (hlR : 1 < Rr.length) (hl : pre.length + L.length + Rr.length + post.length = N)
    (hmid : m > (a + b) / 2)
    (hLs : L.Pairwise Rel) (hRs : Rr.Pairwise Rel) (hX : Cross cf Rel L Rr) (hk : ∀ y ∈ L ++ Rr, ok y) (S : SL w0 blk off (pre ++ L ++ Rr ++ post) w) :
    Calls Try.prog 51 #[.slice (some ⟨blk, off, none⟩) N cap, .int .i64 a, .int .i64 m, .int .i64 b, .func (.func 26) #[] #[.pointer (some bx)]] w (Merged w0 blk off Rel pre L Rr post) := by
  obtain ⟨l, el⟩ : ∃ l, l = pre ++ L ++ Rr ++ post := ⟨_, rfl⟩
  have S0 : Aside (SL w0 blk off l w) := by rw [el]; exact S
  clear S
  have hll : l.length = N := by rw [el]; simp; omega
  have hll1 : ∀ q : Nat, q < L.length → l[pre.length + q]! = L[q]! := by
    intro q hq; rw [el]; have := at_mid pre L (Rr ++ post) q hq; simpa using this
  have hlr : ∀ q : Nat, q < Rr.length → l[pre.length + L.length + q]! = Rr[q]! := by
    intro q hq; rw [el]; have := at_mid (pre ++ L) Rr post q hq; simpa using this
  have b1 : (0 : Int) ≤ a := by omega
  have b3 : a + 1 < m := by omega
  have b3' : m + 1 < b := by omega
  have b4 : b ≤ (N : Int) := by omega
  have b5 : (N : Int) ≤ 1000000 := by omega
  have F : Aside (a = (pre.length : Int) ∧ m = (pre.length : Int) + L.length ∧ b = (pre.length : Int) + L.length + Rr.length ∧ pre.length + L.length + Rr.length + post.length = N ∧ l = pre ++ L ++ Rr ++ post ∧ l.length = N ∧ (∀ q : Nat, q < L.length → l[pre.length + q]! = L[q]!) ∧ (∀ q : Nat, q < Rr.length → l[pre.length + L.length + q]! = Rr[q]!)) := ⟨ha, hm, hb, hl, el, hll, hll1, hlr⟩
  have G : Aside (Ord Rel ∧ Row1 enc w0 blk off d0 ∧ d0.size = N ∧ CmpAt w0 blk off N bx cf ok ∧ L.Pairwise Rel ∧ Rr.Pairwise Rel ∧ Cross cf Rel L Rr ∧ (∀ y ∈ L ++ Rr, ok y) ∧ SymOK blk off cap N w0 bx cf ok Rel (L.length + Rr.length)) := ⟨hO, R, hd0, hC, hLs, hRs, hX, hk, IH⟩
  clear hO R hd0 hC hLs hRs hX hk ha hm hb hl el hll hll1 hlr hlL hlR IH
  have hone' : ¬ m - a = 1 := by omega
  have hone2 : ¬ b - m = 1 := by omega
  go_enter Try.func51, Try.ntmps51
  go_upto_region 25 with (fail)
  generalize hmd : (a + b) / 2 = mid at hmid ⊢
  have d1 : a < mid := by omega
  have d2 : mid < b := by omega
  have d3 : a + b ≤ 2 * mid + 1 := by omega
  have d4 : 2 * mid ≤ a + b := by omega
  clear hmd
  go_wp2_with fail
  go_loopw [20, 21] (fun vi vj wr => ∃ s r : Int, vi = .int .i64 s ∧ vj = .int .i64 r ∧ mid + m - b ≤ s ∧ s ≤ r ∧ r ≤ mid ∧ Aside ((mid + m - b < s → Rel l[(s - 1).toNat]! l[(mid + m - s).toNat]!) ∧ (r < mid → Rel l[(mid + m - 1 - r).toNat]! l[r.toNat]!) ∧ SL w0 blk off l wr)) (fun vi vj _ => (intOf vj - intOf vi).toNat)
  case atStart => exact ⟨mid + m - b, mid, rfl, rfl, by omega, by omega, by omega, fun h => by omega, fun h => by omega, S0.out⟩
  case round =>
    clear S0
    obtain ⟨s, r, rfl, rfl, hi, hij, hj, S1⟩ := hrel
    by_cases hlt : s < r
    · go_upto_region 35 with (fail)
      generalize hh : (s + r) / 2 = h
      have h1 : s ≤ h := by omega
      have h2 : h < r := by omega
      have h3 : (0 : Int) ≤ h := by omega
      have h4 : h < (N : Int) := by omega
      have h5 : (0 : Int) ≤ mid + m - 1 - h := by omega
      have h6 : mid + m - 1 - h < (N : Int) := by omega
      have h7 : IntKind.i64.wrap (mid + m - 1 - h) = mid + m - 1 - h := by rw [IntKind.wrap_i64]; omega
      obtain ⟨y, hy⟩ : ∃ y, y = l[(mid + m - 1 - h).toNat]! := ⟨_, rfl⟩
      obtain ⟨x, hx⟩ : ∃ y, y = l[h.toNat]! := ⟨_, rfl⟩
      have Y : Aside (ok x ∧ ok y ∧ (cf y x < 0 → Rel y x) ∧ (¬ cf y x < 0 → Rel x y) ∧ y = l[(mid + m - 1 - h).toNat]! ∧ x = l[h.toNat]!) := by
        obtain ⟨ha, hm, hb, hl, el, hll, hll1, hlr⟩ := F.out
        obtain ⟨hO, R, hd0, hC, hLs, hRs, hX, hk, IH⟩ := G.out
        have e1 : y = Rr[(mid + m - 1 - h).toNat - (pre.length + L.length)]! := by
          rw [← hlr _ (by omega), hy]; congr 1; omega
        have m1 : y ∈ Rr := by rw [e1]; rw [List.getElem!_eq_getElem?_getD, List.getElem?_eq_getElem (by omega)]; exact List.getElem_mem _
        have e2 : x = L[h.toNat - pre.length]! := by
          rw [← hll1 _ (by omega), hx]; congr 1; omega
        have m2 : x ∈ L := by rw [e2]; rw [List.getElem!_eq_getElem?_getD, List.getElem?_eq_getElem (by omega)]; exact List.getElem_mem _
        exact ⟨hk x (by simp [m2]), hk y (by simp [m1]), (hX x m2 y m1).1, (hX x m2 y m1).2, hy, hx⟩
      have c1 : wr.cell? ⟨blk, off + (mid + m - 1 - h).toNat, none⟩ = some (.int .i64 y) := by
        rw [hy]; exact SL.at G.out.2.1 l S1.out.2.2 (by have := F.out.2.2.2.2.2.1; have := G.out.2.2.1; omega) _ (by have := F.out.2.2.2.2.2.1; omega)
      have c2 : wr.cell? ⟨blk, off + h.toNat, none⟩ = some (.int .i64 x) := by
        rw [hx]; exact SL.at G.out.2.1 l S1.out.2.2 (by have := F.out.2.2.2.2.2.1; have := G.out.2.2.1; omega) _ (by have := F.out.2.2.2.2.2.1; omega)
      have HC : Aside (∀ q : Nat, Calls Try.prog 26 #[.int .i64 y, .int .i64 x, .pointer (some bx)] (wr.drewN q) fun e w' => e = .returned (.int .i64 (cf y x)) ∧ ∃ q', w' = (wr.drewN q).drewN q') :=
        fun q => G.out.2.2.2.1 l (wr.drewN q) (by have := F.out.2.2.2.2.2.1; omega) (S1.out.2.2.drewN q) y x Y.out.2.1 Y.out.1
      clear hy hx hh
      obtain ⟨c, hcv⟩ : ∃ c, c = cf y x := ⟨_, rfl⟩
      rw [← hcv] at HC
      have HV : Aside (c = cf y x) := hcv
      clear hcv
      by_cases hneg : c < 0
      · have hd : decide (c < 0) = true := decide_eq_true hneg
        go_quiet (exact Calls.quiet_of (HC.out _))
        clear c1 c2 HC h7
        go_wp2_with fail
        go_roundw
        case rel => exact ⟨s, h, rfl, rfl, by omega, by omega, by omega, S1.out.1, fun _ => by rw [← Y.out.2.2.2.2.1, ← Y.out.2.2.2.2.2]; exact Y.out.2.2.1 (by rw [← HV.out]; exact hneg), S1.out.2.2.drewN _⟩
        case measure => simp [intOf]; omega
      · have hd : decide (c < 0) = false := decide_eq_false hneg
        go_quiet (exact Calls.quiet_of (HC.out _))
        clear c1 c2 HC h7
        go_wp2_with fail
        go_roundw
        case rel => exact ⟨h + 1, r, rfl, rfl, by omega, by omega, by omega, fun _ => by rw [show h + 1 - 1 = h by omega, show mid + m - (h + 1) = mid + m - 1 - h by omega, ← Y.out.2.2.2.2.1, ← Y.out.2.2.2.2.2]; exact Y.out.2.2.2.1 (by rw [← HV.out]; exact hneg), S1.out.2.1, S1.out.2.2.drewN _⟩
        case measure => simp [intOf]; omega
    · obtain rfl : s = r := by omega
      have D : Aside (∃ l1 l2 r1 r2 : List Int, CutAt w0 blk off Rel pre L Rr post a m s (mid + m - s) l1 l2 r1 r2 wr) := by
        obtain ⟨ha, hm, hb, hl, el, hll, hll1, hlr⟩ := F.out
        obtain ⟨hO, R, hd0, hC, hLs, hRs, hX, hk, IH⟩ := G.out
        obtain ⟨l1, l2, el1, ll1, p1, p2⟩ := cut L (s - a).toNat (by omega)
        obtain ⟨r1, r2, er1, lr1, p3, p4⟩ := cut Rr (mid - s).toNat (by omega)
        refine ⟨l1, l2, r1, r2, el1, er1, by omega, by omega, ?_, ?_, by have h := S1.out.2.2; rw [el, el1, er1] at h; simpa using h⟩
        · intro x y hx hy
          obtain ⟨z1, z2⟩ := p1 x hx
          obtain ⟨z3, z4⟩ := p4 y hy
          have := S1.out.1 (by omega)
          rw [show (s - 1).toNat = pre.length + ((s - a).toNat - 1) by omega, hll1 _ (by omega), show (mid + m - s).toNat = pre.length + L.length + (mid - s).toNat by omega, hlr _ (by omega)] at this
          rw [z2, z4]; exact this
        · intro x y hx hy
          obtain ⟨z1, z2⟩ := p3 x hx
          obtain ⟨z3, z4⟩ := p2 y hy
          have := S1.out.2.1 (by omega)
          rw [show s.toNat = pre.length + (s - a).toNat by omega, hll1 _ (by omega), show (mid + m - 1 - s).toNat = pre.length + L.length + ((mid - s).toNat - 1) by omega, hlr _ (by omega)] at this
          rw [z2, z4]; exact this
      clear S1 hlt hij
      obtain ⟨l1, l2, r1, r2, D1⟩ := D.out
      have D2 : Aside (CutAt w0 blk off Rel pre L Rr post a m s (mid + m - s) l1 l2 r1 r2 wr) := D1
      clear D D1
      have E : Aside (pre.length = a ∧ (l1.length : Int) = s - a ∧ (l2.length : Int) = m - s ∧ (r1.length : Int) = mid - s ∧ (r2.length : Int) = b - (mid + m - s) ∧ pre.length + l1.length + l2.length + r1.length + r2.length + post.length = N ∧ l1.length + l2.length + (r1.length + r2.length) = L.length + Rr.length) := by
        obtain ⟨ha, hm, hb, hl, el, hll, hll1, hlr⟩ := F.out
        obtain ⟨e1, e2, e3, e4, _, _, _⟩ := D2.out
        have i1 : L.length = l1.length + l2.length := by rw [e1]; simp
        have i2 : Rr.length = r1.length + r2.length := by rw [e2]; simp
        exact ⟨by omega, by omega, by omega, by omega, by omega, by omega, by omega⟩
      have Z : Aside (l1.Pairwise Rel ∧ l2.Pairwise Rel ∧ r1.Pairwise Rel ∧ r2.Pairwise Rel ∧ Cross cf Rel l1 r1 ∧ Cross cf Rel l2 r2 ∧ (∀ y ∈ l1 ++ r1, ok y) ∧ (∀ y ∈ l2 ++ r2, ok y) ∧
          (∀ m1 m2 : List Int, m1.Perm (l1 ++ r1) → m2.Perm (l2 ++ r2) → m1.Pairwise Rel → m2.Pairwise Rel → (m1 ++ m2).Perm (L ++ Rr) ∧ (m1 ++ m2).Pairwise Rel)) := by
        obtain ⟨hO, R, hd0, hC, hLs, hRs, hX, hk, IH⟩ := G.out
        obtain ⟨e1, e2, e3, e4, x1, x2, _⟩ := D2.out
        subst e1 e2
        refine ⟨(pair_sub (l := l1) hLs).1, (pair_sub (l := l1) hLs).2, (pair_sub (l := l1) hRs).1, (pair_sub (l := l1) hRs).2, hX.sub (fun x h => by simp [h]) (fun x h => by simp [h]), hX.sub (fun x h => by simp [h]) (fun x h => by simp [h]), ?_, ?_, fun m1 m2 p1 p2 s1 s2 => halves hO l1 l2 r1 r2 hLs hRs x1 x2 m1 m2 p1 p2 s1 s2⟩
        · intro y hy
          rcases List.mem_append.1 hy with h | h <;> exact hk y (by simp [h])
        · intro y hy
          rcases List.mem_append.1 hy with h | h <;> exact hk y (by simp [h])
      have T0 : Aside (SL w0 blk off (pre ++ l1 ++ l2 ++ r1 ++ r2 ++ post) wr) := D2.out.2.2.2.2.2.2
      clear D2
      by_cases kr1 : s < mid
      · by_cases kl2 : s < m
        · by_cases kl1 : a < s
          · by_cases kr2 : mid + m - s < b
            · have t1 : m < mid + m - s := by omega
              have t2 : mid < mid + m - s := by omega
              go_wp2_with fail
              refine (rotate_any blk off cap N w0 _ d0 G.out.2.1 G.out.2.2.1 hN _ (pre ++ l1) l2 r1 (r2 ++ post) _ _ _ (by have := E.out; simp; omega) (by have := E.out; simp; omega) (by have := E.out; simp; omega) (by have := E.out; omega) (by have := E.out; omega) (by have := E.out; simp; omega) (by have := T0.out; simpa using this)).mono ?_
              rintro e w1 ⟨rfl, hS⟩
              have T1 : Aside (SL w0 blk off (pre ++ l1 ++ r1 ++ l2 ++ r2 ++ post) w1) := by show SL _ _ _ _ _; simpa using hS
              clear hS T0
              go_wp2_with fail
              refine (G.out.2.2.2.2.2.2.2.2 pre l1 r1 (l2 ++ r2 ++ post) _ _ _ _ (by have := E.out; omega) (by have := E.out; omega) (by have := E.out; omega) (by have := E.out; omega) (by have := E.out; omega) (by have := E.out; omega) (by have := E.out; simp; omega) Z.out.1 Z.out.2.2.1 Z.out.2.2.2.2.1 Z.out.2.2.2.2.2.2.1 (by have := T1.out; simpa using this)).mono ?_
              rintro e w2 ⟨rfl, M1, hp1, hs1, hS⟩
              have T2 : Aside (M1.Perm (l1 ++ r1) ∧ M1.Pairwise Rel ∧ SL w0 blk off (pre ++ M1 ++ l2 ++ r2 ++ post) w2) := ⟨hp1, hs1, by simpa using hS⟩
              clear hS hp1 hs1 T1
              go_wp2_with fail
              have T2l : Aside (M1.length = l1.length + r1.length) := by show M1.length = _; have := T2.out.1.length_eq; simpa using this
              refine (G.out.2.2.2.2.2.2.2.2 (pre ++ M1) l2 r2 post _ _ _ _ (by have := E.out; omega) (by have := E.out; have := T2l.out; simp; omega) (by have := E.out; have := T2l.out; simp; omega) (by have := E.out; have := T2l.out; simp; omega) (by have := E.out; omega) (by have := E.out; omega) (by have := E.out; have := T2l.out; simp; omega) Z.out.2.1 Z.out.2.2.2.1 Z.out.2.2.2.2.2.1 Z.out.2.2.2.2.2.2.2.1 (by have := T2.out.2.2; simpa using this)).mono ?_
              rintro e w3 ⟨rfl, M2, hp2, hs2, hS⟩
              have T3 : Aside (M2.Perm (l2 ++ r2) ∧ M2.Pairwise Rel ∧ SL w0 blk off (pre ++ M1 ++ M2 ++ post) w3) := ⟨hp2, hs2, by simpa using hS⟩
              clear hS hp2 hs2
              go_wp2_with fail
              go_end0
              exact ⟨rfl, M1 ++ M2, (Z.out.2.2.2.2.2.2.2.2 M1 M2 T2.out.1 T3.out.1 T2.out.2.1 T3.out.2.1).1, (Z.out.2.2.2.2.2.2.2.2 M1 M2 T2.out.1 T3.out.1 T2.out.2.1 T3.out.2.1).2, by have h := T3.out.2.2; simpa using h⟩
            · have t1 : m < mid + m - s := by omega
              have t2 : mid < mid + m - s := by omega
              have nr2 : Aside (r2 = []) := nil_of (by have := E.out; omega)
              go_wp2_with fail
              refine (rotate_any blk off cap N w0 _ d0 G.out.2.1 G.out.2.2.1 hN _ (pre ++ l1) l2 r1 (r2 ++ post) _ _ _ (by have := E.out; simp; omega) (by have := E.out; simp; omega) (by have := E.out; simp; omega) (by have := E.out; omega) (by have := E.out; omega) (by have := E.out; simp; omega) (by have := T0.out; simpa using this)).mono ?_
              rintro e w1 ⟨rfl, hS⟩
              have T1 : Aside (SL w0 blk off (pre ++ l1 ++ r1 ++ l2 ++ r2 ++ post) w1) := by show SL _ _ _ _ _; simpa using hS
              clear hS T0
              go_wp2_with fail
              refine (G.out.2.2.2.2.2.2.2.2 pre l1 r1 (l2 ++ r2 ++ post) _ _ _ _ (by have := E.out; omega) (by have := E.out; omega) (by have := E.out; omega) (by have := E.out; omega) (by have := E.out; omega) (by have := E.out; omega) (by have := E.out; simp; omega) Z.out.1 Z.out.2.2.1 Z.out.2.2.2.2.1 Z.out.2.2.2.2.2.2.1 (by have := T1.out; simpa using this)).mono ?_
              rintro e w2 ⟨rfl, M1, hp1, hs1, hS⟩
              have T2 : Aside (M1.Perm (l1 ++ r1) ∧ M1.Pairwise Rel ∧ SL w0 blk off (pre ++ M1 ++ l2 ++ r2 ++ post) w2) := ⟨hp1, hs1, by simpa using hS⟩
              clear hS hp1 hs1 T1
              obtain ⟨M2, T3⟩ : ∃ M2 : List Int, Aside (M2.Perm (l2 ++ r2) ∧ M2.Pairwise Rel ∧ SL w0 blk off (pre ++ M1 ++ M2 ++ post) w2) := ⟨l2 ++ r2, List.Perm.refl _, by rw [nr2.out]; simpa using Z.out.2.1, by have h := T2.out.2.2; simpa using h⟩
              go_wp2_with fail
              go_end0
              exact ⟨rfl, M1 ++ M2, (Z.out.2.2.2.2.2.2.2.2 M1 M2 T2.out.1 T3.out.1 T2.out.2.1 T3.out.2.1).1, (Z.out.2.2.2.2.2.2.2.2 M1 M2 T2.out.1 T3.out.1 T2.out.2.1 T3.out.2.1).2, by have h := T3.out.2.2; simpa using h⟩
          · by_cases kr2 : mid + m - s < b
            · exfalso; omega
            · have t1 : m < mid + m - s := by omega
              have t2 : mid < mid + m - s := by omega
              have nl1 : Aside (l1 = []) := nil_of (by have := E.out; omega)
              have nr2 : Aside (r2 = []) := nil_of (by have := E.out; omega)
              go_wp2_with fail
              refine (rotate_any blk off cap N w0 _ d0 G.out.2.1 G.out.2.2.1 hN _ (pre ++ l1) l2 r1 (r2 ++ post) _ _ _ (by have := E.out; simp; omega) (by have := E.out; simp; omega) (by have := E.out; simp; omega) (by have := E.out; omega) (by have := E.out; omega) (by have := E.out; simp; omega) (by have := T0.out; simpa using this)).mono ?_
              rintro e w1 ⟨rfl, hS⟩
              have T1 : Aside (SL w0 blk off (pre ++ l1 ++ r1 ++ l2 ++ r2 ++ post) w1) := by show SL _ _ _ _ _; simpa using hS
              clear hS T0
              obtain ⟨M1, T2⟩ : ∃ M1 : List Int, Aside (M1.Perm (l1 ++ r1) ∧ M1.Pairwise Rel ∧ SL w0 blk off (pre ++ M1 ++ l2 ++ r2 ++ post) w1) := ⟨l1 ++ r1, List.Perm.refl _, by rw [nl1.out]; simpa using Z.out.2.2.1, by have h := T1.out; simpa using h⟩
              obtain ⟨M2, T3⟩ : ∃ M2 : List Int, Aside (M2.Perm (l2 ++ r2) ∧ M2.Pairwise Rel ∧ SL w0 blk off (pre ++ M1 ++ M2 ++ post) w1) := ⟨l2 ++ r2, List.Perm.refl _, by rw [nr2.out]; simpa using Z.out.2.1, by have h := T2.out.2.2; simpa using h⟩
              go_wp2_with fail
              go_end0
              exact ⟨rfl, M1 ++ M2, (Z.out.2.2.2.2.2.2.2.2 M1 M2 T2.out.1 T3.out.1 T2.out.2.1 T3.out.2.1).1, (Z.out.2.2.2.2.2.2.2.2 M1 M2 T2.out.1 T3.out.1 T2.out.2.1 T3.out.2.1).2, by have h := T3.out.2.2; simpa using h⟩
        · by_cases kl1 : a < s
          · exfalso; omega
          · exfalso; omega
      · by_cases kl2 : s < m
        · by_cases kr2 : mid + m - s < b
          · have t1 : ¬ m < mid + m - s := by omega
            have t2 : mid < mid + m - s := by omega
            have nr1 : Aside (r1 = []) := nil_of (by have := E.out; omega)
            go_wp2_with fail
            have T1 : Aside (SL w0 blk off (pre ++ l1 ++ r1 ++ l2 ++ r2 ++ post) wr) := by show SL _ _ _ _ _; have h := T0.out; rw [nr1.out] at h ⊢; simpa using h
            clear T0
            obtain ⟨M1, T2⟩ : ∃ M1 : List Int, Aside (M1.Perm (l1 ++ r1) ∧ M1.Pairwise Rel ∧ SL w0 blk off (pre ++ M1 ++ l2 ++ r2 ++ post) wr) := ⟨l1 ++ r1, List.Perm.refl _, by rw [nr1.out]; simpa using Z.out.1, by have h := T1.out; simpa using h⟩
            have T2l : Aside (M1.length = l1.length + r1.length) := by show M1.length = _; have := T2.out.1.length_eq; simpa using this
            refine (G.out.2.2.2.2.2.2.2.2 (pre ++ M1) l2 r2 post _ _ _ _ (by have := E.out; omega) (by have := E.out; have := T2l.out; simp; omega) (by have := E.out; have := T2l.out; simp; omega) (by have := E.out; have := T2l.out; simp; omega) (by have := E.out; omega) (by have := E.out; omega) (by have := E.out; have := T2l.out; simp; omega) Z.out.2.1 Z.out.2.2.2.1 Z.out.2.2.2.2.2.1 Z.out.2.2.2.2.2.2.2.1 (by have := T2.out.2.2; simpa using this)).mono ?_
            rintro e w3 ⟨rfl, M2, hp2, hs2, hS⟩
            have T3 : Aside (M2.Perm (l2 ++ r2) ∧ M2.Pairwise Rel ∧ SL w0 blk off (pre ++ M1 ++ M2 ++ post) w3) := ⟨hp2, hs2, by simpa using hS⟩
            clear hS hp2 hs2
            go_wp2_with fail
            go_end0
            exact ⟨rfl, M1 ++ M2, (Z.out.2.2.2.2.2.2.2.2 M1 M2 T2.out.1 T3.out.1 T2.out.2.1 T3.out.2.1).1, (Z.out.2.2.2.2.2.2.2.2 M1 M2 T2.out.1 T3.out.1 T2.out.2.1 T3.out.2.1).2, by have h := T3.out.2.2; simpa using h⟩
          · exfalso; omega
        · exfalso; omega

set_option maxHeartbeats 16000000 in
set_option maxRecDepth 100000 in
theorem symMerge_lo (blk off cap N : Nat) (w0 : World) (d0 : Array Int) (bx : Addr) (cf : Int → Int → Int) (ok : Int → Prop) (Rel : Int → Int → Prop) (hO : Ord Rel) (R : Row1 enc w0 blk off d0) (hd0 : d0.size = N) (hN : N ≤ 1000000) (hC : CmpAt w0 blk off N bx cf ok)
    (pre L Rr post : List Int) (a m b : Int) (w : World) (IH : SymOK blk off cap N w0 bx cf ok Rel (L.length + Rr.length)) (ha : a = pre.length) (hm : m = pre.length + L.length) (hb : b = pre.length + L.length + Rr.length) (hlL : 1 < L.length) (hlR : 1 < Rr.length) (hl : pre.length + L.length + Rr.length + post.length = N)
    (hmid : ¬ m > (a + b) / 2)
    (hLs : L.Pairwise Rel) (hRs : Rr.Pairwise Rel) (hX : Cross cf Rel L Rr) (hk : ∀ y ∈ L ++ Rr, ok y) (S : SL w0 blk off (pre ++ L ++ Rr ++ post) w) :
    Calls Try.prog 51 #[.slice (some ⟨blk, off, none⟩) N cap, .int .i64 a, .int .i64 m, .int .i64 b, .func (.func 26) #[] #[.pointer (some bx)]] w (Merged w0 blk off Rel pre L Rr post) := by
  obtain ⟨l, el⟩ : ∃ l, l = pre ++ L ++ Rr ++ post := ⟨_, rfl⟩
  have S0 : Aside (SL w0 blk off l w) := by rw [el]; exact S
  clear S
  have hll : l.length = N := by rw [el]; simp; omega
  have hll1 : ∀ q : Nat, q < L.length → l[pre.length + q]! = L[q]! := by
    intro q hq; rw [el]; have := at_mid pre L (Rr ++ post) q hq; simpa using this
  have hlr : ∀ q : Nat, q < Rr.length → l[pre.length + L.length + q]! = Rr[q]! := by
    intro q hq; rw [el]; have := at_mid (pre ++ L) Rr post q hq; simpa using this
  have b1 : (0 : Int) ≤ a := by omega
  have b3 : a + 1 < m := by omega
  have b3' : m + 1 < b := by omega
  have b4 : b ≤ (N : Int) := by omega
  have b5 : (N : Int) ≤ 1000000 := by omega
  have F : Aside (a = (pre.length : Int) ∧ m = (pre.length : Int) + L.length ∧ b = (pre.length : Int) + L.length + Rr.length ∧ pre.length + L.length + Rr.length + post.length = N ∧ l = pre ++ L ++ Rr ++ post ∧ l.length = N ∧ (∀ q : Nat, q < L.length → l[pre.length + q]! = L[q]!) ∧ (∀ q : Nat, q < Rr.length → l[pre.length + L.length + q]! = Rr[q]!)) := ⟨ha, hm, hb, hl, el, hll, hll1, hlr⟩
  have G : Aside (Ord Rel ∧ Row1 enc w0 blk off d0 ∧ d0.size = N ∧ CmpAt w0 blk off N bx cf ok ∧ L.Pairwise Rel ∧ Rr.Pairwise Rel ∧ Cross cf Rel L Rr ∧ (∀ y ∈ L ++ Rr, ok y) ∧ SymOK blk off cap N w0 bx cf ok Rel (L.length + Rr.length)) := ⟨hO, R, hd0, hC, hLs, hRs, hX, hk, IH⟩
  clear hO R hd0 hC hLs hRs hX hk ha hm hb hl el hll hll1 hlr hlL hlR IH
  have hone' : ¬ m - a = 1 := by omega
  have hone2 : ¬ b - m = 1 := by omega
  go_enter Try.func51, Try.ntmps51
  go_upto_region 25 with (fail)
  generalize hmd : (a + b) / 2 = mid at hmid ⊢
  have d1 : a < mid := by omega
  have d2 : mid < b := by omega
  have d3 : a + b ≤ 2 * mid + 1 := by omega
  have d4 : 2 * mid ≤ a + b := by omega
  clear hmd
  go_wp2_with fail
  go_loopw [20, 21] (fun vi vj wr => ∃ s r : Int, vi = .int .i64 s ∧ vj = .int .i64 r ∧ a ≤ s ∧ s ≤ r ∧ r ≤ m ∧ Aside ((a < s → Rel l[(s - 1).toNat]! l[(mid + m - s).toNat]!) ∧ (r < m → Rel l[(mid + m - 1 - r).toNat]! l[r.toNat]!) ∧ SL w0 blk off l wr)) (fun vi vj _ => (intOf vj - intOf vi).toNat)
  case atStart => exact ⟨a, m, rfl, rfl, by omega, by omega, by omega, fun h => by omega, fun h => by omega, S0.out⟩
  case round =>
    clear S0
    obtain ⟨s, r, rfl, rfl, hi, hij, hj, S1⟩ := hrel
    by_cases hlt : s < r
    · go_upto_region 35 with (fail)
      generalize hh : (s + r) / 2 = h
      have h1 : s ≤ h := by omega
      have h2 : h < r := by omega
      have h3 : (0 : Int) ≤ h := by omega
      have h4 : h < (N : Int) := by omega
      have h5 : (0 : Int) ≤ mid + m - 1 - h := by omega
      have h6 : mid + m - 1 - h < (N : Int) := by omega
      have h7 : IntKind.i64.wrap (mid + m - 1 - h) = mid + m - 1 - h := by rw [IntKind.wrap_i64]; omega
      obtain ⟨y, hy⟩ : ∃ y, y = l[(mid + m - 1 - h).toNat]! := ⟨_, rfl⟩
      obtain ⟨x, hx⟩ : ∃ y, y = l[h.toNat]! := ⟨_, rfl⟩
      have Y : Aside (ok x ∧ ok y ∧ (cf y x < 0 → Rel y x) ∧ (¬ cf y x < 0 → Rel x y) ∧ y = l[(mid + m - 1 - h).toNat]! ∧ x = l[h.toNat]!) := by
        obtain ⟨ha, hm, hb, hl, el, hll, hll1, hlr⟩ := F.out
        obtain ⟨hO, R, hd0, hC, hLs, hRs, hX, hk, IH⟩ := G.out
        have e1 : y = Rr[(mid + m - 1 - h).toNat - (pre.length + L.length)]! := by
          rw [← hlr _ (by omega), hy]; congr 1; omega
        have m1 : y ∈ Rr := by rw [e1]; rw [List.getElem!_eq_getElem?_getD, List.getElem?_eq_getElem (by omega)]; exact List.getElem_mem _
        have e2 : x = L[h.toNat - pre.length]! := by
          rw [← hll1 _ (by omega), hx]; congr 1; omega
        have m2 : x ∈ L := by rw [e2]; rw [List.getElem!_eq_getElem?_getD, List.getElem?_eq_getElem (by omega)]; exact List.getElem_mem _
        exact ⟨hk x (by simp [m2]), hk y (by simp [m1]), (hX x m2 y m1).1, (hX x m2 y m1).2, hy, hx⟩
      have c1 : wr.cell? ⟨blk, off + (mid + m - 1 - h).toNat, none⟩ = some (.int .i64 y) := by
        rw [hy]; exact SL.at G.out.2.1 l S1.out.2.2 (by have := F.out.2.2.2.2.2.1; have := G.out.2.2.1; omega) _ (by have := F.out.2.2.2.2.2.1; omega)
      have c2 : wr.cell? ⟨blk, off + h.toNat, none⟩ = some (.int .i64 x) := by
        rw [hx]; exact SL.at G.out.2.1 l S1.out.2.2 (by have := F.out.2.2.2.2.2.1; have := G.out.2.2.1; omega) _ (by have := F.out.2.2.2.2.2.1; omega)
      have HC : Aside (∀ q : Nat, Calls Try.prog 26 #[.int .i64 y, .int .i64 x, .pointer (some bx)] (wr.drewN q) fun e w' => e = .returned (.int .i64 (cf y x)) ∧ ∃ q', w' = (wr.drewN q).drewN q') :=
        fun q => G.out.2.2.2.1 l (wr.drewN q) (by have := F.out.2.2.2.2.2.1; omega) (S1.out.2.2.drewN q) y x Y.out.2.1 Y.out.1
      clear hy hx hh
      obtain ⟨c, hcv⟩ : ∃ c, c = cf y x := ⟨_, rfl⟩
      rw [← hcv] at HC
      have HV : Aside (c = cf y x) := hcv
      clear hcv
      by_cases hneg : c < 0
      · have hd : decide (c < 0) = true := decide_eq_true hneg
        go_quiet (exact Calls.quiet_of (HC.out _))
        clear c1 c2 HC h7
        go_wp2_with fail
        go_roundw
        case rel => exact ⟨s, h, rfl, rfl, by omega, by omega, by omega, S1.out.1, fun _ => by rw [← Y.out.2.2.2.2.1, ← Y.out.2.2.2.2.2]; exact Y.out.2.2.1 (by rw [← HV.out]; exact hneg), S1.out.2.2.drewN _⟩
        case measure => simp [intOf]; omega
      · have hd : decide (c < 0) = false := decide_eq_false hneg
        go_quiet (exact Calls.quiet_of (HC.out _))
        clear c1 c2 HC h7
        go_wp2_with fail
        go_roundw
        case rel => exact ⟨h + 1, r, rfl, rfl, by omega, by omega, by omega, fun _ => by rw [show h + 1 - 1 = h by omega, show mid + m - (h + 1) = mid + m - 1 - h by omega, ← Y.out.2.2.2.2.1, ← Y.out.2.2.2.2.2]; exact Y.out.2.2.2.1 (by rw [← HV.out]; exact hneg), S1.out.2.1, S1.out.2.2.drewN _⟩
        case measure => simp [intOf]; omega
    · obtain rfl : s = r := by omega
      have D : Aside (∃ l1 l2 r1 r2 : List Int, CutAt w0 blk off Rel pre L Rr post a m s (mid + m - s) l1 l2 r1 r2 wr) := by
        obtain ⟨ha, hm, hb, hl, el, hll, hll1, hlr⟩ := F.out
        obtain ⟨hO, R, hd0, hC, hLs, hRs, hX, hk, IH⟩ := G.out
        obtain ⟨l1, l2, el1, ll1, p1, p2⟩ := cut L (s - a).toNat (by omega)
        obtain ⟨r1, r2, er1, lr1, p3, p4⟩ := cut Rr (mid - s).toNat (by omega)
        refine ⟨l1, l2, r1, r2, el1, er1, by omega, by omega, ?_, ?_, by have h := S1.out.2.2; rw [el, el1, er1] at h; simpa using h⟩
        · intro x y hx hy
          obtain ⟨z1, z2⟩ := p1 x hx
          obtain ⟨z3, z4⟩ := p4 y hy
          have := S1.out.1 (by omega)
          rw [show (s - 1).toNat = pre.length + ((s - a).toNat - 1) by omega, hll1 _ (by omega), show (mid + m - s).toNat = pre.length + L.length + (mid - s).toNat by omega, hlr _ (by omega)] at this
          rw [z2, z4]; exact this
        · intro x y hx hy
          obtain ⟨z1, z2⟩ := p3 x hx
          obtain ⟨z3, z4⟩ := p2 y hy
          have := S1.out.2.1 (by omega)
          rw [show s.toNat = pre.length + (s - a).toNat by omega, hll1 _ (by omega), show (mid + m - 1 - s).toNat = pre.length + L.length + ((mid - s).toNat - 1) by omega, hlr _ (by omega)] at this
          rw [z2, z4]; exact this
      clear S1 hlt hij
      obtain ⟨l1, l2, r1, r2, D1⟩ := D.out
      have D2 : Aside (CutAt w0 blk off Rel pre L Rr post a m s (mid + m - s) l1 l2 r1 r2 wr) := D1
      clear D D1
      have E : Aside (pre.length = a ∧ (l1.length : Int) = s - a ∧ (l2.length : Int) = m - s ∧ (r1.length : Int) = mid - s ∧ (r2.length : Int) = b - (mid + m - s) ∧ pre.length + l1.length + l2.length + r1.length + r2.length + post.length = N ∧ l1.length + l2.length + (r1.length + r2.length) = L.length + Rr.length) := by
        obtain ⟨ha, hm, hb, hl, el, hll, hll1, hlr⟩ := F.out
        obtain ⟨e1, e2, e3, e4, _, _, _⟩ := D2.out
        have i1 : L.length = l1.length + l2.length := by rw [e1]; simp
        have i2 : Rr.length = r1.length + r2.length := by rw [e2]; simp
        exact ⟨by omega, by omega, by omega, by omega, by omega, by omega, by omega⟩
      have Z : Aside (l1.Pairwise Rel ∧ l2.Pairwise Rel ∧ r1.Pairwise Rel ∧ r2.Pairwise Rel ∧ Cross cf Rel l1 r1 ∧ Cross cf Rel l2 r2 ∧ (∀ y ∈ l1 ++ r1, ok y) ∧ (∀ y ∈ l2 ++ r2, ok y) ∧
          (∀ m1 m2 : List Int, m1.Perm (l1 ++ r1) → m2.Perm (l2 ++ r2) → m1.Pairwise Rel → m2.Pairwise Rel → (m1 ++ m2).Perm (L ++ Rr) ∧ (m1 ++ m2).Pairwise Rel)) := by
        obtain ⟨hO, R, hd0, hC, hLs, hRs, hX, hk, IH⟩ := G.out
        obtain ⟨e1, e2, e3, e4, x1, x2, _⟩ := D2.out
        subst e1 e2
        refine ⟨(pair_sub (l := l1) hLs).1, (pair_sub (l := l1) hLs).2, (pair_sub (l := l1) hRs).1, (pair_sub (l := l1) hRs).2, hX.sub (fun x h => by simp [h]) (fun x h => by simp [h]), hX.sub (fun x h => by simp [h]) (fun x h => by simp [h]), ?_, ?_, fun m1 m2 p1 p2 s1 s2 => halves hO l1 l2 r1 r2 hLs hRs x1 x2 m1 m2 p1 p2 s1 s2⟩
        · intro y hy
          rcases List.mem_append.1 hy with h | h <;> exact hk y (by simp [h])
        · intro y hy
          rcases List.mem_append.1 hy with h | h <;> exact hk y (by simp [h])
      have T0 : Aside (SL w0 blk off (pre ++ l1 ++ l2 ++ r1 ++ r2 ++ post) wr) := D2.out.2.2.2.2.2.2
      clear D2
      by_cases kr1 : s < mid
      · by_cases kl2 : s < m
        · by_cases kl1 : a < s
          · by_cases kr2 : mid + m - s < b
            · have t1 : m < mid + m - s := by omega
              have t2 : mid < mid + m - s := by omega
              go_wp2_with fail
              refine (rotate_any blk off cap N w0 _ d0 G.out.2.1 G.out.2.2.1 hN _ (pre ++ l1) l2 r1 (r2 ++ post) _ _ _ (by have := E.out; simp; omega) (by have := E.out; simp; omega) (by have := E.out; simp; omega) (by have := E.out; omega) (by have := E.out; omega) (by have := E.out; simp; omega) (by have := T0.out; simpa using this)).mono ?_
              rintro e w1 ⟨rfl, hS⟩
              have T1 : Aside (SL w0 blk off (pre ++ l1 ++ r1 ++ l2 ++ r2 ++ post) w1) := by show SL _ _ _ _ _; simpa using hS
              clear hS T0
              go_wp2_with fail
              refine (G.out.2.2.2.2.2.2.2.2 pre l1 r1 (l2 ++ r2 ++ post) _ _ _ _ (by have := E.out; omega) (by have := E.out; omega) (by have := E.out; omega) (by have := E.out; omega) (by have := E.out; omega) (by have := E.out; omega) (by have := E.out; simp; omega) Z.out.1 Z.out.2.2.1 Z.out.2.2.2.2.1 Z.out.2.2.2.2.2.2.1 (by have := T1.out; simpa using this)).mono ?_
              rintro e w2 ⟨rfl, M1, hp1, hs1, hS⟩
              have T2 : Aside (M1.Perm (l1 ++ r1) ∧ M1.Pairwise Rel ∧ SL w0 blk off (pre ++ M1 ++ l2 ++ r2 ++ post) w2) := ⟨hp1, hs1, by simpa using hS⟩
              clear hS hp1 hs1 T1
              go_wp2_with fail
              have T2l : Aside (M1.length = l1.length + r1.length) := by show M1.length = _; have := T2.out.1.length_eq; simpa using this
              refine (G.out.2.2.2.2.2.2.2.2 (pre ++ M1) l2 r2 post _ _ _ _ (by have := E.out; omega) (by have := E.out; have := T2l.out; simp; omega) (by have := E.out; have := T2l.out; simp; omega) (by have := E.out; have := T2l.out; simp; omega) (by have := E.out; omega) (by have := E.out; omega) (by have := E.out; have := T2l.out; simp; omega) Z.out.2.1 Z.out.2.2.2.1 Z.out.2.2.2.2.2.1 Z.out.2.2.2.2.2.2.2.1 (by have := T2.out.2.2; simpa using this)).mono ?_
              rintro e w3 ⟨rfl, M2, hp2, hs2, hS⟩
              have T3 : Aside (M2.Perm (l2 ++ r2) ∧ M2.Pairwise Rel ∧ SL w0 blk off (pre ++ M1 ++ M2 ++ post) w3) := ⟨hp2, hs2, by simpa using hS⟩
              clear hS hp2 hs2
              go_wp2_with fail
              go_end0
              exact ⟨rfl, M1 ++ M2, (Z.out.2.2.2.2.2.2.2.2 M1 M2 T2.out.1 T3.out.1 T2.out.2.1 T3.out.2.1).1, (Z.out.2.2.2.2.2.2.2.2 M1 M2 T2.out.1 T3.out.1 T2.out.2.1 T3.out.2.1).2, by have h := T3.out.2.2; simpa using h⟩
            · exfalso; omega
          · by_cases kr2 : mid + m - s < b
            · have t1 : m < mid + m - s := by omega
              have t2 : mid < mid + m - s := by omega
              have nl1 : Aside (l1 = []) := nil_of (by have := E.out; omega)
              go_wp2_with fail
              refine (rotate_any blk off cap N w0 _ d0 G.out.2.1 G.out.2.2.1 hN _ (pre ++ l1) l2 r1 (r2 ++ post) _ _ _ (by have := E.out; simp; omega) (by have := E.out; simp; omega) (by have := E.out; simp; omega) (by have := E.out; omega) (by have := E.out; omega) (by have := E.out; simp; omega) (by have := T0.out; simpa using this)).mono ?_
              rintro e w1 ⟨rfl, hS⟩
              have T1 : Aside (SL w0 blk off (pre ++ l1 ++ r1 ++ l2 ++ r2 ++ post) w1) := by show SL _ _ _ _ _; simpa using hS
              clear hS T0
              go_wp2_with fail
              obtain ⟨M1, T2⟩ : ∃ M1 : List Int, Aside (M1.Perm (l1 ++ r1) ∧ M1.Pairwise Rel ∧ SL w0 blk off (pre ++ M1 ++ l2 ++ r2 ++ post) w1) := ⟨l1 ++ r1, List.Perm.refl _, by rw [nl1.out]; simpa using Z.out.2.2.1, by have h := T1.out; simpa using h⟩
              have T2l : Aside (M1.length = l1.length + r1.length) := by show M1.length = _; have := T2.out.1.length_eq; simpa using this
              refine (G.out.2.2.2.2.2.2.2.2 (pre ++ M1) l2 r2 post _ _ _ _ (by have := E.out; omega) (by have := E.out; have := T2l.out; simp; omega) (by have := E.out; have := T2l.out; simp; omega) (by have := E.out; have := T2l.out; simp; omega) (by have := E.out; omega) (by have := E.out; omega) (by have := E.out; have := T2l.out; simp; omega) Z.out.2.1 Z.out.2.2.2.1 Z.out.2.2.2.2.2.1 Z.out.2.2.2.2.2.2.2.1 (by have := T2.out.2.2; simpa using this)).mono ?_
              rintro e w3 ⟨rfl, M2, hp2, hs2, hS⟩
              have T3 : Aside (M2.Perm (l2 ++ r2) ∧ M2.Pairwise Rel ∧ SL w0 blk off (pre ++ M1 ++ M2 ++ post) w3) := ⟨hp2, hs2, by simpa using hS⟩
              clear hS hp2 hs2
              go_wp2_with fail
              go_end0
              exact ⟨rfl, M1 ++ M2, (Z.out.2.2.2.2.2.2.2.2 M1 M2 T2.out.1 T3.out.1 T2.out.2.1 T3.out.2.1).1, (Z.out.2.2.2.2.2.2.2.2 M1 M2 T2.out.1 T3.out.1 T2.out.2.1 T3.out.2.1).2, by have h := T3.out.2.2; simpa using h⟩
            · have t1 : m < mid + m - s := by omega
              have t2 : mid < mid + m - s := by omega
              have nl1 : Aside (l1 = []) := nil_of (by have := E.out; omega)
              have nr2 : Aside (r2 = []) := nil_of (by have := E.out; omega)
              go_wp2_with fail
              refine (rotate_any blk off cap N w0 _ d0 G.out.2.1 G.out.2.2.1 hN _ (pre ++ l1) l2 r1 (r2 ++ post) _ _ _ (by have := E.out; simp; omega) (by have := E.out; simp; omega) (by have := E.out; simp; omega) (by have := E.out; omega) (by have := E.out; omega) (by have := E.out; simp; omega) (by have := T0.out; simpa using this)).mono ?_
              rintro e w1 ⟨rfl, hS⟩
              have T1 : Aside (SL w0 blk off (pre ++ l1 ++ r1 ++ l2 ++ r2 ++ post) w1) := by show SL _ _ _ _ _; simpa using hS
              clear hS T0
              obtain ⟨M1, T2⟩ : ∃ M1 : List Int, Aside (M1.Perm (l1 ++ r1) ∧ M1.Pairwise Rel ∧ SL w0 blk off (pre ++ M1 ++ l2 ++ r2 ++ post) w1) := ⟨l1 ++ r1, List.Perm.refl _, by rw [nl1.out]; simpa using Z.out.2.2.1, by have h := T1.out; simpa using h⟩
              obtain ⟨M2, T3⟩ : ∃ M2 : List Int, Aside (M2.Perm (l2 ++ r2) ∧ M2.Pairwise Rel ∧ SL w0 blk off (pre ++ M1 ++ M2 ++ post) w1) := ⟨l2 ++ r2, List.Perm.refl _, by rw [nr2.out]; simpa using Z.out.2.1, by have h := T2.out.2.2; simpa using h⟩
              go_wp2_with fail
              go_end0
              exact ⟨rfl, M1 ++ M2, (Z.out.2.2.2.2.2.2.2.2 M1 M2 T2.out.1 T3.out.1 T2.out.2.1 T3.out.2.1).1, (Z.out.2.2.2.2.2.2.2.2 M1 M2 T2.out.1 T3.out.1 T2.out.2.1 T3.out.2.1).2, by have h := T3.out.2.2; simpa using h⟩
        · by_cases kl1 : a < s
          · have t1 : m < mid + m - s := by omega
            have t2 : ¬ mid < mid + m - s := by omega
            have nl2 : Aside (l2 = []) := nil_of (by have := E.out; omega)
            go_wp2_with fail
            have T1 : Aside (SL w0 blk off (pre ++ l1 ++ r1 ++ l2 ++ r2 ++ post) wr) := by show SL _ _ _ _ _; have h := T0.out; rw [nl2.out] at h ⊢; simpa using h
            clear T0
            refine (G.out.2.2.2.2.2.2.2.2 pre l1 r1 (l2 ++ r2 ++ post) _ _ _ _ (by have := E.out; omega) (by have := E.out; omega) (by have := E.out; omega) (by have := E.out; omega) (by have := E.out; omega) (by have := E.out; omega) (by have := E.out; simp; omega) Z.out.1 Z.out.2.2.1 Z.out.2.2.2.2.1 Z.out.2.2.2.2.2.2.1 (by have := T1.out; simpa using this)).mono ?_
            rintro e w2 ⟨rfl, M1, hp1, hs1, hS⟩
            have T2 : Aside (M1.Perm (l1 ++ r1) ∧ M1.Pairwise Rel ∧ SL w0 blk off (pre ++ M1 ++ l2 ++ r2 ++ post) w2) := ⟨hp1, hs1, by simpa using hS⟩
            clear hS hp1 hs1 T1
            obtain ⟨M2, T3⟩ : ∃ M2 : List Int, Aside (M2.Perm (l2 ++ r2) ∧ M2.Pairwise Rel ∧ SL w0 blk off (pre ++ M1 ++ M2 ++ post) w2) := ⟨l2 ++ r2, List.Perm.refl _, by rw [nl2.out]; simpa using Z.out.2.2.2.1, by have h := T2.out.2.2; simpa using h⟩
            go_wp2_with fail
            go_end0
            exact ⟨rfl, M1 ++ M2, (Z.out.2.2.2.2.2.2.2.2 M1 M2 T2.out.1 T3.out.1 T2.out.2.1 T3.out.2.1).1, (Z.out.2.2.2.2.2.2.2.2 M1 M2 T2.out.1 T3.out.1 T2.out.2.1 T3.out.2.1).2, by have h := T3.out.2.2; simpa using h⟩
          · exfalso; omega
      · by_cases kl2 : s < m
        · by_cases kr2 : mid + m - s < b
          · exfalso; omega
          · exfalso; omega
        · have t1 : ¬ m < mid + m - s := by omega
          have t2 : ¬ mid < mid + m - s := by omega
          have nr1 : Aside (r1 = []) := nil_of (by have := E.out; omega)
          have nl2 : Aside (l2 = []) := nil_of (by have := E.out; omega)
          go_wp2_with fail
          have T1 : Aside (SL w0 blk off (pre ++ l1 ++ r1 ++ l2 ++ r2 ++ post) wr) := by show SL _ _ _ _ _; have h := T0.out; rw [nr1.out] at h ⊢; simpa using h
          clear T0
          obtain ⟨M1, T2⟩ : ∃ M1 : List Int, Aside (M1.Perm (l1 ++ r1) ∧ M1.Pairwise Rel ∧ SL w0 blk off (pre ++ M1 ++ l2 ++ r2 ++ post) wr) := ⟨l1 ++ r1, List.Perm.refl _, by rw [nr1.out]; simpa using Z.out.1, by have h := T1.out; simpa using h⟩
          obtain ⟨M2, T3⟩ : ∃ M2 : List Int, Aside (M2.Perm (l2 ++ r2) ∧ M2.Pairwise Rel ∧ SL w0 blk off (pre ++ M1 ++ M2 ++ post) wr) := ⟨l2 ++ r2, List.Perm.refl _, by rw [nl2.out]; simpa using Z.out.2.2.2.1, by have h := T2.out.2.2; simpa using h⟩
          go_end0
          exact ⟨rfl, M1 ++ M2, (Z.out.2.2.2.2.2.2.2.2 M1 M2 T2.out.1 T3.out.1 T2.out.2.1 T3.out.2.1).1, (Z.out.2.2.2.2.2.2.2.2 M1 M2 T2.out.1 T3.out.1 T2.out.2.1 T3.out.2.1).2, by have h := T3.out.2.2; simpa using h⟩
end Go.Proofs.Ytmldhpnkkkmloaa.SortW

namespace Go.Proofs.Ytmldhpnkkkmloaa.SortW
open Go.Sort Go.RowKit Go.Proofs Go.Proofs.Ytmldhpnkkkmloaa.SortM
set_option linter.unusedVariables false
set_option linter.unusedSimpArgs false

theorem symMerge_any (blk off cap N : Nat) (w0 : World) (d0 : Array Int) (bx : Addr) (cf : Int → Int → Int) (ok : Int → Prop) (Rel : Int → Int → Prop) (hO : Ord Rel) (R : Row1 enc w0 blk off d0) (hd0 : d0.size = N) (hN : N ≤ 1000000) (hC : CmpAt w0 blk off N bx cf ok) (k : Nat) :
    SymOK blk off cap N w0 bx cf ok Rel k := by
  induction k with
  | zero => intro pre L Rr post a m b w h; omega
  | succ k ih =>
    intro pre L Rr post a m b w hk ha hm hb h1 h2 hl hLs hRs hX hok S
    by_cases e1 : L.length = 1
    · obtain ⟨x, rfl⟩ := List.length_eq_one_iff.1 e1
      exact symMerge_left blk off cap N w0 d0 bx cf ok Rel hO R hd0 hN hC pre Rr post x a m b w ha (by simpa using hm) (by simpa using hb) h2 (by simpa using hl) hRs hX (by simpa using hok) S
    · by_cases e2 : Rr.length = 1
      · obtain ⟨x, rfl⟩ := List.length_eq_one_iff.1 e2
        exact symMerge_right blk off cap N w0 d0 bx cf ok Rel hO R hd0 hN hC pre L post x a m b w ha hm (by simpa using hb) (by omega) (by simpa using hl) hLs hX (fun y hy => hok y (by simp at hy ⊢; rcases hy with h | h; exact .inr h; exact .inl h)) S
      · have IH : SymOK blk off cap N w0 bx cf ok Rel (L.length + Rr.length) := fun pre' L' R' post' a' m' b' w' h' => ih pre' L' R' post' a' m' b' w' (by omega)
        by_cases hm1 : m > (a + b) / 2
        · exact symMerge_hi blk off cap N w0 d0 bx cf ok Rel hO R hd0 hN hC pre L Rr post a m b w IH ha hm hb (by omega) (by omega) hl hm1 hLs hRs hX hok S
        · exact symMerge_lo blk off cap N w0 d0 bx cf ok Rel hO R hd0 hN hC pre L Rr post a m b w IH ha hm hb (by omega) (by omega) hl hm1 hLs hRs hX hok S

def Inserted (w0 : World) (blk off : Nat) (Rel : Int → Int → Prop) (pre L post : List Int) (e : Ending) (w' : World) : Prop :=
  e = .returned (.tuple #[]) ∧ ∃ M, M.Perm L ∧ M.Pairwise Rel ∧ SL w0 blk off (pre ++ M ++ post) w'

set_option maxHeartbeats 4000000 in
set_option maxRecDepth 100000 in
theorem insertion_any (blk off cap N : Nat) (w0 : World) (d0 : Array Int) (bx : Addr) (cf : Int → Int → Int) (ok : Int → Prop) (Rel : Int → Int → Prop) (hO : Ord Rel) (R : Row1 enc w0 blk off d0) (hd0 : d0.size = N) (hN : N ≤ 1000000) (hC : CmpAt w0 blk off N bx cf ok)
    (pre L post : List Int) (a b : Int) (w : World) (ha : a = pre.length) (hb : b = pre.length + L.length) (hl : pre.length + L.length + post.length = N)
    (hX : L.Pairwise (Cmp2 cf Rel)) (hk : ∀ y ∈ L, ok y) (S : SL w0 blk off (pre ++ L ++ post) w) :
    Calls Try.prog 50 #[.slice (some ⟨blk, off, none⟩) N cap, .int .i64 a, .int .i64 b, .func (.func 26) #[] #[.pointer (some bx)]] w (Inserted w0 blk off Rel pre L post) := by
  have S0 : Aside (SL w0 blk off (pre ++ L ++ post) w) := S
  clear S
  have b1 : (0 : Int) ≤ a := by omega
  have b3 : a ≤ b := by omega
  have b4 : b ≤ (N : Int) := by omega
  have b5 : (N : Int) ≤ 1000000 := by omega
  have F : Aside (a = (pre.length : Int) ∧ b = (pre.length : Int) + L.length ∧ pre.length + L.length + post.length = N) := ⟨ha, hb, hl⟩
  have G : Aside (Ord Rel ∧ Row1 enc w0 blk off d0 ∧ d0.size = N ∧ CmpAt w0 blk off N bx cf ok ∧ L.Pairwise (Cmp2 cf Rel) ∧ (∀ y ∈ L, ok y)) := ⟨hO, R, hd0, hC, hX, hk⟩
  clear hO R hd0 hC hX hk ha hb hl
  go_enter Try.func50, Try.ntmps50
  go_wp2_with fail
  by_cases hemp : a = b
  · subst hemp
    have hL0 : L = [] := List.length_eq_zero_iff.1 (by have := F.out; omega)
    subst hL0
    go_loopw [8] (fun vi wr => vi = .int .i64 (a + 1) ∧ Aside (SL w0 blk off (pre ++ [] ++ post) wr)) (fun vi _ => 0)
    case atStart => exact ⟨rfl, S0.out⟩
    case round =>
      obtain ⟨rfl, S1⟩ := hrel
      go_wp2_with fail
      go_end0
      exact ⟨rfl, [], List.Perm.refl _, List.Pairwise.nil, S1.out⟩
  · have hab : a < b := by omega
    clear hemp
    go_loopw [8] (fun vi wr => ∃ (i : Int) (D M rest : List Int), vi = .int .i64 i ∧ a < i ∧ i ≤ b ∧ Aside (L = D ++ rest ∧ (D.length : Int) = i - a ∧ M.Perm D ∧ M.Pairwise Rel ∧ SL w0 blk off (pre ++ M ++ rest ++ post) wr)) (fun vi _ => (b - intOf vi).toNat)
    case atStart =>
      cases L with
      | nil => exfalso; have := F.out; simp at this; omega
      | cons x L => exact ⟨a + 1, [x], [x], L, rfl, by omega, by omega, by simp, by simp; omega, List.Perm.refl _, by simp, by simpa using S0.out⟩
    case round =>
      clear S0
      obtain ⟨i, D, M, rest, rfl, hai, hib, S1⟩ := hrel
      by_cases hlt : i < b
      · obtain ⟨x, rest2, er⟩ : ∃ x r, rest = x :: r := by
          cases rest with
          | nil => exfalso; have h1 := S1.out.1; have h2 := S1.out.2.1; have h3 := F.out.1; have := F.out.2.1; rw [h1] at this; simp at this; omega
          | cons x r => exact ⟨x, r, rfl⟩
        subst er
        have S2 : Aside (L = D ++ x :: rest2 ∧ (D.length : Int) = i - a ∧ (M.length : Int) = i - a ∧ M.Perm D ∧ M.Pairwise Rel ∧ ok x ∧ (∀ y ∈ M, ok y ∧ (cf x y < 0 → Rel x y) ∧ (¬ cf x y < 0 → Rel y x)) ∧ SL w0 blk off (pre ++ M ++ [x] ++ rest2 ++ post) wr) := by
          obtain ⟨e1, e2, e3, e4, e5⟩ := S1.out
          obtain ⟨hO, R, hd0, hC, hX, hk⟩ := G.out
          rw [e1] at hX hk
          refine ⟨e1, e2, by rw [e3.length_eq]; exact e2, e3, e4, hk x (by simp), fun y hy => ?_, by simpa using e5⟩
          have hy' := e3.mem_iff.1 hy
          have := (List.pairwise_append.1 hX).2.2 y hy' x (by simp)
          exact ⟨hk y (by simp [hy']), this.1, this.2⟩
        clear S1
        go_wp2_with fail
        go_loopw [9] (fun vj wr => ∃ (j : Int) (ma mb : List Int), vj = .int .i64 j ∧ a ≤ j ∧ j ≤ i ∧ Aside (M = ma ++ mb ∧ (ma.length : Int) = j - a ∧ (∀ y, mb.head? = some y → Rel x y) ∧ SL w0 blk off (pre ++ ma ++ [x] ++ mb ++ rest2 ++ post) wr)) (fun vj _ => (intOf vj - a).toNat)
        case atStart => exact ⟨i, M, [], rfl, by omega, by omega, by simp, S2.out.2.2.1, by simp, by have := S2.out.2.2.2.2.2.2.2; simpa using this⟩
        case round =>
          obtain ⟨j, ma, mb, rfl, hja, hji, S3⟩ := hrel
          have finish : ∀ wx, SL w0 blk off (pre ++ ma ++ [x] ++ mb ++ rest2 ++ post) wx → (∀ y, ma.getLast? = some y → Rel y x) → ∃ (D' M' rest' : List Int), Aside (L = D' ++ rest' ∧ (D'.length : Int) = i + 1 - a ∧ M'.Perm D' ∧ M'.Pairwise Rel ∧ SL w0 blk off (pre ++ M' ++ rest' ++ post) wx) := by
            intro wx hS hl
            obtain ⟨e1, e2, e3, e4, e5, e6, e7, e8⟩ := S2.out
            obtain ⟨f1, f2, f3, f4⟩ := S3.out
            rw [f1] at e5
            obtain ⟨q1, q2⟩ := insert_right G.out.1 x ma mb e5 hl f3
            refine ⟨D ++ [x], ma ++ x :: mb, rest2, by rw [e1]; simp, by simp; omega, ?_, q2, by simpa using hS⟩
            rw [← f1] at q1
            exact q1.trans (List.Perm.append_right _ e4)
          have FIN : Aside (∀ wx, SL w0 blk off (pre ++ ma ++ [x] ++ mb ++ rest2 ++ post) wx → (∀ y, ma.getLast? = some y → Rel y x) → ∃ (D' M' rest' : List Int), Aside (L = D' ++ rest' ∧ (D'.length : Int) = i + 1 - a ∧ M'.Perm D' ∧ M'.Pairwise Rel ∧ SL w0 blk off (pre ++ M' ++ rest' ++ post) wx)) := finish
          clear finish
          by_cases hgt : a < j
          · obtain ⟨ma2, y, em⟩ : ∃ ma2 y, ma = ma2 ++ [y] := by
              obtain ⟨f1, f2, f3, f4⟩ := S3.out
              exact ⟨ma.dropLast, ma.getLast (by intro e; rw [e] at f2; simp at f2; omega), (List.dropLast_concat_getLast _).symm⟩
            subst em
            obtain ⟨iN, hiN⟩ : ∃ q, q = j.toNat := ⟨_, rfl⟩
            obtain ⟨jN, hjN⟩ : ∃ q, q = (j - 1).toNat := ⟨_, rfl⟩
            have S5 : Aside (SL w0 blk off ((pre ++ ma2) ++ y :: ([] ++ x :: (mb ++ rest2 ++ post))) wr) := by show SL _ _ _ _ _; have := S3.out.2.2.2; simpa using this
            have P : Aside (iN = (pre ++ ma2).length + 1 + ([] : List Int).length ∧ jN = (pre ++ ma2).length ∧ ((pre ++ ma2) ++ y :: ([] ++ x :: (mb ++ rest2 ++ post))).length = N ∧ ((pre ++ ma2) ++ y :: ([] ++ x :: (mb ++ rest2 ++ post))).toArray.size = d0.size ∧ jN < d0.size ∧ iN < d0.size) := by
              obtain ⟨ha, hb, hl⟩ := F.out
              obtain ⟨e1, e2, e3, e4, e5, e6, e7, e8⟩ := S2.out
              obtain ⟨f1, f2, f3, f4⟩ := S3.out
              have h0 := G.out.2.2.1
              rw [e1] at hl hb
              rw [f1] at e3
              simp at hl hb e3 f2
              exact ⟨by simp; omega, by simp; omega, by simp; omega, by simp; omega, by omega, by omega⟩
            have Y : Aside (ok x ∧ ok y ∧ (cf x y < 0 → Rel x y) ∧ (¬ cf x y < 0 → Rel y x)) := by
              obtain ⟨e1, e2, e3, e4, e5, e6, e7, e8⟩ := S2.out
              obtain ⟨f1, f2, f3, f4⟩ := S3.out
              have h := e7 y (by rw [f1]; simp)
              exact ⟨e6, h.1, h.2.1, fun hh => h.2.2 (by omega)⟩
            have c1 := S5.out.c1 G.out.2.1 P.out.2.2.2.1 iN (by have := P.out.2.2.2; omega)
            have c2 := S5.out.c1 G.out.2.1 P.out.2.2.2.1 jN (by have := P.out.2.2.2; omega)
            rw [at_list _ _ y jN P.out.2.1] at c2
            rw [show (pre ++ ma2) ++ y :: ([] ++ x :: (mb ++ rest2 ++ post)) = ((pre ++ ma2) ++ y :: []) ++ x :: (mb ++ rest2 ++ post) by simp, at_list _ _ x iN (by have := P.out.1; simp at this; simp; omega)] at c1
            have pa : (0 : Int) ≤ j - 1 := by omega
            have pk : (0 : Int) ≤ j := by omega
            have ba : j < (N : Int) := by omega
            have bc : j - 1 < (N : Int) := by omega
            have rc : IntKind.i64.wrap (j - 1) = j - 1 := by rw [IntKind.wrap_i64]; omega
            have ea : j.toNat = iN := hiN.symm
            have ec : (j - 1).toNat = jN := hjN.symm
            have HC : Aside (∀ q : Nat, Calls Try.prog 26 #[.int .i64 x, .int .i64 y, .pointer (some bx)] (wr.drewN q) fun e w' => e = .returned (.int .i64 (cf x y)) ∧ ∃ q', w' = (wr.drewN q).drewN q') :=
              fun q => G.out.2.2.2.1 _ (wr.drewN q) P.out.2.2.1 (S5.out.drewN q) x y Y.out.1 Y.out.2.1
            clear hiN hjN
            obtain ⟨c, hcv⟩ : ∃ c, c = cf x y := ⟨_, rfl⟩
            rw [← hcv] at HC
            have HV : Aside (c = cf x y) := hcv
            clear hcv
            have hgd : decide (a < j) = true := decide_eq_true hgt
            by_cases hneg : c < 0
            · have hd : decide (c < 0) = true := decide_eq_true hneg
              go_wp2_with fail
              go_quiet (exact Calls.quiet_of (HC.out _))
              clear HC c1 c2
              obtain ⟨wq, hwq⟩ : ∃ wq, wq = wr.drewN nq := ⟨_, rfl⟩
              have S7 : Aside (SL w0 blk off ((pre ++ ma2) ++ y :: ([] ++ x :: (mb ++ rest2 ++ post))) wq) := by show SL _ _ _ _ _; rw [hwq]; exact S5.out.drewN _
              rw [← hwq]
              clear hwq S5
              have S6 : Aside (SL w0 blk off ((pre ++ ma2) ++ x :: ([] ++ y :: (mb ++ rest2 ++ post))) ((wq.setCell ⟨blk, off + iN, none⟩ (enc y)).setCell ⟨blk, off + jN, none⟩ (enc x)).drew) :=
                SL.swap' G.out.2.1 _ _ _ y x S7.out iN jN P.out.1 P.out.2.1
              have c1 := S7.out.c1 G.out.2.1 P.out.2.2.2.1 iN (by have := P.out.2.2.2; omega)
              have c2 := S7.out.c1 G.out.2.1 P.out.2.2.2.1 jN (by have := P.out.2.2.2; omega)
              have f1 := S7.out.f1 G.out.2.1 P.out.2.2.2.1 iN (by have := P.out.2.2.2; omega)
              have f2 := S7.out.f1 G.out.2.1 P.out.2.2.2.1 jN (by have := P.out.2.2.2; omega)
              obtain ⟨u, c3⟩ := S7.out.c2 G.out.2.1 P.out.2.2.2.1 iN jN (by have := P.out.2.2.2; omega) (by have := P.out.2.2.2; omega) (enc y)
              rw [at_list _ _ y jN P.out.2.1] at c2
              rw [show (pre ++ ma2) ++ y :: ([] ++ x :: (mb ++ rest2 ++ post)) = ((pre ++ ma2) ++ y :: []) ++ x :: (mb ++ rest2 ++ post) by simp, at_list _ _ x iN (by have := P.out.1; simp at this; simp; omega)] at c1
              clear S7 P
              go_wp2_with fail
              go_region
              clear c1 c2 c3 f1 f2 ea ec pa ba bc rc
              generalize ((wq.setCell ⟨blk, off + iN, none⟩ (enc y)).setCell ⟨blk, off + jN, none⟩ (enc x)).drew = w3 at S6 ⊢
              go_wp2_with fail
              go_roundw
              case rel => exact ⟨j - 1, ma2, y :: mb, rfl, by omega, by omega, by have := S3.out.1; simpa using this, by have := S3.out.2.1; simp at this; omega, fun z hz => by simp at hz; subst hz; exact Y.out.2.2.1 (by rw [← HV.out]; exact hneg), by have := S6.out; simpa using this⟩
              case measure => simp [intOf]; omega
            · have hd : decide (c < 0) = false := decide_eq_false hneg
              go_wp2_with fail
              go_quiet (exact Calls.quiet_of (HC.out _))
              clear HC c1 c2
              obtain ⟨D', M', rest', FF⟩ := FIN.out (wr.drewN nq) (S3.out.2.2.2.drewN _) (fun z hz => by simp at hz; subst hz; exact Y.out.2.2.2 (by rw [← HV.out]; exact hneg))
              go_wp2_with fail
              go_roundw
              case rel => exact ⟨i + 1, D', M', rest', rfl, by omega, by omega, FF.out⟩
              case measure => simp [intOf]; omega
          · have hgd : decide (a < j) = false := decide_eq_false hgt
            have hm0 : ma = [] := List.length_eq_zero_iff.1 (by have := S3.out.2.1; omega)
            go_wp2_with fail
            go_quiet (fail)
            obtain ⟨D', M', rest', FF⟩ := FIN.out (wr.drewN nq) (S3.out.2.2.2.drewN _) (fun z hz => by rw [hm0] at hz; simp at hz)
            go_wp2_with fail
            go_roundw
            case rel => exact ⟨i + 1, D', M', rest', rfl, by omega, by omega, FF.out⟩
            case measure => simp [intOf]; omega
      · obtain rfl : i = b := by omega
        go_wp2_with fail
        go_end0
        obtain ⟨e1, e2, e3, e4, e5⟩ := S1.out
        have er : rest = [] := List.length_eq_zero_iff.1 (by have h3 := F.out.1; have := F.out.2.1; rw [e1] at this; simp at this; omega)
        subst er
        exact ⟨rfl, M, by rw [e1]; simpa using e3, e4, by simpa using e5⟩
end Go.Proofs.Ytmldhpnkkkmloaa.SortW
