/- AttnFused: of any pages and plain tokens a query gathers just what it gathers of what they mean, as lists. (part 1: functions of the program as plain functions, and what is shown of them.) Conditions: as each theorem states; the last one has none. -/
import Derived.Test.YteflolamihhmdaaWN
import Derived.Test.YteflolamihhmdaaWMore
import Derived.Test.YteflolamihhmdaaWLast
import Derived.Test.YteflolamihhmdaaProg
import Derived.Below
import Derived.Deep.Draws
import Derived.Deep.AppendLies
import Derived.Maps.AppendAt
import Derived.OwnWalk
import Derived.Laws.BytesArg
import Derived.Laws.MakeOwn
import Derived.Laws.OwnMore
import Derived.Deep.OwnRows
import Derived.Tactics
import Derived.Lib.ConvBytes
import Derived.Laws.Slices
import Derived.WalkKit
import Derived.KernelRfl
import Derived.RowKit3
import Derived.Deep.LoopGhost
import Derived.Deep.QuietTactic
import Derived.BigQuiet
import Derived.WideLaws
import Derived.Deep.DeepCutAuto
import Derived.Deep.CutBlock
import Derived.Deep.RegionHeld3
import Derived.Laws.Rows
import Derived.Lib.AppendStr
import Derived.ArgAppend
import Derived.Laws.IdiomCopy
import Derived.OrdersHeld
import Derived.Laws.BitsLemmas
import Derived.RowKit
import Derived.Test.YteflolamihhmdaaWWords
import Derived.Test.YteflolamihhmdaaWTab
import Derived.Test.YteflolamihhmdaaWFour
import Derived.Test.YteflolamihhmdaaWQPut
import Derived.Test.YteflolamihhmdaaWApart
import Derived.Test.YteflolamihhmdaaWArr
import Derived.Test.YteflolamihhmdaaWZeros
import Derived.Test.YteflolamihhmdaaWFoot
import Derived.Test.YteflolamihhmdaaWKept
import Derived.Test.YteflolamihhmdaaWShare
import Derived.Test.YteflolamihhmdaaWFootNe
import Derived.Test.YteflolamihhmdaaWAt
import Derived.Test.YteflolamihhmdaaWEqStruct
import Derived.Test.YteflolamihhmdaaWRepsOne
import Derived.Test.YteflolamihhmdaaWInv
import Derived.Test.YteflolamihhmdaaWInvWords
import Derived.Test.YteflolamihhmdaaWGuard
import Derived.Test.YteflolamihhmdaaWNEv
import Derived.Test.YteflolamihhmdaaWSized
import Derived.ProofKit
import Derived.OpenShut
import Derived.ChangeOld
import Derived.Deep.Matrix
import Derived.Deep.Strs
import Derived.Lib.SmallJoins
import Derived.Test.YteflolamihhmdaaRows
import Derived.Deep.Slices
set_option maxHeartbeats 8000000
set_option maxRecDepth 100000
set_option linter.unusedVariables false
set_option linter.unusedSimpArgs false
namespace Go.Proofs.YteflolamihhmdaaW.PrintWords
open Go.RowKit
theorem bl_ {p : Prop} (h : p := by repeat (first | (with_reducible first | exact HB.out | apply below_alloc | apply pw_below_drewN | apply below_drew1 | refine below_set ?_ (Aside0.out (by assumption))) | exact HB.out)) : p := h
theorem mv_ {q p : Prop} (hq : q) (h : q → p := by intro hq_; (with_reducible repeat (first | apply Kd.R_alloc | apply Kd.R_drewN | apply Kd.R_drew | apply Kd.N_alloc | apply Kd.N_drewN | apply Kd.N_drew | apply Kd.S_alloc | apply Kd.S_drewN | apply Kd.S_drew | apply Kd.V_alloc | apply Kd.V_drewN | apply Kd.V_drew | refine blk_drewN ?_ _ | refine blk_drew ?_ | refine blk_alloc ?_ _)); exact hq_) : p := h hq
theorem ar_ {p : Prop} (h : p := by (try simp only [List.map_toArray, List.map_cons, List.map_nil]); first | done | rfl | (simp only [List.length_drop, List.length_take]; rfl)) : p := h
theorem ew_ {p : Prop} (h : p := by first | rfl | (simp [errW_none, errW_some] <;> rfl) | (simp [*, errW_none, errW_some] <;> rfl)) : p := h
theorem A_ {p : Prop} (h : p) : Aside0 p := ⟨h⟩
theorem cb_ {q p : Prop} (hq : q) (h : q → p := by intro hq_; repeat (first | exact hq_ | (with_reducible refine Kd.C_alloc ?_ _) | (with_reducible refine Kd.C_drewN ?_ _) | (with_reducible refine Kd.C_drew ?_))) : p := h hq
theorem hy_ {α : Type} {y v : α} {q p : Prop} (e : y = v) (hq : q) (h : y = v → q → p := by intro he_ H_; first | (rw [he_]; with_reducible exact H_) | (have H2_ := (Option.bind_some _ _).symm.trans H_; rw [he_]; with_reducible exact H2_) | (have H2_ := (Option.bind_some _ _).symm.trans H_; with_reducible exact H2_) | with_reducible exact H_ | (rw [he_]; exact H_) | exact H_) : p := h e hq
theorem nb_ {q p : Prop} (hq : q) (h : q → p := by intro hq_; first | exact Kd.N_base hq_ | exact Kd.S_base hq_) : p := h hq
theorem nil_ {p : Prop} (h : p := by first | exact Kd.S_nil _ _ _ _ _ | exact Kd.N_nil _ _ _ _ _ | exact Kd.V_nil _ _ _ _ _ | exact Kd.Q_nil _ _ _ _ _ | exact Kd.R_nil _ _ _ _ _) : p := h
theorem bb_ {w0 w w1 : World} {g : Nat} {o : Obj} (h : w0.heap[g]? = some o) (hb : Below w.heap.size w w1) (t : w0.heap[g]? = some o → w.heap[g]? = some o := by intro hq_; (with_reducible repeat (first | refine blk_drewN ?_ _ | refine blk_drew ?_ | refine blk_alloc ?_ _)); exact hq_) : w1.heap[g]? = some o := blk_below (t h) hb
theorem bg_ {w0 w w1 : World} {g : Nat} {o : Obj} {row : Option Nat} (h : w0.heap[g]? = some o) (hg : w.grownBy w1 row) (hne : some g ≠ row) (t : w0.heap[g]? = some o → w.heap[g]? = some o := by intro hq_; (with_reducible repeat (first | refine blk_drewN ?_ _ | refine blk_drew ?_ | refine blk_alloc ?_ _)); exact hq_) : w1.heap[g]? = some o := blk_grown (t h) hg hne
theorem lt_ {w0 w : World} {g : Nat} {o : Obj} (h : w0.heap[g]? = some o) (t : w0.heap[g]? = some o → w.heap[g]? = some o := by intro hq_; (with_reducible repeat (first | refine blk_drewN ?_ _ | refine blk_drew ?_ | refine blk_alloc ?_ _)); exact hq_) : g < w.heap.size := blk_lt (t h)
theorem rs_ {p : Prop} (h : p := by first | rfl | (simp; done) | (simp [*]; done)) : p := h
theorem d0_ {p : Prop} (h : p := by repeat (first | exact Drawn0.refl _ | apply Drawn0.step)) : p := h
theorem dd_ {p : Prop} (h : p := by first | exact ⟨rfl, _, World.drewN_drewN _ _ _⟩ | exact ⟨rfl, _, Eq.trans (World.drewN_drewN _ _ _) (congrArg (World.drewN _) (Nat.add_assoc _ _ _))⟩) : p := h
theorem od_ {p : Prop} [Decidable p] (h : decide p = true := by first | (with_reducible assumption) | assumption) : p := of_decide_eq_true h
theorem hc_ {w w' : World} {a : Addr} {v : Value} (h : Below w.heap.size w w') (x : w.cell? a = some v) : w'.cell? a = some v := (h.cell (World.block_lt_of_cell? w _ x)).trans x
theorem gw_ (w : World) {w' : World} {g : Nat} (hg : g = w'.heap.size) (h : Below w.heap.size w w' := by repeat (first | (with_reducible first | exact HB.out | apply below_alloc | apply pw_below_drewN | apply below_drew1 | refine below_set ?_ (Aside0.out (by assumption))) | exact HB.out)) : w.heap.size ≤ g := by rw [hg]; exact below_size h
theorem af_ {q p : Prop} (hq : q) (h : q → p := by intro hq_; first | (rw [add_block]; exact hq_) | (show (Addr.add _ _).block ≠ _; rw [add_block]; exact hq_) | exact hq_) : p := h hq
theorem nf_ {w : World} {a : Addr} {v : Value} {n g : Nat} {q : Prop} (x : w.cell? a = some v) (G : n ≤ g) (h : w.cell? a = some v → n ≤ g → q := by intro hx_ hG_; first | exact Nat.ne_of_lt (Nat.lt_of_lt_of_le (by have := World.block_lt_of_cell? _ _ hx_; first | rwa [add_block] at this | exact this) hG_) | (rw [add_block]; exact Nat.ne_of_lt (Nat.lt_of_lt_of_le (by have := World.block_lt_of_cell? _ _ hx_; first | rwa [add_block] at this | exact this) hG_)) | (show (Addr.add _ _).block ≠ _; rw [add_block]; exact Nat.ne_of_lt (Nat.lt_of_lt_of_le (by have := World.block_lt_of_cell? _ _ hx_; first | rwa [add_block] at this | exact this) hG_)) | (dsimp only; exact Nat.ne_of_lt (Nat.lt_of_lt_of_le (by have := World.block_lt_of_cell? _ _ hx_; first | rwa [add_block] at this | exact this) hG_))) : q := h x G
theorem ob_ {α β : Type} {x : Option α} {f : α → Option β} {r : β} (h : x.bind f = some r) : ∃ y, Aside0 (x = some y) ∧ f y = some r := by
 obtain ⟨y, h1, h2⟩ := Option.bind_eq_some_iff.mp h
 exact ⟨y, ⟨h1⟩, h2⟩
theorem ps_ {α : Type} : (∀ (l : List α) (i : Nat) (a : α), l.toArray.setIfInBounds i a = (l.set i a).toArray) ∧ (∀ (x y : α) (l : List α), (x :: l).set 0 y = y :: l) ∧ (∀ (x y : α) (l : List α) (n : Nat), (x :: l).set (n + 1) y = x :: l.set n y) :=
 ⟨fun _ _ _ => List.setIfInBounds_toArray .., fun _ _ _ => List.set_cons_zero, fun _ _ _ _ => List.set_cons_succ⟩
theorem f9_ {W : World} {q : Addr} {v : Option Value} {g i0 i1 i2 i3 i4 i5 i6 i7 i8 : Nat} {u0 u1 u2 u3 u4 u5 u6 u7 u8 : Value} (h : q.block ≠ g) (x : W.cell? q = v) : (((((((((W.setCell ⟨g, i0, none⟩ u0).setCell ⟨g, i1, none⟩ u1).setCell ⟨g, i2, none⟩ u2).setCell ⟨g, i3, none⟩ u3).setCell ⟨g, i4, none⟩ u4).setCell ⟨g, i5, none⟩ u5).setCell ⟨g, i6, none⟩ u6).setCell ⟨g, i7, none⟩ u7).setCell ⟨g, i8, none⟩ u8).cell? q = v := by
 simp only [cell_far (p := ⟨g, _, none⟩) h, x]
theorem c0_ {W : World} {g : Nat} {t : TypeId} {x0 : Value} {l : List Value} (h : W.heap[g]? = some (.cells (List.toArray (x0 :: l)) t (0, 0))) : W.cell? ⟨g, 0, none⟩ = some x0 := (blk_cell h 0).trans rfl
theorem c1_ {W : World} {g : Nat} {t : TypeId} {x0 x1 : Value} {l : List Value} (h : W.heap[g]? = some (.cells (List.toArray (x0 :: x1 :: l)) t (0, 0))) : W.cell? ⟨g, 1, none⟩ = some x1 := (blk_cell h 1).trans rfl
theorem c2_ {W : World} {g : Nat} {t : TypeId} {x0 x1 x2 : Value} {l : List Value} (h : W.heap[g]? = some (.cells (List.toArray (x0 :: x1 :: x2 :: l)) t (0, 0))) : W.cell? ⟨g, 2, none⟩ = some x2 := (blk_cell h 2).trans rfl
theorem c3_ {W : World} {g : Nat} {t : TypeId} {x0 x1 x2 x3 : Value} {l : List Value} (h : W.heap[g]? = some (.cells (List.toArray (x0 :: x1 :: x2 :: x3 :: l)) t (0, 0))) : W.cell? ⟨g, 3, none⟩ = some x3 := (blk_cell h 3).trans rfl
theorem c4_ {W : World} {g : Nat} {t : TypeId} {x0 x1 x2 x3 x4 : Value} {l : List Value} (h : W.heap[g]? = some (.cells (List.toArray (x0 :: x1 :: x2 :: x3 :: x4 :: l)) t (0, 0))) : W.cell? ⟨g, 4, none⟩ = some x4 := (blk_cell h 4).trans rfl
theorem c5_ {W : World} {g : Nat} {t : TypeId} {x0 x1 x2 x3 x4 x5 : Value} {l : List Value} (h : W.heap[g]? = some (.cells (List.toArray (x0 :: x1 :: x2 :: x3 :: x4 :: x5 :: l)) t (0, 0))) : W.cell? ⟨g, 5, none⟩ = some x5 := (blk_cell h 5).trans rfl
theorem c6_ {W : World} {g : Nat} {t : TypeId} {x0 x1 x2 x3 x4 x5 x6 : Value} {l : List Value} (h : W.heap[g]? = some (.cells (List.toArray (x0 :: x1 :: x2 :: x3 :: x4 :: x5 :: x6 :: l)) t (0, 0))) : W.cell? ⟨g, 6, none⟩ = some x6 := (blk_cell h 6).trans rfl
theorem c7_ {W : World} {g : Nat} {t : TypeId} {x0 x1 x2 x3 x4 x5 x6 x7 : Value} {l : List Value} (h : W.heap[g]? = some (.cells (List.toArray (x0 :: x1 :: x2 :: x3 :: x4 :: x5 :: x6 :: x7 :: l)) t (0, 0))) : W.cell? ⟨g, 7, none⟩ = some x7 := (blk_cell h 7).trans rfl
theorem c8_ {W : World} {g : Nat} {t : TypeId} {x0 x1 x2 x3 x4 x5 x6 x7 x8 : Value} {l : List Value} (h : W.heap[g]? = some (.cells (List.toArray (x0 :: x1 :: x2 :: x3 :: x4 :: x5 :: x6 :: x7 :: x8 :: l)) t (0, 0))) : W.cell? ⟨g, 8, none⟩ = some x8 := (blk_cell h 8).trans rfl
theorem k2_ {W : World} {g : Nat} {t : TypeId} {x0 x1 : Value} (h : W.heap[g]? = some (.cells #[x0, x1] t (0, 0))) : W.cell? ⟨g, 0, none⟩ = some x0 ∧ W.cell? ⟨g, 1, none⟩ = some x1 ∧ W.frozen? ⟨g, 0, none⟩ = false ∧ W.frozen? ⟨g, 1, none⟩ = false := ⟨(blk_cell h 0).trans rfl, (blk_cell h 1).trans rfl, blk_frozen h 0, blk_frozen h 1⟩
theorem k3_ {W : World} {g : Nat} {t : TypeId} {x0 x1 x2 : Value} (h : W.heap[g]? = some (.cells #[x0, x1, x2] t (0, 0))) : W.cell? ⟨g, 0, none⟩ = some x0 ∧ W.cell? ⟨g, 1, none⟩ = some x1 ∧ W.cell? ⟨g, 2, none⟩ = some x2 ∧ W.frozen? ⟨g, 0, none⟩ = false ∧ W.frozen? ⟨g, 1, none⟩ = false ∧ W.frozen? ⟨g, 2, none⟩ = false := ⟨(blk_cell h 0).trans rfl, (blk_cell h 1).trans rfl, (blk_cell h 2).trans rfl, blk_frozen h 0, blk_frozen h 1, blk_frozen h 2⟩
theorem k6_ {W : World} {g : Nat} {t : TypeId} {x0 x1 x2 x3 x4 x5 : Value} (h : W.heap[g]? = some (.cells #[x0, x1, x2, x3, x4, x5] t (0, 0))) : W.cell? ⟨g, 0, none⟩ = some x0 ∧ W.cell? ⟨g, 1, none⟩ = some x1 ∧ W.cell? ⟨g, 2, none⟩ = some x2 ∧ W.cell? ⟨g, 3, none⟩ = some x3 ∧ W.cell? ⟨g, 4, none⟩ = some x4 ∧ W.cell? ⟨g, 5, none⟩ = some x5 ∧ W.frozen? ⟨g, 0, none⟩ = false ∧ W.frozen? ⟨g, 1, none⟩ = false ∧ W.frozen? ⟨g, 2, none⟩ = false ∧ W.frozen? ⟨g, 3, none⟩ = false ∧ W.frozen? ⟨g, 4, none⟩ = false ∧ W.frozen? ⟨g, 5, none⟩ = false := ⟨(blk_cell h 0).trans rfl, (blk_cell h 1).trans rfl, (blk_cell h 2).trans rfl, (blk_cell h 3).trans rfl, (blk_cell h 4).trans rfl, (blk_cell h 5).trans rfl, blk_frozen h 0, blk_frozen h 1, blk_frozen h 2, blk_frozen h 3, blk_frozen h 4, blk_frozen h 5⟩
theorem k7_ {W : World} {g : Nat} {t : TypeId} {x0 x1 x2 x3 x4 x5 x6 : Value} (h : W.heap[g]? = some (.cells #[x0, x1, x2, x3, x4, x5, x6] t (0, 0))) : W.cell? ⟨g, 0, none⟩ = some x0 ∧ W.cell? ⟨g, 1, none⟩ = some x1 ∧ W.cell? ⟨g, 2, none⟩ = some x2 ∧ W.cell? ⟨g, 3, none⟩ = some x3 ∧ W.cell? ⟨g, 4, none⟩ = some x4 ∧ W.cell? ⟨g, 5, none⟩ = some x5 ∧ W.cell? ⟨g, 6, none⟩ = some x6 ∧ W.frozen? ⟨g, 0, none⟩ = false ∧ W.frozen? ⟨g, 1, none⟩ = false ∧ W.frozen? ⟨g, 2, none⟩ = false ∧ W.frozen? ⟨g, 3, none⟩ = false ∧ W.frozen? ⟨g, 4, none⟩ = false ∧ W.frozen? ⟨g, 5, none⟩ = false ∧ W.frozen? ⟨g, 6, none⟩ = false := ⟨(blk_cell h 0).trans rfl, (blk_cell h 1).trans rfl, (blk_cell h 2).trans rfl, (blk_cell h 3).trans rfl, (blk_cell h 4).trans rfl, (blk_cell h 5).trans rfl, (blk_cell h 6).trans rfl, blk_frozen h 0, blk_frozen h 1, blk_frozen h 2, blk_frozen h 3, blk_frozen h 4, blk_frozen h 5, blk_frozen h 6⟩
theorem k9_ {W : World} {g : Nat} {t : TypeId} {x0 x1 x2 x3 x4 x5 x6 x7 x8 : Value} (h : W.heap[g]? = some (.cells #[x0, x1, x2, x3, x4, x5, x6, x7, x8] t (0, 0))) : W.cell? ⟨g, 0, none⟩ = some x0 ∧ W.cell? ⟨g, 1, none⟩ = some x1 ∧ W.cell? ⟨g, 2, none⟩ = some x2 ∧ W.cell? ⟨g, 3, none⟩ = some x3 ∧ W.cell? ⟨g, 4, none⟩ = some x4 ∧ W.cell? ⟨g, 5, none⟩ = some x5 ∧ W.cell? ⟨g, 6, none⟩ = some x6 ∧ W.cell? ⟨g, 7, none⟩ = some x7 ∧ W.cell? ⟨g, 8, none⟩ = some x8 ∧ W.frozen? ⟨g, 0, none⟩ = false ∧ W.frozen? ⟨g, 1, none⟩ = false ∧ W.frozen? ⟨g, 2, none⟩ = false ∧ W.frozen? ⟨g, 3, none⟩ = false ∧ W.frozen? ⟨g, 4, none⟩ = false ∧ W.frozen? ⟨g, 5, none⟩ = false ∧ W.frozen? ⟨g, 6, none⟩ = false ∧ W.frozen? ⟨g, 7, none⟩ = false ∧ W.frozen? ⟨g, 8, none⟩ = false := ⟨(blk_cell h 0).trans rfl, (blk_cell h 1).trans rfl, (blk_cell h 2).trans rfl, (blk_cell h 3).trans rfl, (blk_cell h 4).trans rfl, (blk_cell h 5).trans rfl, (blk_cell h 6).trans rfl, (blk_cell h 7).trans rfl, (blk_cell h 8).trans rfl, blk_frozen h 0, blk_frozen h 1, blk_frozen h 2, blk_frozen h 3, blk_frozen h 4, blk_frozen h 5, blk_frozen h 6, blk_frozen h 7, blk_frozen h 8⟩
theorem bn_ {w : World} {g : Nat} {o : Obj} (h : w.heap[g]? = some o) (n : Nat) : (w.drewN n).heap[g]? = some o := blk_drewN h n
theorem bd_ {w : World} {g : Nat} {o : Obj} (h : w.heap[g]? = some o) : w.drew.heap[g]? = some o := blk_drew h
theorem ba_ {w : World} {g : Nat} {o : Obj} (h : w.heap[g]? = some o) (o' : Obj) : (w.alloc o').heap[g]? = some o := blk_alloc h o'
theorem ft_ {q f p : Prop} (hq : q) (hf : f) (h : q → f → p := by intro hq_ hf_; (repeat (first | (with_reducible first | refine blk_drewN ?_ _ | refine blk_drew ?_ | refine blk_alloc ?_ _) | refine blk_far ?_ hf_ _)); exact hq_) : p := h hq hf
theorem br_ {p : Prop} (h : p := by repeat (first | exact Below.refl _ _ | apply below_alloc | apply pw_below_drewN | apply below_drew1)) : p := h
end Go.Proofs.YteflolamihhmdaaW.PrintWords

namespace Go.Proofs.Yteflolamihhmdaa.Q
open Go.RowKit Go.Proofs.YteflolamihhmdaaW.PrintWords Go.Proofs.YteflolamihhmdaaW.PrintLast Go.Proofs.YteflolamihhmdaaW.PrintMore
attribute [local go_sem] max2_int min2_int max_two min_two max_three min_three max_four min_four
def errW : Option Int → Value
 | none => .nilIface
 | some c => .iface 0 (.int .i64 c)
theorem errW_none : errW none = .nilIface := rfl
theorem errW_some (c : Int) : errW (some c) = .iface 0 (.int .i64 c) := rfl
theorem info3 : (Try.prog.info? 3).map (fun i => (i.zero, i.size, i.bytes)) = some (some (.int .i64 0), 1, 8) := by kernel_rfl
theorem info21 : (Try.prog.info? 21).map (fun i => (i.zero, i.size, i.bytes)) = some (some (.int .i32 0), 1, 4) := by kernel_rfl
theorem info22 : (Try.prog.info? 22).map (fun i => (i.zero, i.size, i.bytes)) = some (some (.slice none 0 0), 1, 24) := by kernel_rfl
theorem info72 : (Try.prog.info? 72).map (fun i => (i.zero, i.size, i.bytes)) = some (some (.agg #[(.int .i32 0), (.int .u32 0), (.slice none 0 0)]), 3, 32) := by kernel_rfl
theorem info100 : (Try.prog.info? 100).map (fun i => (i.zero, i.size, i.bytes)) = some (some (.agg #[(.int .i32 0), (.int .u32 0), (.slice none 0 0)]), 3, 32) := by kernel_rfl
theorem info135 : (Try.prog.info? 135).map (fun i => (i.zero, i.size, i.bytes)) = some (some (.agg #[(.int .i32 0), (.int .u32 0), (.slice none 0 0), (.slice none 0 0)]), 4, 56) := by kernel_rfl
structure S53 where
 f0 : Int
 f1 : Int
 f2 : Int
 f3 : Int
 f4 : Int
 f5 : Int
 f6 : Int
def z53 : S53 := ⟨(0 : Int), (0 : Int), (0 : Int), (0 : Int), (0 : Int), (0 : Int), (0 : Int)⟩
def k53 : Kd S53 := Kd.iso (Kd.pair (Kd.int .i64) (Kd.pair (Kd.int .i64) (Kd.pair (Kd.int .i64) (Kd.pair (Kd.int .i64) (Kd.pair (Kd.int .i64) (Kd.pair (Kd.int .i64) (Kd.int .i64))))))) (fun x : S53 => (x.f0, x.f1, x.f2, x.f3, x.f4, x.f5, x.f6))
theorem k53_open {w : World} {x : S53} {cs : List Value} (h : k53.K w x cs) : cs = [.int .i64 x.f0, .int .i64 x.f1, .int .i64 x.f2, .int .i64 x.f3, .int .i64 x.f4, .int .i64 x.f5, .int .i64 x.f6] := by
 obtain ⟨_, _, rfl, rfl, ⟨_, _, rfl, rfl, ⟨_, _, rfl, rfl, ⟨_, _, rfl, rfl, ⟨_, _, rfl, rfl, ⟨_, _, rfl, rfl, rfl⟩⟩⟩⟩⟩⟩ := h
 exact rfl
theorem k53_mkM (w : World) (base : Nat) (ok : Nat → Prop) (x : S53)  : k53.M w base ok x [.int .i64 x.f0, .int .i64 x.f1, .int .i64 x.f2, .int .i64 x.f3, .int .i64 x.f4, .int .i64 x.f5, .int .i64 x.f6] := ⟨[.int .i64 x.f0], [.int .i64 x.f1, .int .i64 x.f2, .int .i64 x.f3, .int .i64 x.f4, .int .i64 x.f5, .int .i64 x.f6], rfl, rfl, ⟨[.int .i64 x.f1], [.int .i64 x.f2, .int .i64 x.f3, .int .i64 x.f4, .int .i64 x.f5, .int .i64 x.f6], rfl, rfl, ⟨[.int .i64 x.f2], [.int .i64 x.f3, .int .i64 x.f4, .int .i64 x.f5, .int .i64 x.f6], rfl, rfl, ⟨[.int .i64 x.f3], [.int .i64 x.f4, .int .i64 x.f5, .int .i64 x.f6], rfl, rfl, ⟨[.int .i64 x.f4], [.int .i64 x.f5, .int .i64 x.f6], rfl, rfl, ⟨[.int .i64 x.f5], [.int .i64 x.f6], rfl, rfl, rfl⟩⟩⟩⟩⟩⟩
def rd_T53 (xs : List S53) (i : Int) : S53 := xs.getD i.toNat z53
theorem at_T53 {w : World} {A : Option Addr} {n : Nat} {xs : List S53} (h : Kd.C k53 w A n xs) (i : Int) (h0 : 0 ≤ i) (h1 : i < n) : ∃ ad , A = some ad ∧ w.cell? (ad.add (i.toNat * 7)) = some (.int .i64 (rd_T53 xs i).f0) ∧ w.cell? ⟨(ad.add (i.toNat * 7)).block, (ad.add (i.toNat * 7)).off + 1, none⟩ = some (.int .i64 (rd_T53 xs i).f1) ∧ w.cell? ⟨(ad.add (i.toNat * 7)).block, (ad.add (i.toNat * 7)).off + 2, none⟩ = some (.int .i64 (rd_T53 xs i).f2) ∧ w.cell? ⟨(ad.add (i.toNat * 7)).block, (ad.add (i.toNat * 7)).off + 3, none⟩ = some (.int .i64 (rd_T53 xs i).f3) ∧ w.cell? ⟨(ad.add (i.toNat * 7)).block, (ad.add (i.toNat * 7)).off + 4, none⟩ = some (.int .i64 (rd_T53 xs i).f4) ∧ w.cell? ⟨(ad.add (i.toNat * 7)).block, (ad.add (i.toNat * 7)).off + 5, none⟩ = some (.int .i64 (rd_T53 xs i).f5) ∧ w.cell? ⟨(ad.add (i.toNat * 7)).block, (ad.add (i.toNat * 7)).off + 6, none⟩ = some (.int .i64 (rd_T53 xs i).f6) := by
 obtain ⟨ad, c, e, _, hK, hc0⟩ := Kd.C_get h z53 i h0 h1
 have hc : ∀ j u, c[j]? = some u → w.cell? (ad.add (i.toNat * 7 + j)) = some u := hc0
 obtain rfl := k53_open hK
 exact ⟨ad, e, hc 0 _ rfl, by rw [← add_field _ _ 1 (by omega)]; exact hc 1 _ rfl, by rw [← add_field _ _ 2 (by omega)]; exact hc 2 _ rfl, by rw [← add_field _ _ 3 (by omega)]; exact hc 3 _ rfl, by rw [← add_field _ _ 4 (by omega)]; exact hc 4 _ rfl, by rw [← add_field _ _ 5 (by omega)]; exact hc 5 _ rfl, by rw [← add_field _ _ 6 (by omega)]; exact hc 6 _ rfl⟩
structure S100 where
 f0 : Int
 f1 : Int
 f2 : (List Int)
def z100 : S100 := ⟨(0 : Int), (0 : Int), ([] : List Int)⟩
def k100 : Kd S100 := Kd.iso (Kd.pair (Kd.int .i32) (Kd.pair (Kd.int .u32) (Kd.slice 3 (Kd.int .i64)))) (fun x : S100 => (x.f0, x.f1, x.f2))
theorem k100_open {w : World} {x : S100} {cs : List Value} (h : k100.K w x cs) : ∃ A2 c2, cs = [.int .i32 x.f0, .int .u32 x.f1, .slice A2 x.f2.length c2] ∧ x.f2.length ≤ c2 ∧ (Kd.int .i64).C w A2 x.f2.length x.f2 := by
 obtain ⟨_, _, rfl, rfl, ⟨_, _, rfl, rfl, ⟨A2, c2, rfl, l2, g2⟩⟩⟩ := h
 exact ⟨A2, c2, rfl, l2, g2⟩
theorem k100_mkM (w : World) (base : Nat) (ok : Nat → Prop) (x : S100) {v2 : Value} (g2 : (Kd.int .i64).R 3 w base ok v2 x.f2) : k100.M w base ok x [.int .i32 x.f0, .int .u32 x.f1, v2] := ⟨[.int .i32 x.f0], [.int .u32 x.f1, v2], rfl, rfl, ⟨[.int .u32 x.f1], [v2], rfl, rfl, ⟨v2, rfl, g2⟩⟩⟩
def rd_T100 (xs : List S100) (i : Int) : S100 := xs.getD i.toNat z100
theorem at_T100 {w : World} {A : Option Addr} {n : Nat} {xs : List S100} (h : Kd.C k100 w A n xs) (i : Int) (h0 : 0 ≤ i) (h1 : i < n) : ∃ ad A2 c2, A = some ad ∧ w.cell? (ad.add (i.toNat * 3)) = some (.int .i32 (rd_T100 xs i).f0) ∧ w.cell? ⟨(ad.add (i.toNat * 3)).block, (ad.add (i.toNat * 3)).off + 1, none⟩ = some (.int .u32 (rd_T100 xs i).f1) ∧ w.cell? ⟨(ad.add (i.toNat * 3)).block, (ad.add (i.toNat * 3)).off + 2, none⟩ = some (.slice A2 (rd_T100 xs i).f2.length c2) ∧ (rd_T100 xs i).f2.length ≤ c2 ∧ (Kd.int .i64).C w A2 (rd_T100 xs i).f2.length (rd_T100 xs i).f2 := by
 obtain ⟨ad, c, e, _, hK, hc0⟩ := Kd.C_get h z100 i h0 h1
 have hc : ∀ j u, c[j]? = some u → w.cell? (ad.add (i.toNat * 3 + j)) = some u := hc0
 obtain ⟨A2, c2, rfl, l2, g2⟩ := k100_open hK
 exact ⟨ad, A2, c2, e, hc 0 _ rfl, by rw [← add_field _ _ 1 (by omega)]; exact hc 1 _ rfl, by rw [← add_field _ _ 2 (by omega)]; exact hc 2 _ rfl, l2, g2⟩
structure S135 where
 f0 : S100
 f1 : (List Int)
def z135 : S135 := ⟨z100, ([] : List Int)⟩
def k135 : Kd S135 := Kd.iso (Kd.pair k100 (Kd.slice 92 (Kd.int .u64))) (fun x : S135 => (x.f0, x.f1))
theorem k135_open {w : World} {x : S135} {cs : List Value} (h : k135.K w x cs) : ∃ A2 c2 A3 c3, cs = [.int .i32 x.f0.f0, .int .u32 x.f0.f1, .slice A2 x.f0.f2.length c2, .slice A3 x.f1.length c3] ∧ x.f0.f2.length ≤ c2 ∧ (Kd.int .i64).C w A2 x.f0.f2.length x.f0.f2 ∧ x.f1.length ≤ c3 ∧ (Kd.int .u64).C w A3 x.f1.length x.f1 := by
 obtain ⟨_, _, rfl, s0, ⟨A3, c3, rfl, l3, g3⟩⟩ := h
 obtain ⟨A2, c2, rfl, l2, g2⟩ := k100_open s0
 exact ⟨A2, c2, A3, c3, rfl, l2, g2, l3, g3⟩
theorem k135_mkM (w : World) (base : Nat) (ok : Nat → Prop) (x : S135) {v2 : Value} (g2 : (Kd.int .i64).R 3 w base ok v2 x.f0.f2) {v3 : Value} (g3 : (Kd.int .u64).R 92 w base ok v3 x.f1) : k135.M w base ok x [.int .i32 x.f0.f0, .int .u32 x.f0.f1, v2, v3] := ⟨[.int .i32 x.f0.f0, .int .u32 x.f0.f1, v2], [v3], rfl, (k100_mkM w base ok x.f0 g2), ⟨v3, rfl, g3⟩⟩
def rd_T135 (xs : List S135) (i : Int) : S135 := xs.getD i.toNat z135
theorem at_T135 {w : World} {A : Option Addr} {n : Nat} {xs : List S135} (h : Kd.C k135 w A n xs) (i : Int) (h0 : 0 ≤ i) (h1 : i < n) : ∃ ad A2 c2 A3 c3, A = some ad ∧ w.cell? (ad.add (i.toNat * 4)) = some (.int .i32 (rd_T135 xs i).f0.f0) ∧ w.cell? ⟨(ad.add (i.toNat * 4)).block, (ad.add (i.toNat * 4)).off + 1, none⟩ = some (.int .u32 (rd_T135 xs i).f0.f1) ∧ w.cell? ⟨(ad.add (i.toNat * 4)).block, (ad.add (i.toNat * 4)).off + 2, none⟩ = some (.slice A2 (rd_T135 xs i).f0.f2.length c2) ∧ w.cell? ⟨(ad.add (i.toNat * 4)).block, (ad.add (i.toNat * 4)).off + 3, none⟩ = some (.slice A3 (rd_T135 xs i).f1.length c3) ∧ (rd_T135 xs i).f0.f2.length ≤ c2 ∧ (Kd.int .i64).C w A2 (rd_T135 xs i).f0.f2.length (rd_T135 xs i).f0.f2 ∧ (rd_T135 xs i).f1.length ≤ c3 ∧ (Kd.int .u64).C w A3 (rd_T135 xs i).f1.length (rd_T135 xs i).f1 := by
 obtain ⟨ad, c, e, _, hK, hc0⟩ := Kd.C_get h z135 i h0 h1
 have hc : ∀ j u, c[j]? = some u → w.cell? (ad.add (i.toNat * 4 + j)) = some u := hc0
 obtain ⟨A2, c2, A3, c3, rfl, l2, g2, l3, g3⟩ := k135_open hK
 exact ⟨ad, A2, c2, A3, c3, e, hc 0 _ rfl, by rw [← add_field _ _ 1 (by omega)]; exact hc 1 _ rfl, by rw [← add_field _ _ 2 (by omega)]; exact hc 2 _ rfl, by rw [← add_field _ _ 3 (by omega)]; exact hc 3 _ rfl, l2, g2, l3, g3⟩
structure S125 where
 f0 : S53
 f1 : (List S135)
 f2 : (List S135)
def k125 : Kd S125 := Kd.iso (Kd.pair k53 (Kd.pair (Kd.slice 135 k135) (Kd.slice 135 k135))) (fun x : S125 => (x.f0, x.f1, x.f2))
theorem k125_open {w : World} {x : S125} {cs : List Value} (h : k125.K w x cs) : ∃ A7 c7 A8 c8, cs = [.int .i64 x.f0.f0, .int .i64 x.f0.f1, .int .i64 x.f0.f2, .int .i64 x.f0.f3, .int .i64 x.f0.f4, .int .i64 x.f0.f5, .int .i64 x.f0.f6, .slice A7 x.f1.length c7, .slice A8 x.f2.length c8] ∧ x.f1.length ≤ c7 ∧ k135.C w A7 x.f1.length x.f1 ∧ x.f2.length ≤ c8 ∧ k135.C w A8 x.f2.length x.f2 := by
 obtain ⟨_, _, rfl, s0, ⟨_, _, rfl, ⟨A7, c7, rfl, l7, g7⟩, ⟨A8, c8, rfl, l8, g8⟩⟩⟩ := h
 obtain rfl := k53_open s0
 exact ⟨A7, c7, A8, c8, rfl, l7, g7, l8, g8⟩
theorem k125_mkM (w : World) (base : Nat) (ok : Nat → Prop) (x : S125) {v7 : Value} (g7 : k135.R 135 w base ok v7 x.f1) {v8 : Value} (g8 : k135.R 135 w base ok v8 x.f2) : k125.M w base ok x [.int .i64 x.f0.f0, .int .i64 x.f0.f1, .int .i64 x.f0.f2, .int .i64 x.f0.f3, .int .i64 x.f0.f4, .int .i64 x.f0.f5, .int .i64 x.f0.f6, v7, v8] := ⟨[.int .i64 x.f0.f0, .int .i64 x.f0.f1, .int .i64 x.f0.f2, .int .i64 x.f0.f3, .int .i64 x.f0.f4, .int .i64 x.f0.f5, .int .i64 x.f0.f6], [v7, v8], rfl, (k53_mkM w base ok x.f0 ), ⟨[v7], [v8], rfl, ⟨v7, rfl, g7⟩, ⟨v8, rfl, g8⟩⟩⟩
def rd_L11 (xs : List (List Int)) (i : Int) : (List Int) := xs.getD i.toNat ([] : List Int)
theorem at_L11 {w : World} {A : Option Addr} {n : Nat} {xs : List (List Int)} (h : Kd.C (Kd.slice 21 (Kd.int .i32)) w A n xs) (i : Int) (h0 : 0 ≤ i) (h1 : i < n) : ∃ ad A0 c0, A = some ad ∧ w.cell? (ad.add i.toNat) = some (.slice A0 (rd_L11 xs i).length c0) ∧ (rd_L11 xs i).length ≤ c0 ∧ (Kd.int .i32).C w A0 (rd_L11 xs i).length (rd_L11 xs i) := by
 obtain ⟨ad, c, e, _, hK, hc0⟩ := Kd.C_get h ([] : List Int) i h0 h1
 have hc : ∀ j u, c[j]? = some u → w.cell? (ad.add (i.toNat * 1 + j)) = some u := hc0
 obtain ⟨A0, c0, rfl, l0, g0⟩ := hK
 exact ⟨ad, A0, c0, e, by have hq := hc 0 _ rfl; rwa [Nat.mul_one, Nat.add_zero] at hq, l0, g0⟩
def rd_L12 (xs : List (List (List Int))) (i : Int) : (List (List Int)) := xs.getD i.toNat ([] : List (List Int))
theorem at_L12 {w : World} {A : Option Addr} {n : Nat} {xs : List (List (List Int))} (h : Kd.C (Kd.slice 22 (Kd.slice 21 (Kd.int .i32))) w A n xs) (i : Int) (h0 : 0 ≤ i) (h1 : i < n) : ∃ ad A0 c0, A = some ad ∧ w.cell? (ad.add i.toNat) = some (.slice A0 (rd_L12 xs i).length c0) ∧ (rd_L12 xs i).length ≤ c0 ∧ (Kd.slice 21 (Kd.int .i32)).C w A0 (rd_L12 xs i).length (rd_L12 xs i) := by
 obtain ⟨ad, c, e, _, hK, hc0⟩ := Kd.C_get h ([] : List (List Int)) i h0 h1
 have hc : ∀ j u, c[j]? = some u → w.cell? (ad.add (i.toNat * 1 + j)) = some u := hc0
 obtain ⟨A0, c0, rfl, l0, g0⟩ := hK
 exact ⟨ad, A0, c0, e, by have hq := hc 0 _ rfl; rwa [Nat.mul_one, Nat.add_zero] at hq, l0, g0⟩
structure S72 where
 f0 : Int
 f1 : Int
 f2 : (List Int)
def z72 : S72 := ⟨(0 : Int), (0 : Int), ([] : List Int)⟩
def k72 : Kd S72 := Kd.iso (Kd.pair (Kd.int .i32) (Kd.pair (Kd.int .u32) (Kd.slice 3 (Kd.int .i64)))) (fun x : S72 => (x.f0, x.f1, x.f2))
theorem k72_open {w : World} {x : S72} {cs : List Value} (h : k72.K w x cs) : ∃ A2 c2, cs = [.int .i32 x.f0, .int .u32 x.f1, .slice A2 x.f2.length c2] ∧ x.f2.length ≤ c2 ∧ (Kd.int .i64).C w A2 x.f2.length x.f2 := by
 obtain ⟨_, _, rfl, rfl, ⟨_, _, rfl, rfl, ⟨A2, c2, rfl, l2, g2⟩⟩⟩ := h
 exact ⟨A2, c2, rfl, l2, g2⟩
theorem k72_mkM (w : World) (base : Nat) (ok : Nat → Prop) (x : S72) {v2 : Value} (g2 : (Kd.int .i64).R 3 w base ok v2 x.f2) : k72.M w base ok x [.int .i32 x.f0, .int .u32 x.f1, v2] := ⟨[.int .i32 x.f0], [.int .u32 x.f1, v2], rfl, rfl, ⟨[.int .u32 x.f1], [v2], rfl, rfl, ⟨v2, rfl, g2⟩⟩⟩
def rd_T72 (xs : List S72) (i : Int) : S72 := xs.getD i.toNat z72
theorem at_T72 {w : World} {A : Option Addr} {n : Nat} {xs : List S72} (h : Kd.C k72 w A n xs) (i : Int) (h0 : 0 ≤ i) (h1 : i < n) : ∃ ad A2 c2, A = some ad ∧ w.cell? (ad.add (i.toNat * 3)) = some (.int .i32 (rd_T72 xs i).f0) ∧ w.cell? ⟨(ad.add (i.toNat * 3)).block, (ad.add (i.toNat * 3)).off + 1, none⟩ = some (.int .u32 (rd_T72 xs i).f1) ∧ w.cell? ⟨(ad.add (i.toNat * 3)).block, (ad.add (i.toNat * 3)).off + 2, none⟩ = some (.slice A2 (rd_T72 xs i).f2.length c2) ∧ (rd_T72 xs i).f2.length ≤ c2 ∧ (Kd.int .i64).C w A2 (rd_T72 xs i).f2.length (rd_T72 xs i).f2 := by
 obtain ⟨ad, c, e, _, hK, hc0⟩ := Kd.C_get h z72 i h0 h1
 have hc : ∀ j u, c[j]? = some u → w.cell? (ad.add (i.toNat * 3 + j)) = some u := hc0
 obtain ⟨A2, c2, rfl, l2, g2⟩ := k72_open hK
 exact ⟨ad, A2, c2, e, hc 0 _ rfl, by rw [← add_field _ _ 1 (by omega)]; exact hc 1 _ rfl, by rw [← add_field _ _ 2 (by omega)]; exact hc 2 _ rfl, l2, g2⟩
end Go.Proofs.Yteflolamihhmdaa.Q

namespace Go.Proofs.Yteflolamihhmdaa
open Go.RowKit Go.ChangeShapes Go.WideShapes Go.Deep Go.Proofs.YteflolamihhmdaaW.PrintWords Go.Proofs.YteflolamihhmdaaW.PrintLast
section
variable {H : Type} {enc : TypeId × Value → H} {P : Program} {w : World} {base : Nat} {held : Bool}
theorem open_rows {t e q : TypeId} {k : IntKind} {fuel : Nat} {A : Option Addr} {len cap : Nat} {x : DataW H × List MemPlace} (s : Nat) (ht : P.underlying t = some (.slice e)) (he : P.underlying e = some (.slice q)) (hq : P.underlying q = some (.int k))
  (ce : P.cellsOf e = 1) (cq : P.cellsOf q = 1) (h : DataW.trod enc P w base (fun _ => true) held fuel t [.slice A len cap] = some x) :
  ∃ xs : List (List Int), xs.length = len ∧ len ≤ cap ∧ Kd.C (Kd.slice s (Kd.int k)) w A len xs ∧ ∀ r ∈ xs, ∀ n ∈ r, (Lit.int k n).wf = true := by
 rcases open_int_rows ht he hq ce cq h with ⟨hcs, _⟩ | ⟨a, l, c, A', L, C, Z, hcs, _, hlc, hcm, _, hr⟩
 ·simp at hcs
  obtain ⟨rfl, rfl, rfl⟩ := hcs
  exact ⟨[], rfl, Nat.le_refl _, ⟨rfl, by omega, fun h0 => absurd h0 (by omega)⟩, by simp⟩
 ·simp at hcs
  obtain ⟨rfl, rfl, rfl⟩ := hcs
  unfold maxLen at hcm
  have hlen : ∀ j, j < cap → ((Z j).take (L j)).length = L j := fun j hj => by
   obtain ⟨_, h1, _, h2, _⟩ := hr j hj
   rw [List.length_take]
   omega
  refine ⟨(List.range len).map fun r => (Z r).take (L r), by simp, hlc, ⟨by simp, by omega, fun h0 => ⟨a, rfl, fun j p hj => ?_⟩⟩, ?_⟩
  ·have hjl : j < len := by
    have := (List.getElem?_eq_some_iff.1 hj).1
    simpa using this
   have hp : p = (Z j).take (L j) := by
    have := hj
    simp [hjl] at this
    exact this.symm
   subst hp
   obtain ⟨h1, h2, h3, h4, h5, h6, h7⟩ := hr j (by omega)
   have hl := hlen j (by omega)
   unfold maxLen at h3
   refine ⟨[.slice (A' j) (L j) (C j)], rfl, ⟨A' j, C j, by rw [hl], by omega, ?_⟩, fun i u hi => ?_⟩
   ·rw [hl]
    refine ⟨hl, by omega, fun h0 => ?_⟩
    cases hA : A' j with
    | none => have := h6 hA; omega
    | some a' =>
     obtain ⟨_, hc⟩ := h7 a' hA
     refine ⟨a', rfl, fun i p hi => ?_⟩
     have hil : i < L j := by
      have := (List.getElem?_eq_some_iff.1 hi).1
      omega
     refine ⟨[.int k p], rfl, rfl, fun m u hm => ?_⟩
     obtain rfl : m = 0 := by
      cases m with
      | zero => rfl
      | succ m => simp at hm
     have hu : u = .int k p := by simpa using hm.symm
     have := hc i (by omega)
     rw [hu, show i * (Kd.int k).sz + 0 = i by simp [Kd.int, Kd.scalar], this]
     have h8 : (Z j)[i]? = some p := by
      rw [List.getElem?_take, if_pos hil] at hi
      exact hi
     rw [List.getD_eq_getElem?_getD, h8]
     rfl
   ·obtain rfl : i = 0 := by
     cases i with
     | zero => rfl
     | succ i => simp at hi
    have hu : u = .slice (A' j) (L j) (C j) := by simpa using hi.symm
    rw [hu, show j * (Kd.slice s (Kd.int k)).sz + 0 = j by simp [Kd.slice]]
    exact h1
  ·intro r hrm n hn
   obtain ⟨j, hj, rfl⟩ := List.mem_map.1 hrm
   have hjl : j < len := by simpa using hj
   exact (hr j (by omega)).2.2.2.2.1 n (List.mem_of_mem_take hn)
end
theorem V_of_C {α : Type} {d : Kd α} (hd : Kd.Heap d) {e base n c : Nat} {W : World} {A : Option Addr} {xs : List α} (hn : xs.length = n) (hl : n ≤ c) (h : Kd.C d W A n xs) : Kd.V d e W base (fun _ => True) (.slice A n c) xs := by
 subst hn
 exact Kd.V_mk hl (fun W' hW' => hd.C (fun k hk => hW' k trivial hk) h)
end Go.Proofs.Yteflolamihhmdaa

namespace Go.Proofs.Yteflolamihhmdaa
open Go.RowKit Go.ChangeShapes Go.WideShapes Go.Deep Go.Proofs.YteflolamihhmdaaW.PrintWords Go.Proofs.YteflolamihhmdaaW.PrintLast Go.Proofs.Yteflolamihhmdaa.Q
section
variable {H : Type} {enc : TypeId × Value → H} {P : Program} {w : World} {base : Nat} {held : Bool}
theorem open_fields {spare : Nat → Bool} {t e : TypeId} {fs : Array Field} {fuel : Nat} {cs : List Value} {x : DataW H × List MemPlace} (ht : P.underlying t = some (.slice e)) (he : P.underlying e = some (.struct fs))
    (hone : oneCellFields P fs = true) (hC : P.cellsOf e = fs.size) (h : DataW.trod enc P w base spare held fuel t cs = some x) :
    (cs = [.slice none 0 0] ∧ x = (.nil, [])) ∨
    ∃ (a : Addr) (len cap m : Nat), cs = [.slice (some a) len cap] ∧ len ≤ cap ∧ cap ≤ maxLen ∧ m = (if spare a.block then cap else len) ∧
      ∀ i, i < m → ∃ n : Nat, ∀ (j : Nat) (f : Field), fs[j]? = some f → ∃ (v : Value) (y : DataW H × List MemPlace), w.cell? (a.add (i * fs.size + j)) = some v ∧ DataW.trod enc P w base spare held n f.type [v] = some y := by
  rcases open_slice ht h with h0 | ⟨a, len, cap, m, n, D, Pl, hcs, hb, hl, hm, hmm, hx, hi⟩
  · exact .inl h0
  · refine .inr ⟨a, len, cap, m, hcs, hl, hm, hmm, fun i him => ?_⟩
    obtain ⟨cs', hc, ht'⟩ := hi i him
    rw [hC] at hc
    obtain ⟨ys, n', hn', hy, hlen, hyl, hf⟩ := DataW.trod_struct he ht'
    obtain ⟨_, hcl, hat⟩ := World.cells?_some hc
    refine ⟨n', fun j f hj => ?_⟩
    obtain ⟨ho, hk⟩ := hone_of hone j f hj
    have hjl : j < fs.size := (Array.getElem?_eq_some_iff.1 hj).1
    have hcell := hat j hjl
    have hv : cs'[j]? = some (cs'[j]'(by omega)) := List.getElem?_eq_getElem (by omega)
    have h1 := hf j f hj
    rw [ho, hk] at h1
    have hone' : (cs'.drop j).take 1 = [cs'[j]'(by omega)] := by
      rw [List.drop_eq_getElem_cons (by omega)]
      rfl
    rw [hone'] at h1
    have hys : ys[j]? = some (ys[j]'(by omega)) := List.getElem?_eq_getElem (by omega)
    refine ⟨_, _, ?_, h1.trans hys⟩
    rw [← Go.Deep.add_add, hcell, hv]
theorem open_each {t e : TypeId} {α : Type} (d : Kd α) (hsz : d.sz = 1) (Good : α → Prop) {fuel : Nat} {A : Option Addr} {len cap : Nat} {x : DataW H × List MemPlace} (ht : P.underlying t = some (.slice e)) (ce : P.cellsOf e = 1)
    (elem : ∀ (v : Value) (n : Nat) (y : DataW H × List MemPlace), DataW.trod enc P w base (fun _ => true) held n e [v] = some y → ∃ z : α, d.K w z [v] ∧ Good z)
    (h : DataW.trod enc P w base (fun _ => true) held fuel t [.slice A len cap] = some x) : ∃ xs : List α, xs.length = len ∧ len ≤ cap ∧ Kd.C d w A len xs ∧ ∀ z ∈ xs, Good z := by
  rcases open_slice1 ht ce h with ⟨hcs, _⟩ | ⟨a, l, c, m, n, V, D, Pl, hcs, hb, hl, hm, hmm, hx, hi⟩
  · simp at hcs
    obtain ⟨rfl, rfl, rfl⟩ := hcs
    exact ⟨[], rfl, Nat.le_refl _, ⟨rfl, by omega, fun h0 => absurd h0 (by omega)⟩, by simp⟩
  · simp at hcs
    obtain ⟨rfl, rfl, rfl⟩ := hcs
    simp only [if_true] at hmm
    subst hmm
    have each : ∀ i, i < len → ∃ z : α, d.K w z [V i] ∧ Good z := fun i hil => elem _ _ _ (hi i (by omega)).2
    unfold maxLen at hm
    have hne : Nonempty (Nat → α) ∨ len = 0 := by
      by_cases h0 : len = 0
      · exact .inr h0
      · obtain ⟨z, -⟩ := each 0 (by omega)
        exact .inl ⟨fun _ => z⟩
    rcases hne with ⟨⟨g⟩⟩ | h0
    · haveI : Inhabited α := ⟨g 0⟩
      obtain ⟨G, hG⟩ := choose_lt each
      refine ⟨(List.range len).map G, by simp, hl, ⟨by simp, by omega, fun h0 => ⟨a, rfl, fun j p hj => ?_⟩⟩, ?_⟩
      · have hjl : j < len := by
          have := (List.getElem?_eq_some_iff.1 hj).1
          simpa using this
        have hp : p = G j := by
          simp [hjl] at hj
          exact hj.symm
        subst hp
        refine ⟨[V j], by rw [hsz]; rfl, (hG j hjl).1, fun i u hi' => ?_⟩
        obtain rfl : i = 0 := by
          cases i with
          | zero => rfl
          | succ i => simp at hi'
        have hu : u = V j := by simpa using hi'.symm
        rw [hu, hsz, Nat.mul_one, Nat.add_zero]
        exact (hi j (by omega)).1
      · intro z hz
        obtain ⟨j, hj, rfl⟩ := List.mem_map.1 hz
        exact (hG j (by simpa using hj)).2
    · subst h0
      exact ⟨[], rfl, hl, ⟨rfl, by omega, fun h0 => absurd h0 (by omega)⟩, by simp⟩
end
instance : Inhabited S53 := ⟨z53⟩
theorem open_heads {H : Type} {enc : TypeId × Value → H} {w : World} {base : Nat} {held : Bool} {fuel : Nat} {A : Option Addr} {len cap : Nat} {x : DataW H × List MemPlace}
    (h : DataW.trod enc Try.prog w base (fun _ => true) held fuel 38 [.slice A len cap] = some x) : ∃ l : List S53, l.length = len ∧ len ≤ cap ∧ Kd.C k53 w A len l := by
  rcases open_fields Try.underlying38 Try.underlying53 (by kernel_rfl) (by kernel_rfl) h with ⟨hcs, _⟩ | ⟨a, l, c, m, hcs, hlc, hcm, hm, hi⟩
  · simp at hcs
    obtain ⟨rfl, rfl, rfl⟩ := hcs
    exact ⟨[], rfl, Nat.le_refl _, ⟨rfl, by simp, fun h0 => absurd h0 (by simp)⟩⟩
  · simp at hcs
    obtain ⟨rfl, rfl, rfl⟩ := hcs
    have hlm : len ≤ m := by rw [hm]; split <;> omega
    have each : ∀ i, i < len → ∃ r : S53, w.cell? (a.add (i * 7)) = some (.int .i64 r.f0) ∧ w.cell? (a.add (i * 7 + 1)) = some (.int .i64 r.f1) ∧ w.cell? (a.add (i * 7 + 2)) = some (.int .i64 r.f2) ∧ w.cell? (a.add (i * 7 + 3)) = some (.int .i64 r.f3) ∧ w.cell? (a.add (i * 7 + 4)) = some (.int .i64 r.f4) ∧ w.cell? (a.add (i * 7 + 5)) = some (.int .i64 r.f5) ∧ w.cell? (a.add (i * 7 + 6)) = some (.int .i64 r.f6) := by
      intro i hil
      obtain ⟨n, hf⟩ := hi i (by omega)
      obtain ⟨v0, y0, hc0, ht0⟩ := hf 0 _ rfl
      obtain ⟨v1, y1, hc1, ht1⟩ := hf 1 _ rfl
      obtain ⟨v2, y2, hc2, ht2⟩ := hf 2 _ rfl
      obtain ⟨v3, y3, hc3, ht3⟩ := hf 3 _ rfl
      obtain ⟨v4, y4, hc4, ht4⟩ := hf 4 _ rfl
      obtain ⟨v5, y5, hc5, ht5⟩ := hf 5 _ rfl
      obtain ⟨v6, y6, hc6, ht6⟩ := hf 6 _ rfl
      obtain ⟨z0, e0, _, _⟩ := DataW.trod_int Try.underlying3 ht0
      obtain ⟨z1, e1, _, _⟩ := DataW.trod_int Try.underlying3 ht1
      obtain ⟨z2, e2, _, _⟩ := DataW.trod_int Try.underlying3 ht2
      obtain ⟨z3, e3, _, _⟩ := DataW.trod_int Try.underlying3 ht3
      obtain ⟨z4, e4, _, _⟩ := DataW.trod_int Try.underlying3 ht4
      obtain ⟨z5, e5, _, _⟩ := DataW.trod_int Try.underlying3 ht5
      obtain ⟨z6, e6, _, _⟩ := DataW.trod_int Try.underlying3 ht6
      simp at e0 e1 e2 e3 e4 e5 e6
      subst e0 e1 e2 e3 e4 e5 e6
      exact ⟨⟨z0, z1, z2, z3, z4, z5, z6⟩, hc0, hc1, hc2, hc3, hc4, hc5, hc6⟩
    obtain ⟨G, hG⟩ := choose_lt each
    unfold maxLen at hcm
    refine ⟨(List.range len).map G, by simp, by simpa using hlc, ⟨by simp, by omega, fun h0 => ⟨a, rfl, fun j p hj => ?_⟩⟩⟩
    have hjl : j < len := by
      have := (List.getElem?_eq_some_iff.1 hj).1
      simpa using this
    have hp : p = G j := by
      simp [hjl] at hj
      exact hj.symm
    subst hp
    obtain ⟨h0, h1, h2, h3, h4, h5, h6⟩ := hG j hjl
    refine ⟨[.int .i64 (G j).f0, .int .i64 (G j).f1, .int .i64 (G j).f2, .int .i64 (G j).f3, .int .i64 (G j).f4, .int .i64 (G j).f5, .int .i64 (G j).f6], rfl, k53.K_of_M (k53_mkM w 0 (fun _ => True) (G j)), fun i u hi => ?_⟩
    match i, hi with
    | 0, hi => obtain rfl : Value.int .i64 (G j).f0 = u := by simpa using hi
               exact h0
    | 1, hi => obtain rfl : Value.int .i64 (G j).f1 = u := by simpa using hi
               exact h1
    | 2, hi => obtain rfl : Value.int .i64 (G j).f2 = u := by simpa using hi
               exact h2
    | 3, hi => obtain rfl : Value.int .i64 (G j).f3 = u := by simpa using hi
               exact h3
    | 4, hi => obtain rfl : Value.int .i64 (G j).f4 = u := by simpa using hi
               exact h4
    | 5, hi => obtain rfl : Value.int .i64 (G j).f5 = u := by simpa using hi
               exact h5
    | 6, hi => obtain rfl : Value.int .i64 (G j).f6 = u := by simpa using hi
               exact h6
    | i + 7, hi => simp at hi
theorem open_tabs {H : Type} {enc : TypeId × Value → H} {w : World} {base : Nat} {held : Bool} {fuel : Nat} {A : Option Addr} {len cap : Nat} {x : DataW H × List MemPlace}
    (h : DataW.trod enc Try.prog w base (fun _ => true) held fuel 39 [.slice A len cap] = some x) : ∃ l : List (List (List Int)), l.length = len ∧ len ≤ cap ∧ Kd.C (Kd.slice 22 (Kd.slice 21 (Kd.int .i32))) w A len l ∧ ∀ t ∈ l, t.length ≤ 9223372036854775807 ∧ ∀ r ∈ t, ∀ n ∈ r, (Lit.int .i32 n).wf = true := by
  refine open_each (Kd.slice 22 (Kd.slice 21 (Kd.int .i32))) rfl (fun t => t.length ≤ 9223372036854775807 ∧ ∀ r ∈ t, ∀ n ∈ r, (Lit.int .i32 n).wf = true) Try.underlying39 (by kernel_rfl) (fun v n y hy => ?_) h
  obtain ⟨B, l, c, e⟩ := Go.Joins.slice_form Try.underlying29 hy
  obtain rfl : v = .slice B l c := by simpa using e
  obtain ⟨xs, rfl, hl, hC, hw⟩ := open_rows 21 Try.underlying29 Try.underlying22 Try.underlying21 (by kernel_rfl) (by kernel_rfl) hy
  exact ⟨xs, ⟨B, c, rfl, hl, hC⟩, hC.2.1, hw⟩
theorem open_six {H : Type} {enc : TypeId × Value → H} {P : Program} {w : World} {base b0 : Nat} {held : Bool} {spare : Nat → Bool} {r : Reach} {t : TypeId} {fs : Array Field} {v : Value} {d : DataW H} {p : List MemPlace}
    (hs : P.underlying t = some (.struct fs)) (hone : oneCellFields P fs = true) (hC : P.cellsOf t = 6) (h6 : fs.size = 6) (hv : Value.okWide P w r b0 t v) (h : DataW.Trod enc P w base spare held t v d p) :
    ∃ (c0 c1 c2 c3 c4 c5 : Value) (n : Nat), v = .agg #[c0, c1, c2, c3, c4, c5] ∧ ∀ (j : Nat) (f : Field) (c : Value), fs[j]? = some f → [c0, c1, c2, c3, c4, c5][j]? = some c → ∃ y, DataW.trod enc P w base spare held n f.type [c] = some y := by
  obtain ⟨cs, rfl, hsz⟩ := okWide_struct hs hv
  obtain ⟨l⟩ := cs
  rw [hC] at hsz
  match l, hsz with
  | [c0, c1, c2, c3, c4, c5], _ =>
    obtain ⟨fuel, hf⟩ := h
    obtain ⟨ys, n, _, _, _, hyl, hfs⟩ := DataW.trod_struct hs hf
    refine ⟨c0, c1, c2, c3, c4, c5, n, rfl, fun j f c hj hc => ?_⟩
    obtain ⟨ho, hk⟩ := hone_of hone j f hj
    have h1 := hfs j f hj
    rw [ho, hk] at h1
    obtain ⟨hjl, hcc⟩ := List.getElem?_eq_some_iff.1 hc
    have hone' : ([c0, c1, c2, c3, c4, c5].drop j).take 1 = [c] := by
      rw [List.drop_eq_getElem_cons hjl, hcc]
      rfl
    have h2 : (Value.agg #[c0, c1, c2, c3, c4, c5]).cells.toList = [c0, c1, c2, c3, c4, c5] := rfl
    rw [h2, hone'] at h1
    have hj6 : j < ys.length := by rw [hyl, h6]; simpa using hjl
    exact ⟨_, h1.trans (List.getElem?_eq_getElem hj6)⟩
end Go.Proofs.Yteflolamihhmdaa

namespace Go.Proofs.Yteflolamihhmdaa.Q
open Go.RowKit Go.Proofs.YteflolamihhmdaaW.PrintWords Go.Proofs.YteflolamihhmdaaW.PrintLast Go.Proofs.YteflolamihhmdaaW.PrintMore
attribute [local go_sem] max2_int min2_int max_two min_two max_three min_three max_four min_four
def fix_Ratio.f (a0 : Int) (a1 : Int) : Option (Int) := if a1 ≤ 0 then (some 0) else (if a1 = 0 then (none) else (if (Int.tmod a0 a1) < 0 then (if (wrap64 ((Int.tmod a0 a1) + a1)) > (wrap64 (a1 - (wrap64 ((Int.tmod a0 a1) + a1)))) then (some (wrap64 ((wrap64 ((wrap64 (Int.tdiv a0 a1)) - 1)) + 1))) else (if (wrap64 ((Int.tmod a0 a1) + a1)) = (wrap64 (a1 - (wrap64 ((Int.tmod a0 a1) + a1)))) then (if (Go.bits .and .i64 (wrap64 ((wrap64 (Int.tdiv a0 a1)) - 1)) 1) = 0 then (some (wrap64 ((wrap64 (Int.tdiv a0 a1)) - 1))) else (some (wrap64 ((wrap64 ((wrap64 (Int.tdiv a0 a1)) - 1)) + 1)))) else (some (wrap64 ((wrap64 (Int.tdiv a0 a1)) - 1))))) else (if (Int.tmod a0 a1) > (wrap64 (a1 - (Int.tmod a0 a1))) then (some (wrap64 ((wrap64 (Int.tdiv a0 a1)) + 1))) else (if (Int.tmod a0 a1) = (wrap64 (a1 - (Int.tmod a0 a1))) then (if (Go.bits .and .i64 (wrap64 (Int.tdiv a0 a1)) 1) = 0 then (some (wrap64 (Int.tdiv a0 a1))) else (some (wrap64 ((wrap64 (Int.tdiv a0 a1)) + 1)))) else (some (wrap64 (Int.tdiv a0 a1)))))))
theorem fix_Ratio.calls (a0 : Int) (a1 : Int) (r : Int) (w : World) (h : fix_Ratio.f a0 a1 = some r) :
  Calls Try.prog 67 #[.int .i64 a0, .int .i64 a1] w fun e w' => e = .returned (.int .i64 r) ∧ Drawn0 w w' := by
 have H := h
 unfold fix_Ratio.f at H
 clear h
 by_cases c3 : a1 ≤ 0
 ·rw [if_pos c3] at H
  have c3b0 : decide (a1 ≤ 0) = true := decide_eq_true c3
  clear c3
  obtain rfl := Option.some.inj H
  go_enter Try.func67, Try.ntmps67
  go_wp2
  repeat (go_quiet (fail); try go_wp2)
  go_ret
  exact ⟨rs_, d0_⟩
 ·rw [if_neg c3] at H
  have c3b0 : decide (a1 ≤ 0) = false := decide_eq_false c3
  clear c3
  by_cases c4 : a1 = 0
  ·rw [if_pos c4] at H
   exact absurd H (by simp)
  ·rw [if_neg c4] at H
   have c4b0 : (a1 == 0) = false := beq_eq_false_iff_ne.mpr c4
   have c4b1 : (a1 != 0) = true := bne_iff_ne.mpr c4
   by_cases c5 : (Int.tmod a0 a1) < 0
   ·rw [if_pos c5] at H
    have c5b0 : decide ((Int.tmod a0 a1) < 0) = true := decide_eq_true c5
    clear c5
    by_cases c6 : (wrap64 ((Int.tmod a0 a1) + a1)) > (wrap64 (a1 - (wrap64 ((Int.tmod a0 a1) + a1))))
    ·rw [if_pos c6] at H
     have c6b0 : decide ((wrap64 (a1 - (wrap64 ((Int.tmod a0 a1) + a1)))) < (wrap64 ((Int.tmod a0 a1) + a1))) = true := decide_eq_true c6
     clear c6
     obtain rfl := Option.some.inj H
     go_enter Try.func67, Try.ntmps67
     go_wp2
     repeat (go_quiet (fail); try go_wp2)
     go_ret
     exact ⟨rs_, d0_⟩
    ·rw [if_neg c6] at H
     have c6b0 : decide ((wrap64 (a1 - (wrap64 ((Int.tmod a0 a1) + a1)))) < (wrap64 ((Int.tmod a0 a1) + a1))) = false := decide_eq_false c6
     clear c6
     by_cases c7 : (wrap64 ((Int.tmod a0 a1) + a1)) = (wrap64 (a1 - (wrap64 ((Int.tmod a0 a1) + a1))))
     ·rw [if_pos c7] at H
      have c7b0 : ((wrap64 ((Int.tmod a0 a1) + a1)) == (wrap64 (a1 - (wrap64 ((Int.tmod a0 a1) + a1))))) = true := beq_iff_eq.mpr c7
      have c7b1 : ((wrap64 ((Int.tmod a0 a1) + a1)) != (wrap64 (a1 - (wrap64 ((Int.tmod a0 a1) + a1))))) = false := bne_eq_false_iff_eq.mpr c7
      clear c7
      by_cases c8 : (Go.bits .and .i64 (wrap64 ((wrap64 (Int.tdiv a0 a1)) - 1)) 1) = 0
      ·rw [if_pos c8] at H
       have c8b0 : ((Go.bits .and .i64 (wrap64 ((wrap64 (Int.tdiv a0 a1)) - 1)) 1) == 0) = true := beq_iff_eq.mpr c8
       have c8b1 : ((Go.bits .and .i64 (wrap64 ((wrap64 (Int.tdiv a0 a1)) - 1)) 1) != 0) = false := bne_eq_false_iff_eq.mpr c8
       clear c8
       obtain rfl := Option.some.inj H
       go_enter Try.func67, Try.ntmps67
       go_wp2
       repeat (go_quiet (fail); try go_wp2)
       go_ret
       exact ⟨rs_, d0_⟩
      ·rw [if_neg c8] at H
       have c8b0 : ((Go.bits .and .i64 (wrap64 ((wrap64 (Int.tdiv a0 a1)) - 1)) 1) == 0) = false := beq_eq_false_iff_ne.mpr c8
       have c8b1 : ((Go.bits .and .i64 (wrap64 ((wrap64 (Int.tdiv a0 a1)) - 1)) 1) != 0) = true := bne_iff_ne.mpr c8
       obtain rfl := Option.some.inj H
       go_enter Try.func67, Try.ntmps67
       go_wp2
       repeat (go_quiet (fail); try go_wp2)
       go_ret
       exact ⟨rs_, d0_⟩
     ·rw [if_neg c7] at H
      have c7b0 : ((wrap64 ((Int.tmod a0 a1) + a1)) == (wrap64 (a1 - (wrap64 ((Int.tmod a0 a1) + a1))))) = false := beq_eq_false_iff_ne.mpr c7
      have c7b1 : ((wrap64 ((Int.tmod a0 a1) + a1)) != (wrap64 (a1 - (wrap64 ((Int.tmod a0 a1) + a1))))) = true := bne_iff_ne.mpr c7
      obtain rfl := Option.some.inj H
      go_enter Try.func67, Try.ntmps67
      go_wp2
      repeat (go_quiet (fail); try go_wp2)
      go_ret
      exact ⟨rs_, d0_⟩
   ·rw [if_neg c5] at H
    have c5b0 : decide ((Int.tmod a0 a1) < 0) = false := decide_eq_false c5
    clear c5
    by_cases c9 : (Int.tmod a0 a1) > (wrap64 (a1 - (Int.tmod a0 a1)))
    ·rw [if_pos c9] at H
     have c9b0 : decide ((wrap64 (a1 - (Int.tmod a0 a1))) < (Int.tmod a0 a1)) = true := decide_eq_true c9
     clear c9
     obtain rfl := Option.some.inj H
     go_enter Try.func67, Try.ntmps67
     go_wp2
     repeat (go_quiet (fail); try go_wp2)
     go_ret
     exact ⟨rs_, d0_⟩
    ·rw [if_neg c9] at H
     have c9b0 : decide ((wrap64 (a1 - (Int.tmod a0 a1))) < (Int.tmod a0 a1)) = false := decide_eq_false c9
     clear c9
     by_cases c10 : (Int.tmod a0 a1) = (wrap64 (a1 - (Int.tmod a0 a1)))
     ·rw [if_pos c10] at H
      have c10b0 : ((Int.tmod a0 a1) == (wrap64 (a1 - (Int.tmod a0 a1)))) = true := beq_iff_eq.mpr c10
      have c10b1 : ((Int.tmod a0 a1) != (wrap64 (a1 - (Int.tmod a0 a1)))) = false := bne_eq_false_iff_eq.mpr c10
      clear c10
      by_cases c11 : (Go.bits .and .i64 (wrap64 (Int.tdiv a0 a1)) 1) = 0
      ·rw [if_pos c11] at H
       have c11b0 : ((Go.bits .and .i64 (wrap64 (Int.tdiv a0 a1)) 1) == 0) = true := beq_iff_eq.mpr c11
       have c11b1 : ((Go.bits .and .i64 (wrap64 (Int.tdiv a0 a1)) 1) != 0) = false := bne_eq_false_iff_eq.mpr c11
       clear c11
       obtain rfl := Option.some.inj H
       go_enter Try.func67, Try.ntmps67
       go_wp2
       repeat (go_quiet (fail); try go_wp2)
       go_ret
       exact ⟨rs_, d0_⟩
      ·rw [if_neg c11] at H
       have c11b0 : ((Go.bits .and .i64 (wrap64 (Int.tdiv a0 a1)) 1) == 0) = false := beq_eq_false_iff_ne.mpr c11
       have c11b1 : ((Go.bits .and .i64 (wrap64 (Int.tdiv a0 a1)) 1) != 0) = true := bne_iff_ne.mpr c11
       obtain rfl := Option.some.inj H
       go_enter Try.func67, Try.ntmps67
       go_wp2
       repeat (go_quiet (fail); try go_wp2)
       go_ret
       exact ⟨rs_, d0_⟩
     ·rw [if_neg c10] at H
      have c10b0 : ((Int.tmod a0 a1) == (wrap64 (a1 - (Int.tmod a0 a1)))) = false := beq_eq_false_iff_ne.mpr c10
      have c10b1 : ((Int.tmod a0 a1) != (wrap64 (a1 - (Int.tmod a0 a1)))) = true := bne_iff_ne.mpr c10
      obtain rfl := Option.some.inj H
      go_enter Try.func67, Try.ntmps67
      go_wp2
      repeat (go_quiet (fail); try go_wp2)
      go_ret
      exact ⟨rs_, d0_⟩
def fix_cut.f (a0 : Int) (a1 : Int) (a2 : Int) : Option (Int) := some (wrap32 (mn (mx a0 a1) a2))
theorem fix_cut.calls (a0 : Int) (a1 : Int) (a2 : Int) (r : Int) (w : World) (h : fix_cut.f a0 a1 a2 = some r) :
  Calls Try.prog 71 #[.int .i64 a0, .int .i64 a1, .int .i64 a2] w fun e w' => e = .returned (.int .i32 r) ∧ Below w.heap.size w w' := by
 have HB := A_ (Below.refl w.heap.size w)
 have H := h
 unfold fix_cut.f at H
 clear h
 obtain ⟨ji4, hji4⟩ : ∃ j_ : Int, (mx a0 a1) = j_ := ⟨_, rfl⟩
 replace H : (some (wrap32 (mn (ji4) a2))) = some r := by first | (rw [hji4] at H; exact H) | (simp only [hji4] at H ⊢; exact H)
 have hji4_ : (if a0 < a1 then a1 else a0) = ji4 := hji4
 obtain ⟨ji5, hji5⟩ : ∃ j_ : Int, (mn (ji4) a2) = j_ := ⟨_, rfl⟩
 replace H : (some (wrap32 (ji5))) = some r := by first | (rw [hji5] at H; exact H) | (simp only [hji5] at H ⊢; exact H)
 have hji5_ : (if a2 < (ji4) then a2 else (ji4)) = ji5 := hji5
 obtain rfl := Option.some.inj H
 go_enter Try.func71, Try.ntmps71
 go_wp2
 go_ret
 exact ⟨by first | rfl | (simp [errW_none, errW_some] <;> rfl) | (simp only [← hji4, ← hji5]; first | rfl | (simp [errW_none, errW_some] <;> rfl)) | (simp [*, errW_none, errW_some] <;> rfl), bl_⟩
def fix_Wide.f (a0 : Int) : Option (Int) := (fix_cut.f a0 (-2147483648) 2147483647).bind fun t114 => (some t114)
theorem fix_Wide.calls (a0 : Int) (r : Int) (w : World) (h : fix_Wide.f a0 = some r) :
  Calls Try.prog 47 #[.int .i64 a0] w fun e w' => e = .returned (.int .i32 r) ∧ Below w.heap.size w w' := by
 have HB := A_ (Below.refl w.heap.size w)
 have H := h
 unfold fix_Wide.f at H
 clear h
 replace H := ob_ H
 obtain ⟨t114, A2, H⟩ := H
 try dsimp only at H
 obtain rfl := Option.some.inj H
 go_enter Try.func47, Try.ntmps47
 go_wp2_with (first | (refine goesL_ (some 4) rfl rfl Try.func71 (by kernel_rfl) rfl #[.int .i64 a0, .int .i64 (-2147483648), .int .i64 2147483647] rfl ar_ ?_; (with_reducible refine (fix_cut.calls a0 (-2147483648) 2147483647 t114 _ A2.out).mono ?_); rintro e w3 ⟨rfl, hb⟩; refine ⟨_, rfl, ?_⟩; replace HB := A_ (below_step bl_ hb)))
 go_ret
 exact ⟨ew_, bl_⟩
def credenzaref01_Cut.f (a0 : Int) (a1 : Int) (a2 : Int) : Option (Int) := if a0 < a1 then (some a1) else (if a0 > a2 then (some a2) else (some a0))
theorem credenzaref01_Cut.calls (a0 : Int) (a1 : Int) (a2 : Int) (r : Int) (w : World) (h : credenzaref01_Cut.f a0 a1 a2 = some r) :
  Calls Try.prog 50 #[.int .i64 a0, .int .i64 a1, .int .i64 a2] w fun e w' => e = .returned (.int .i64 r) ∧ Drawn0 w w' := by
 have H := h
 unfold credenzaref01_Cut.f at H
 clear h
 by_cases c4 : a0 < a1
 ·rw [if_pos c4] at H
  have c4b0 : decide (a0 < a1) = true := decide_eq_true c4
  clear c4
  obtain rfl := Option.some.inj H
  go_enter Try.func50, Try.ntmps50
  go_wp2
  go_ret
  exact ⟨rs_, d0_⟩
 ·rw [if_neg c4] at H
  have c4b0 : decide (a0 < a1) = false := decide_eq_false c4
  clear c4
  by_cases c5 : a0 > a2
  ·rw [if_pos c5] at H
   have c5b0 : decide (a2 < a0) = true := decide_eq_true c5
   clear c5
   obtain rfl := Option.some.inj H
   go_enter Try.func50, Try.ntmps50
   go_wp2
   go_ret
   exact ⟨rs_, d0_⟩
  ·rw [if_neg c5] at H
   have c5b0 : decide (a2 < a0) = false := decide_eq_false c5
   clear c5
   obtain rfl := Option.some.inj H
   go_enter Try.func50, Try.ntmps50
   go_wp2
   go_ret
   exact ⟨rs_, d0_⟩
def credenzaref01_Wide.f (a0 : Int) : Option (Int) := (credenzaref01_Cut.f a0 (-2147483648) 2147483647).bind fun t201 => (some (wrap32 (t201)))
theorem credenzaref01_Wide.calls (a0 : Int) (r : Int) (w : World) (h : credenzaref01_Wide.f a0 = some r) :
  Calls Try.prog 28 #[.int .i64 a0] w fun e w' => e = .returned (.int .i32 r) ∧ Drawn0 w w' := by
 have H := h
 unfold credenzaref01_Wide.f at H
 clear h
 replace H := ob_ H
 obtain ⟨t201, A2, H⟩ := H
 try dsimp only at H
 obtain rfl := Option.some.inj H
 go_enter Try.func28, Try.ntmps28
 go_wp2_with (first | (refine goesL_ (some 4) rfl rfl Try.func50 (by kernel_rfl) rfl #[.int .i64 a0, .int .i64 (-2147483648), .int .i64 2147483647] rfl ar_ ?_; (with_reducible refine (credenzaref01_Cut.calls a0 (-2147483648) 2147483647 t201 _ A2.out).mono ?_); rintro e w' ⟨rfl, ⟨nd, rfl⟩⟩; refine ⟨_, rfl, ?_⟩))
 go_ret
 exact ⟨rs_, d0_⟩
def credenzaref01_Floor.f (a0 : Int) (a1 : Int) : Option (Int) := if a1 = 0 then (none) else (if (wrap64 ((wrap64 (Int.tdiv a0 a1)) * a1)) > a0 then (some (wrap64 ((wrap64 (Int.tdiv a0 a1)) - 1))) else (some (wrap64 (Int.tdiv a0 a1))))
theorem credenzaref01_Floor.calls (a0 : Int) (a1 : Int) (r : Int) (w : World) (h : credenzaref01_Floor.f a0 a1 = some r) :
  Calls Try.prog 51 #[.int .i64 a0, .int .i64 a1] w fun e w' => e = .returned (.int .i64 r) ∧ Drawn0 w w' := by
 have H := h
 unfold credenzaref01_Floor.f at H
 clear h
 by_cases c3 : a1 = 0
 ·rw [if_pos c3] at H
  exact absurd H (by simp)
 ·rw [if_neg c3] at H
  have c3b0 : (a1 == 0) = false := beq_eq_false_iff_ne.mpr c3
  have c3b1 : (a1 != 0) = true := bne_iff_ne.mpr c3
  by_cases c4 : (wrap64 ((wrap64 (Int.tdiv a0 a1)) * a1)) > a0
  ·rw [if_pos c4] at H
   have c4b0 : decide (a0 < (wrap64 ((wrap64 (Int.tdiv a0 a1)) * a1))) = true := decide_eq_true c4
   clear c4
   obtain rfl := Option.some.inj H
   go_enter Try.func51, Try.ntmps51
   go_wp2
   go_ret
   exact ⟨rs_, d0_⟩
  ·rw [if_neg c4] at H
   have c4b0 : decide (a0 < (wrap64 ((wrap64 (Int.tdiv a0 a1)) * a1))) = false := decide_eq_false c4
   clear c4
   obtain rfl := Option.some.inj H
   go_enter Try.func51, Try.ntmps51
   go_wp2
   go_ret
   exact ⟨rs_, d0_⟩
def credenzaref01_Ratio.f (a0 : Int) (a1 : Int) : Option (Int) := (credenzaref01_Floor.f a0 a1).bind fun t202 => (if (wrap64 (a0 - (wrap64 (t202 * a1)))) > (wrap64 (a1 - (wrap64 (a0 - (wrap64 (t202 * a1)))))) then (some (wrap64 (t202 + 1))) else (if (wrap64 (a0 - (wrap64 (t202 * a1)))) = (wrap64 (a1 - (wrap64 (a0 - (wrap64 (t202 * a1)))))) then (if (Int.tmod t202 2) = 0 then (some t202) else (some (wrap64 (t202 + 1)))) else (some t202)))
theorem credenzaref01_Ratio.calls (a0 : Int) (a1 : Int) (r : Int) (w : World) (h : credenzaref01_Ratio.f a0 a1 = some r) :
  Calls Try.prog 29 #[.int .i64 a0, .int .i64 a1] w fun e w' => e = .returned (.int .i64 r) ∧ Drawn0 w w' := by
 have H := h
 unfold credenzaref01_Ratio.f at H
 clear h
 replace H := ob_ H
 obtain ⟨t202, A3, H⟩ := H
 try dsimp only at H
 by_cases c4 : (wrap64 (a0 - (wrap64 (t202 * a1)))) > (wrap64 (a1 - (wrap64 (a0 - (wrap64 (t202 * a1))))))
 ·rw [if_pos c4] at H
  have c4b0 : decide ((wrap64 (a1 - (wrap64 (a0 - (wrap64 (t202 * a1)))))) < (wrap64 (a0 - (wrap64 (t202 * a1))))) = true := decide_eq_true c4
  clear c4
  obtain rfl := Option.some.inj H
  go_enter Try.func29, Try.ntmps29
  go_wp2_with (first | (refine goesL_ (some 10) rfl rfl Try.func51 (by kernel_rfl) rfl #[.int .i64 a0, .int .i64 a1] rfl ar_ ?_; (with_reducible refine (credenzaref01_Floor.calls a0 a1 t202 _ A3.out).mono ?_); rintro e w' ⟨rfl, ⟨nd, rfl⟩⟩; refine ⟨_, rfl, ?_⟩))
  go_ret
  exact ⟨rs_, d0_⟩
 ·rw [if_neg c4] at H
  have c4b0 : decide ((wrap64 (a1 - (wrap64 (a0 - (wrap64 (t202 * a1)))))) < (wrap64 (a0 - (wrap64 (t202 * a1))))) = false := decide_eq_false c4
  clear c4
  by_cases c5 : (wrap64 (a0 - (wrap64 (t202 * a1)))) = (wrap64 (a1 - (wrap64 (a0 - (wrap64 (t202 * a1))))))
  ·rw [if_pos c5] at H
   have c5b0 : ((wrap64 (a0 - (wrap64 (t202 * a1)))) == (wrap64 (a1 - (wrap64 (a0 - (wrap64 (t202 * a1))))))) = true := beq_iff_eq.mpr c5
   have c5b1 : ((wrap64 (a0 - (wrap64 (t202 * a1)))) != (wrap64 (a1 - (wrap64 (a0 - (wrap64 (t202 * a1))))))) = false := bne_eq_false_iff_eq.mpr c5
   clear c5
   by_cases c6 : (Int.tmod t202 2) = 0
   ·rw [if_pos c6] at H
    have c6b0 : ((Int.tmod t202 2) == 0) = true := beq_iff_eq.mpr c6
    have c6b1 : ((Int.tmod t202 2) != 0) = false := bne_eq_false_iff_eq.mpr c6
    clear c6
    obtain rfl := Option.some.inj H
    go_enter Try.func29, Try.ntmps29
    go_wp2_with (first | (refine goesL_ (some 10) rfl rfl Try.func51 (by kernel_rfl) rfl #[.int .i64 a0, .int .i64 a1] rfl ar_ ?_; (with_reducible refine (credenzaref01_Floor.calls a0 a1 t202 _ A3.out).mono ?_); rintro e w' ⟨rfl, ⟨nd, rfl⟩⟩; refine ⟨_, rfl, ?_⟩))
    go_ret
    exact ⟨rs_, d0_⟩
   ·rw [if_neg c6] at H
    have c6b0 : ((Int.tmod t202 2) == 0) = false := beq_eq_false_iff_ne.mpr c6
    have c6b1 : ((Int.tmod t202 2) != 0) = true := bne_iff_ne.mpr c6
    obtain rfl := Option.some.inj H
    go_enter Try.func29, Try.ntmps29
    go_wp2_with (first | (refine goesL_ (some 10) rfl rfl Try.func51 (by kernel_rfl) rfl #[.int .i64 a0, .int .i64 a1] rfl ar_ ?_; (with_reducible refine (credenzaref01_Floor.calls a0 a1 t202 _ A3.out).mono ?_); rintro e w' ⟨rfl, ⟨nd, rfl⟩⟩; refine ⟨_, rfl, ?_⟩))
    go_ret
    exact ⟨rs_, d0_⟩
  ·rw [if_neg c5] at H
   have c5b0 : ((wrap64 (a0 - (wrap64 (t202 * a1)))) == (wrap64 (a1 - (wrap64 (a0 - (wrap64 (t202 * a1))))))) = false := beq_eq_false_iff_ne.mpr c5
   have c5b1 : ((wrap64 (a0 - (wrap64 (t202 * a1)))) != (wrap64 (a1 - (wrap64 (a0 - (wrap64 (t202 * a1))))))) = true := bne_iff_ne.mpr c5
   obtain rfl := Option.some.inj H
   go_enter Try.func29, Try.ntmps29
   go_wp2_with (first | (refine goesL_ (some 10) rfl rfl Try.func51 (by kernel_rfl) rfl #[.int .i64 a0, .int .i64 a1] rfl ar_ ?_; (with_reducible refine (credenzaref01_Floor.calls a0 a1 t202 _ A3.out).mono ?_); rintro e w' ⟨rfl, ⟨nd, rfl⟩⟩; refine ⟨_, rfl, ?_⟩))
   go_ret
   exact ⟨rs_, d0_⟩
def fix_Half.f (a0 : Int) (a1 : Int) : Option (Int) := if (wrap64 (a0 - (wrap64 ((a0 / 2 ^ (mn (mx a1 0) 62).toNat) * 2 ^ (mn (mx a1 0) 62).toNat)))) > ((wrap64 (2 ^ (mn (mx a1 0) 62).toNat)) / 2) then (some (wrap64 ((a0 / 2 ^ (mn (mx a1 0) 62).toNat) + 1))) else (if (wrap64 (a0 - (wrap64 ((a0 / 2 ^ (mn (mx a1 0) 62).toNat) * 2 ^ (mn (mx a1 0) 62).toNat)))) = ((wrap64 (2 ^ (mn (mx a1 0) 62).toNat)) / 2) then (if (mn (mx a1 0) 62) > 0 then (if (Go.bits .and .i64 (a0 / 2 ^ (mn (mx a1 0) 62).toNat) 1) = 1 then (some (wrap64 ((a0 / 2 ^ (mn (mx a1 0) 62).toNat) + 1))) else (some (a0 / 2 ^ (mn (mx a1 0) 62).toNat))) else (some (a0 / 2 ^ (mn (mx a1 0) 62).toNat))) else (some (a0 / 2 ^ (mn (mx a1 0) 62).toNat)))
theorem fix_Half.calls (a0 : Int) (a1 : Int) (r : Int) (w : World) (h : fix_Half.f a0 a1 = some r) :
  Calls Try.prog 48 #[.int .i64 a0, .int .i64 a1] w fun e w' => e = .returned (.int .i64 r) ∧ Below w.heap.size w w' := by
 have HB := A_ (Below.refl w.heap.size w)
 have H := h
 unfold fix_Half.f at H
 clear h
 obtain ⟨ji3, hji3⟩ : ∃ j_ : Int, (mx a1 0) = j_ := ⟨_, rfl⟩
 replace H : (if (wrap64 (a0 - (wrap64 ((a0 / 2 ^ (mn (ji3) 62).toNat) * 2 ^ (mn (ji3) 62).toNat)))) > ((wrap64 (2 ^ (mn (ji3) 62).toNat)) / 2) then (some (wrap64 ((a0 / 2 ^ (mn (ji3) 62).toNat) + 1))) else (if (wrap64 (a0 - (wrap64 ((a0 / 2 ^ (mn (ji3) 62).toNat) * 2 ^ (mn (ji3) 62).toNat)))) = ((wrap64 (2 ^ (mn (ji3) 62).toNat)) / 2) then (if (mn (ji3) 62) > 0 then (if (Go.bits .and .i64 (a0 / 2 ^ (mn (ji3) 62).toNat) 1) = 1 then (some (wrap64 ((a0 / 2 ^ (mn (ji3) 62).toNat) + 1))) else (some (a0 / 2 ^ (mn (ji3) 62).toNat))) else (some (a0 / 2 ^ (mn (ji3) 62).toNat))) else (some (a0 / 2 ^ (mn (ji3) 62).toNat)))) = some r := by first | (rw [hji3] at H; exact H) | (simp only [hji3] at H ⊢; exact H)
 (try (have hji3l : 0 ≤ ji3 := by (rw [← hji3]; unfold mx; (repeat' split) <;> omega)))
 (try (have hji3m : 0 ≤ ji3 := by omega))
 have hji3_ : (if a1 < 0 then 0 else a1) = ji3 := hji3
 obtain ⟨ji4, hji4⟩ : ∃ j_ : Int, (mn (ji3) 62) = j_ := ⟨_, rfl⟩
 replace H : (if (wrap64 (a0 - (wrap64 ((a0 / 2 ^ (ji4).toNat) * 2 ^ (ji4).toNat)))) > ((wrap64 (2 ^ (ji4).toNat)) / 2) then (some (wrap64 ((a0 / 2 ^ (ji4).toNat) + 1))) else (if (wrap64 (a0 - (wrap64 ((a0 / 2 ^ (ji4).toNat) * 2 ^ (ji4).toNat)))) = ((wrap64 (2 ^ (ji4).toNat)) / 2) then (if (ji4) > 0 then (if (Go.bits .and .i64 (a0 / 2 ^ (ji4).toNat) 1) = 1 then (some (wrap64 ((a0 / 2 ^ (ji4).toNat) + 1))) else (some (a0 / 2 ^ (ji4).toNat))) else (some (a0 / 2 ^ (ji4).toNat))) else (some (a0 / 2 ^ (ji4).toNat)))) = some r := by first | (rw [hji4] at H; exact H) | (simp only [hji4] at H ⊢; exact H)
 have hji4_ : (if 62 < (ji3) then 62 else (ji3)) = ji4 := hji4
 by_cases c5 : (wrap64 (a0 - (wrap64 ((a0 / 2 ^ (ji4).toNat) * 2 ^ (ji4).toNat)))) > ((wrap64 (2 ^ (ji4).toNat)) / 2)
 ·rw [if_pos c5] at H
  have c5b0 : decide (((wrap64 (2 ^ (ji4).toNat)) / 2) < (wrap64 (a0 - (wrap64 ((a0 / 2 ^ (ji4).toNat) * 2 ^ (ji4).toNat))))) = true := decide_eq_true c5
  clear c5
  obtain rfl := Option.some.inj H
  go_enter Try.func48, Try.ntmps48
  go_wp2
  repeat (go_quiet (fail); try go_wp2)
  go_ret
  exact ⟨by first | rfl | (simp [errW_none, errW_some] <;> rfl) | (simp only [← hji3, ← hji4]; first | rfl | (simp [errW_none, errW_some] <;> rfl)) | (simp [*, errW_none, errW_some] <;> rfl), bl_⟩
 ·rw [if_neg c5] at H
  have c5b0 : decide (((wrap64 (2 ^ (ji4).toNat)) / 2) < (wrap64 (a0 - (wrap64 ((a0 / 2 ^ (ji4).toNat) * 2 ^ (ji4).toNat))))) = false := decide_eq_false c5
  clear c5
  by_cases c6 : (wrap64 (a0 - (wrap64 ((a0 / 2 ^ (ji4).toNat) * 2 ^ (ji4).toNat)))) = ((wrap64 (2 ^ (ji4).toNat)) / 2)
  ·rw [if_pos c6] at H
   have c6b0 : ((wrap64 (a0 - (wrap64 ((a0 / 2 ^ (ji4).toNat) * 2 ^ (ji4).toNat)))) == ((wrap64 (2 ^ (ji4).toNat)) / 2)) = true := beq_iff_eq.mpr c6
   have c6b1 : ((wrap64 (a0 - (wrap64 ((a0 / 2 ^ (ji4).toNat) * 2 ^ (ji4).toNat)))) != ((wrap64 (2 ^ (ji4).toNat)) / 2)) = false := bne_eq_false_iff_eq.mpr c6
   clear c6
   by_cases c7 : (ji4) > 0
   ·rw [if_pos c7] at H
    have c7b0 : decide (0 < (ji4)) = true := decide_eq_true c7
    clear c7
    by_cases c8 : (Go.bits .and .i64 (a0 / 2 ^ (ji4).toNat) 1) = 1
    ·rw [if_pos c8] at H
     have c8b0 : ((Go.bits .and .i64 (a0 / 2 ^ (ji4).toNat) 1) == 1) = true := beq_iff_eq.mpr c8
     have c8b1 : ((Go.bits .and .i64 (a0 / 2 ^ (ji4).toNat) 1) != 1) = false := bne_eq_false_iff_eq.mpr c8
     clear c8
     obtain rfl := Option.some.inj H
     go_enter Try.func48, Try.ntmps48
     go_wp2
     repeat (go_quiet (fail); try go_wp2)
     go_ret
     exact ⟨by first | rfl | (simp [errW_none, errW_some] <;> rfl) | (simp only [← hji3, ← hji4]; first | rfl | (simp [errW_none, errW_some] <;> rfl)) | (simp [*, errW_none, errW_some] <;> rfl), bl_⟩
    ·rw [if_neg c8] at H
     have c8b0 : ((Go.bits .and .i64 (a0 / 2 ^ (ji4).toNat) 1) == 1) = false := beq_eq_false_iff_ne.mpr c8
     have c8b1 : ((Go.bits .and .i64 (a0 / 2 ^ (ji4).toNat) 1) != 1) = true := bne_iff_ne.mpr c8
     obtain rfl := Option.some.inj H
     go_enter Try.func48, Try.ntmps48
     go_wp2
     repeat (go_quiet (fail); try go_wp2)
     go_ret
     exact ⟨by first | rfl | (simp [errW_none, errW_some] <;> rfl) | (simp only [← hji3, ← hji4]; first | rfl | (simp [errW_none, errW_some] <;> rfl)) | (simp [*, errW_none, errW_some] <;> rfl), bl_⟩
   ·rw [if_neg c7] at H
    have c7b0 : decide (0 < (ji4)) = false := decide_eq_false c7
    clear c7
    obtain rfl := Option.some.inj H
    go_enter Try.func48, Try.ntmps48
    go_wp2
    repeat (go_quiet (fail); try go_wp2)
    go_ret
    exact ⟨by first | rfl | (simp [errW_none, errW_some] <;> rfl) | (simp only [← hji3, ← hji4]; first | rfl | (simp [errW_none, errW_some] <;> rfl)) | (simp [*, errW_none, errW_some] <;> rfl), bl_⟩
  ·rw [if_neg c6] at H
   have c6b0 : ((wrap64 (a0 - (wrap64 ((a0 / 2 ^ (ji4).toNat) * 2 ^ (ji4).toNat)))) == ((wrap64 (2 ^ (ji4).toNat)) / 2)) = false := beq_eq_false_iff_ne.mpr c6
   have c6b1 : ((wrap64 (a0 - (wrap64 ((a0 / 2 ^ (ji4).toNat) * 2 ^ (ji4).toNat)))) != ((wrap64 (2 ^ (ji4).toNat)) / 2)) = true := bne_iff_ne.mpr c6
   obtain rfl := Option.some.inj H
   go_enter Try.func48, Try.ntmps48
   go_wp2
   repeat (go_quiet (fail); try go_wp2)
   go_ret
   exact ⟨by first | rfl | (simp [errW_none, errW_some] <;> rfl) | (simp only [← hji3, ← hji4]; first | rfl | (simp [errW_none, errW_some] <;> rfl)) | (simp [*, errW_none, errW_some] <;> rfl), bl_⟩
def credenzaref01_Power.l0 : Nat → Int → Int → Int → Option (Int)
 | 0, _, _, _ => none
 | k + 1, x0, x3, x4 => if x4 < x0 then (credenzaref01_Power.l0 k x0 (wrap64 (x3 * 2)) (wrap64 (x4 + 1))) else (some x3)
def credenzaref01_Power.f (k : Nat) (a0 : Int) : Option (Int) := credenzaref01_Power.l0 k a0 1 0
theorem credenzaref01_Power.mono_l : ∀ k, (∀ y0 y1 y2, LeO (credenzaref01_Power.l0 k y0 y1 y2) (credenzaref01_Power.l0 (k + 1) y0 y1 y2))
 | 0 => fun _ _ _ r h => by simp [credenzaref01_Power.l0] at h
 | k + 1 => by
  have ih0 := credenzaref01_Power.mono_l k
  ·intro y0 y1 y2
   unfold credenzaref01_Power.l0
   repeat' with_reducible first | apply ih0 | apply LeO.refl | apply LeO.none | refine LeO.ite ?_ ?_ | refine LeO.bind ?_ (fun _ => ?_)
theorem credenzaref01_Power.mono : ∀ a0 k, LeO (credenzaref01_Power.f k a0) (credenzaref01_Power.f (k + 1) a0) := by
 intro a0 k
 have ih0 := credenzaref01_Power.mono_l k
 unfold credenzaref01_Power.f
 repeat' with_reducible first | apply ih0 | apply LeO.refl | apply LeO.none | refine LeO.ite ?_ ?_ | refine LeO.bind ?_ (fun _ => ?_)
theorem credenzaref01_Power.calls (k : Nat) (a0 : Int) (r : Int) (w : World) (h : credenzaref01_Power.f k a0 = some r) :
  Calls Try.prog 81 #[.int .i64 a0] w fun e w' => e = .returned (.int .i64 r) ∧ Drawn0 w w' := by
 have H := h
 unfold credenzaref01_Power.f at H
 clear h
 have H' := A_ H
 clear H
 go_enter Try.func81, Try.ntmps81
 go_wp2
 go_loopg [3, 4] k (fun kq v3 v4 w' => ∃ (x3_1 : Int) (x4_1 : Int), v3 = .int .i64 x3_1 ∧ v4 = .int .i64 x4_1 ∧ Aside0 (credenzaref01_Power.l0 kq a0 x3_1 x4_1 = some r) ∧ Aside0 (kq ≤ k) ∧ Drawn0 w w')
 case atStart => exact ⟨(1), (0), rs_, rs_, H', ⟨Nat.le_refl _⟩, d0_⟩
 case round =>
  clear H'
  obtain ⟨x3_1, x4_1, rfl, rfl, HA, HK1, ⟨m1, rfl⟩⟩ := hrel
  cases gk with
  | zero => exact absurd HA.out (by simp [credenzaref01_Power.l0])
  | succ k1 =>
   have H := HA.out
   clear HA
   simp only [credenzaref01_Power.l0] at H
   by_cases c2 : x4_1 < a0
   ·rw [if_pos c2] at H
    have c2b0 : decide (x4_1 < a0) = true := decide_eq_true c2
    clear c2
    have H' := A_ H
    clear H
    go_wp2
    go_roundg k1
    case measure => have := HK1.out; omega
    case rel => exact ⟨(wrap64 (x3_1 * 2)), (wrap64 (x4_1 + 1)), rs_, rs_, H', ⟨by have := HK1.out; omega⟩, d0_⟩
   ·rw [if_neg c2] at H
    have c2b0 : decide (x4_1 < a0) = false := decide_eq_false c2
    clear c2
    obtain rfl := Option.some.inj H
    go_wp2
    go_ret
    exact ⟨rs_, d0_⟩
def credenzaref01_Half.f (k : Nat) (a0 : Int) (a1 : Int) : Option (Int) := (credenzaref01_Cut.f a1 0 62).bind fun t244 => ((credenzaref01_Power.f k t244).bind fun t245 => ((credenzaref01_Ratio.f a0 t245).bind fun t246 => (some t246)))
theorem credenzaref01_Half.calls (k : Nat) (a0 : Int) (a1 : Int) (r : Int) (w : World) (h : credenzaref01_Half.f k a0 a1 = some r) :
  Calls Try.prog 73 #[.int .i64 a0, .int .i64 a1] w fun e w' => e = .returned (.int .i64 r) ∧ Drawn0 w w' := by
 have H := h
 unfold credenzaref01_Half.f at H
 clear h
 replace H := ob_ H
 obtain ⟨t244, A3, H⟩ := H
 try dsimp only at H
 replace H := ob_ H
 obtain ⟨t245, A4, H⟩ := H
 try dsimp only at H
 replace H := ob_ H
 obtain ⟨t246, A5, H⟩ := H
 try dsimp only at H
 obtain rfl := Option.some.inj H
 go_enter Try.func73, Try.ntmps73
 go_wp2_with (first | (refine goesL_ (some 7) rfl rfl Try.func50 (by kernel_rfl) rfl #[.int .i64 a1, .int .i64 0, .int .i64 62] rfl ar_ ?_; (with_reducible refine (credenzaref01_Cut.calls a1 0 62 t244 _ A3.out).mono ?_); rintro e w' ⟨rfl, ⟨nd, rfl⟩⟩; refine ⟨_, rfl, ?_⟩) | (refine goesL_ (some 8) rfl rfl Try.func81 (by kernel_rfl) rfl #[.int .i64 t244] rfl ar_ ?_; (with_reducible refine (credenzaref01_Power.calls k t244 t245 _ A4.out).mono ?_); rintro e w' ⟨rfl, ⟨nd, rfl⟩⟩; refine ⟨_, rfl, ?_⟩) | (refine goesL_ (some 9) rfl rfl Try.func29 (by kernel_rfl) rfl #[.int .i64 a0, .int .i64 t245] rfl ar_ ?_; (with_reducible refine (credenzaref01_Ratio.calls a0 t245 t246 _ A5.out).mono ?_); rintro e w' ⟨rfl, ⟨nd, rfl⟩⟩; refine ⟨_, rfl, ?_⟩))
 go_ret
 exact ⟨rs_, d0_⟩
end Go.Proofs.Yteflolamihhmdaa.Q

namespace Go.Proofs.Yteflolamihhmdaa.Pure
open Go.RowKit Go.Proofs.Yteflolamihhmdaa.Q Go.Proofs.YteflolamihhmdaaW.PrintWords Go.Proofs.YteflolamihhmdaaW.PrintLast
theorem bits_and1 (q : Int) : Go.bits .and .i64 q 1 = q % 2 := by
 have h1 : (BitVec.ofInt 64 1).toNat = 1 := by decide
 have h2 : ((BitVec.ofInt 64 q) &&& (BitVec.ofInt 64 1)).toNat = ((BitVec.ofInt 64 q).toNat % 2) := by
  rw [BitVec.toNat_and, h1, Nat.and_one_is_mod]
 have h3 : (BitVec.ofInt 64 q).toNat = (q % 18446744073709551616).toNat := by rw [BitVec.toNat_ofInt]; rfl
 have hb : IntKind.i64.bits = 64 := rfl
 unfold bits
 show IntKind.i64.wrap (((BitVec.ofInt 64 q) &&& (BitVec.ofInt 64 1)).toNat : Int) = q % 2
 rw [h2, h3, IntWalk.i64_in _ (by omega)]
 omega
def cutR (v lo hi : Int) : Int := if v < lo then lo else if hi < v then hi else v
def wideR (v : Int) : Int := cutR v (-2147483648) 2147483647
def narR (v : Int) : Int := cutR v (-8388608) 8388608
theorem cutR_bd {v lo hi : Int} (h : lo ≤ hi) : lo ≤ cutR v lo hi ∧ cutR v lo hi ≤ hi := by unfold cutR; split <;> (try split) <;> omega
theorem narR_bd (v : Int) : -8388608 ≤ narR v ∧ narR v ≤ 8388608 := cutR_bd (by omega)
theorem wideR_bd (v : Int) : -2147483648 ≤ wideR v ∧ wideR v ≤ 2147483647 := cutR_bd (by omega)
theorem w64 {x : Int} (h1 : -9223372036854775808 ≤ x) (h2 : x ≤ 9223372036854775807) : wrap64 x = x := IntWalk.wrap64_in x ⟨h1, h2⟩
theorem w32 {x : Int} (h1 : -2147483648 ≤ x) (h2 : x ≤ 2147483647) : wrap32 x = x := IntWalk.wrap32_in x ⟨h1, h2⟩
theorem fix_cut_some (v lo hi : Int) (h : lo ≤ hi) (h1 : -2147483648 ≤ lo) (h2 : hi ≤ 2147483647) : fix_cut.f v lo hi = some (cutR v lo hi) := by
 have hb := cutR_bd (v := v) h
 have e : mn (mx v lo) hi = cutR v lo hi := by unfold mn mx cutR; omega
 unfold fix_cut.f
 rw [e, w32 (by omega) (by omega)]
theorem fix_Wide_some (v : Int) : fix_Wide.f v = some (wideR v) := by
 unfold fix_Wide.f
 rw [fix_cut_some v _ _ (by omega) (by omega) (by omega)]
 rfl
theorem ref_Cut_some (v lo hi : Int) : credenzaref01_Cut.f v lo hi = some (cutR v lo hi) := by
 unfold credenzaref01_Cut.f cutR
 by_cases h1 : v < lo
 ·rw [if_pos h1, if_pos h1]
 ·rw [if_neg h1, if_neg h1]
  by_cases h2 : v > hi
  ·rw [if_pos h2, if_pos h2]
  ·rw [if_neg h2, if_neg h2]
theorem ref_Wide_some (v : Int) : credenzaref01_Wide.f v = some (wideR v) := by
 have hb := wideR_bd v
 unfold credenzaref01_Wide.f
 rw [ref_Cut_some]
 show some (wrap32 (wideR v)) = _
 rw [w32 hb.1 hb.2]
def rnd (a b : Int) : Int := if b - a % b < a % b ∨ (a % b = b - a % b ∧ (a / b) % 2 ≠ 0) then a / b + 1 else a / b
theorem divmod {a b : Int} (hb : 0 < b) : b * (a / b) + a % b = a ∧ 0 ≤ a % b ∧ a % b < b := ⟨Int.mul_ediv_add_emod a b, Int.emod_nonneg _ (by omega), Int.emod_lt_of_pos _ hb⟩
theorem div_bd {a b : Int} (hb : 0 < b) (B : Int) (h1 : -B ≤ a) (h2 : a ≤ B) : -B ≤ a / b ∧ a / b ≤ B := by
 have hB : 0 ≤ B := by omega
 constructor
 ·apply Int.le_ediv_of_mul_le hb
  have : -B * b ≤ -B * 1 := Int.mul_le_mul_of_nonpos_left (by omega) (by omega)
  omega
 ·have : a / b < B + 1 := by
   apply Int.ediv_lt_of_lt_mul hb
   have : (B + 1) * 1 ≤ (B + 1) * b := Int.mul_le_mul_of_nonneg_left (by omega) (by omega)
   omega
  omega
theorem tdiv_cases {a b : Int} (hb : 0 < b) : (Int.tdiv a b = a / b ∧ (0 ≤ a ∨ a % b = 0)) ∨ (Int.tdiv a b = a / b + 1 ∧ a < 0 ∧ a % b ≠ 0) := by
 rw [Int.tdiv_eq_ediv]
 by_cases h : 0 ≤ a ∨ b ∣ a
 ·rw [if_pos h]
  refine .inl ⟨by omega, h.imp_right (fun h => Int.emod_eq_zero_of_dvd h)⟩
 ·rw [if_neg h]
  refine .inr ⟨by rw [Int.sign_eq_one_of_pos hb], by omega, fun h2 => h (.inr (Int.dvd_of_emod_eq_zero h2))⟩
theorem ref_Floor_some {a b : Int} (hb : 0 < b) (ha1 : -4611686018427387904 ≤ a) (ha2 : a ≤ 4611686018427387904) (hb2 : b ≤ 4611686018427387904) : credenzaref01_Floor.f a b = some (a / b) := by
 obtain ⟨h1, h2, h3⟩ := divmod (a := a) hb
 have h4 := div_bd hb 4611686018427387904 ha1 ha2
 have h5 : (a / b + 1) * b = b * (a / b) + b := by rw [Int.add_mul, Int.mul_comm]; omega
 have h6 : (a / b) * b = b * (a / b) := Int.mul_comm _ _
 unfold credenzaref01_Floor.f
 rw [if_neg (by omega)]
 rcases tdiv_cases (a := a) hb with ⟨e, h⟩ | ⟨e, h, h'⟩
 ·rw [e, w64 (x := a / b) (by omega) (by omega), h6, w64 (x := b * (a / b)) (by omega) (by omega), if_neg (by omega)]
 ·rw [e, w64 (x := a / b + 1) (by omega) (by omega), h5, w64 (x := b * (a / b) + b) (by omega) (by omega), if_pos (by omega), show a / b + 1 - 1 = a / b by omega, w64 (x := a / b) (by omega) (by omega)]
theorem ref_Ratio_some {a b : Int} (hb : 0 < b) (ha1 : -4611686018427387904 ≤ a) (ha2 : a ≤ 4611686018427387904) (hb2 : b ≤ 4611686018427387904) : credenzaref01_Ratio.f a b = some (rnd a b) := by
 obtain ⟨h1, h2, h3⟩ := divmod (a := a) hb
 have h4 := div_bd hb 4611686018427387904 ha1 ha2
 have h6 : (a / b) * b = b * (a / b) := Int.mul_comm _ _
 unfold credenzaref01_Ratio.f
 rw [ref_Floor_some hb ha1 ha2 hb2]
 simp only [Option.bind_some]
 rw [h6, w64 (x := b * (a / b)) (by omega) (by omega), show a - b * (a / b) = a % b by omega, w64 (x := a % b) (by omega) (by omega), w64 (x := b - a % b) (by omega) (by omega), w64 (x := a / b + 1) (by omega) (by omega)]
 have ht : Int.tmod (a / b) 2 = 0 ↔ (a / b) % 2 = 0 := by rw [Int.tmod_eq_emod]; split <;> omega
 unfold rnd
 by_cases c1 : a % b > b - a % b
 ·rw [if_pos c1, if_pos (.inl c1)]
 ·rw [if_neg c1]
  by_cases c2 : a % b = b - a % b
  ·rw [if_pos c2]
   by_cases c3 : (a / b) % 2 = 0
   ·rw [if_pos (ht.2 c3), if_neg (by omega)]
   ·rw [if_neg (fun h => c3 (ht.1 h)), if_pos (.inr ⟨c2, c3⟩)]
  ·rw [if_neg c2, if_neg (by omega)]
theorem fix_Ratio_some {a b : Int} (hb : 0 < b) (ha1 : -4611686018427387904 ≤ a) (ha2 : a ≤ 4611686018427387904) (hb2 : b ≤ 4611686018427387904) : fix_Ratio.f a b = some (rnd a b) := by
 obtain ⟨h1, h2, h3⟩ := divmod (a := a) hb
 have h4 := div_bd hb 4611686018427387904 ha1 ha2
 have hm : Int.tmod a b = a - b * Int.tdiv a b := by have := Int.mul_tdiv_add_tmod a b; omega
 unfold fix_Ratio.f
 rw [if_neg (by omega), if_neg (by omega)]
 rcases tdiv_cases (a := a) hb with ⟨e, h⟩ | ⟨e, h, h'⟩
 ·have hm2 : Int.tmod a b = a % b := by rw [hm, e]; omega
  rw [e, hm2, if_neg (by omega), w64 (x := b - a % b) (by omega) (by omega), w64 (x := a / b) (by omega) (by omega), w64 (x := a / b + 1) (by omega) (by omega), bits_and1]
  unfold rnd
  by_cases c1 : a % b > b - a % b
  ·rw [if_pos c1, if_pos (.inl c1)]
  ·rw [if_neg c1]
   by_cases c2 : a % b = b - a % b
   ·rw [if_pos c2]
    by_cases c3 : (a / b) % 2 = 0
    ·rw [if_pos c3, if_neg (by omega)]
    ·rw [if_neg c3, if_pos (.inr ⟨c2, c3⟩)]
   ·rw [if_neg c2, if_neg (by omega)]
 ·have h5 : b * (a / b + 1) = b * (a / b) + b := by rw [Int.mul_add]; omega
  have hm2 : Int.tmod a b = a % b - b := by rw [hm, e, h5]; omega
  rw [e, hm2, if_pos (by omega), w64 (x := a % b - b + b) (by omega) (by omega), show a % b - b + b = a % b by omega, w64 (x := b - a % b) (by omega) (by omega), w64 (x := a / b + 1) (by omega) (by omega), show a / b + 1 - 1 = a / b by omega, w64 (x := a / b) (by omega) (by omega), w64 (x := a / b + 1) (by omega) (by omega), bits_and1]
  unfold rnd
  by_cases c1 : a % b > b - a % b
  ·rw [if_pos c1, if_pos (.inl c1)]
  ·rw [if_neg c1]
   by_cases c2 : a % b = b - a % b
   ·rw [if_pos c2]
    by_cases c3 : (a / b) % 2 = 0
    ·rw [if_pos c3, if_neg (by omega)]
    ·rw [if_neg c3, if_pos (.inr ⟨c2, c3⟩)]
   ·rw [if_neg c2, if_neg (by omega)]
theorem pow2_bd {n : Nat} (hn : n ≤ 62) : 1 ≤ (2 : Int) ^ n ∧ (2 : Int) ^ n ≤ 4611686018427387904 := by
 have h1 : (2 : Nat) ^ n ≤ 2 ^ 62 := Nat.pow_le_pow_right (by decide) hn
 have h2 : 1 ≤ (2 : Nat) ^ n := Nat.one_le_two_pow
 have h3 : (2 : Int) ^ n = ((2 ^ n : Nat) : Int) := by simp
 rw [h3]
 have h4 : (2 : Nat) ^ 62 = 4611686018427387904 := by decide
 omega
theorem fix_Half_some {a : Int} {n : Nat} (hn : n ≤ 62) (ha1 : -4611686018427387904 ≤ a) (ha2 : a ≤ 4611686018427387904) : fix_Half.f a (n : Int) = some (rnd a (2 ^ n)) := by
 obtain ⟨hp1, hp2⟩ := pow2_bd hn
 have e : (mn (mx (n : Int) 0) 62) = (n : Int) := by unfold mn mx; omega
 have heven : n = 0 ∧ (2 : Int) ^ n = 1 ∨ 0 < n ∧ (2 : Int) ^ n % 2 = 0 := by
  cases n with
  | zero => exact .inl ⟨rfl, rfl⟩
  | succ m => exact .inr ⟨by omega, by rw [Int.pow_succ]; omega⟩
 unfold fix_Half.f
 rw [e, Int.toNat_natCast]
 generalize (2 : Int) ^ n = b at *
 obtain ⟨h1, h2, h3⟩ := divmod (a := a) (b := b) (by omega)
 have h4 := div_bd (b := b) (by omega) 4611686018427387904 ha1 ha2
 have h6 : (a / b) * b = b * (a / b) := Int.mul_comm _ _
 rw [h6, w64 (x := b * (a / b)) (by omega) (by omega), show a - b * (a / b) = a % b by omega, w64 (x := a % b) (by omega) (by omega), w64 (x := b) (by omega) (by omega), w64 (x := a / b + 1) (by omega) (by omega), bits_and1]
 unfold rnd
 by_cases c1 : a % b > b / 2
 ·rw [if_pos c1, if_pos (.inl (by omega))]
 ·rw [if_neg c1]
  by_cases c2 : a % b = b / 2
  ·rw [if_pos c2]
   rcases heven with ⟨h0, h0'⟩ | ⟨h0, h0'⟩
   ·rw [if_neg (by omega), if_neg (by omega)]
   ·rw [if_pos (by omega)]
    by_cases c3 : (a / b) % 2 = 1
    ·rw [if_pos c3, if_pos (.inr (by omega))]
    ·rw [if_neg c3, if_neg (by omega)]
  ·rw [if_neg c2, if_neg (by omega)]
theorem fix_Half_16 {a : Int} (ha1 : -4611686018427387904 ≤ a) (ha2 : a ≤ 4611686018427387904) : fix_Half.f a 16 = some (rnd a 65536) := fix_Half_some (n := 16) (by omega) ha1 ha2
def mulR (a b : Int) : Int := wideR (rnd (a * b) 65536)
theorem mul_bd {a b A B : Int} (h1 : -A ≤ a) (h2 : a ≤ A) (h3 : -B ≤ b) (h4 : b ≤ B) : -(A * B) ≤ a * b ∧ a * b ≤ A * B := by
 have hA : 0 ≤ A := by omega
 have hB : 0 ≤ B := by omega
 have e : (a * b).natAbs ≤ A.natAbs * B.natAbs := by rw [Int.natAbs_mul]; exact Nat.mul_le_mul (by omega) (by omega)
 have e2 : (A * B).natAbs = A.natAbs * B.natAbs := Int.natAbs_mul _ _
 have e3 : 0 ≤ A * B := Int.mul_nonneg hA hB
 rw [← e2] at e
 generalize a * b = p at *
 generalize A * B = q at *
 omega
theorem mul32_bd {a b : Int} (h1 : -2147483648 ≤ a) (h2 : a ≤ 2147483648) (h3 : -2147483648 ≤ b) (h4 : b ≤ 2147483648) : -4611686018427387904 ≤ a * b ∧ a * b ≤ 4611686018427387904 := mul_bd (A := 2147483648) (B := 2147483648) h1 h2 h3 h4
def I32 (x : Int) : Prop := -2147483648 ≤ x ∧ x ≤ 2147483647
def A32 (l : List Int) : Prop := ∀ x ∈ l, I32 x
theorem rd_at {l : List Int} {p : Nat} (h : p < l.length) : rd l (p : Int) = l[p] := by simp [rd, List.getD_eq_getElem?_getD, List.getElem?_eq_getElem h]
theorem rd_mem {l : List Int} {p : Nat} (h : p < l.length) : rd l (p : Int) ∈ l := by rw [rd_at h]; exact List.getElem_mem h
theorem drop_rd {l : List Int} {p : Nat} (h : p < l.length) : l.drop p = rd l (p : Int) :: l.drop (p + 1) := by rw [rd_at h]; exact List.drop_eq_getElem_cons h
theorem take_rd {l : List Int} {p : Nat} (h : p < l.length) : l.take (p + 1) = l.take p ++ [rd l (p : Int)] := by rw [rd_at h, List.take_succ_eq_append_getElem h]
theorem wnext {p n : Nat} (h : p < n) (hn : n ≤ 4611686018427387904) : wrap64 ((p : Int) + 1) = ((p + 1 : Nat) : Int) := by rw [w64 (by omega) (by omega)]; omega
theorem A32_of_wf {l : List Int} (h : ∀ x ∈ l, (Lit.int .i32 x).wf = true) : A32 l := fun x hx => by
 have := h x hx
 simp [Lit.wf, IntKind.min, IntKind.max, IntKind.signed, IntKind.bits] at this
 exact ⟨by omega, by omega⟩
end Go.Proofs.Yteflolamihhmdaa.Pure

namespace Go.Proofs.Yteflolamihhmdaa.Q
open Go.RowKit Go.Proofs.YteflolamihhmdaaW.PrintWords Go.Proofs.YteflolamihhmdaaW.PrintLast Go.Proofs.YteflolamihhmdaaW.PrintMore
attribute [local go_sem] max2_int min2_int max_two min_two max_three min_three max_four min_four
def pack_Bits.f (a0 : Int) : Option (Bool) := if a0 = 2 then (some true) else (if a0 = 4 then (some true) else (some (a0 == 8)))
theorem pack_Bits.calls (a0 : Int) (r : Bool) (w : World) (h : pack_Bits.f a0 = some r) :
  Calls Try.prog 74 #[.int .i64 a0] w fun e w' => e = .returned (.bool r) ∧ Drawn0 w w' := by
 have H := h
 unfold pack_Bits.f at H
 clear h
 by_cases c2 : a0 = 2
 ·rw [if_pos c2] at H
  have c2b0 : (a0 == 2) = true := beq_iff_eq.mpr c2
  have c2b1 : (a0 != 2) = false := bne_eq_false_iff_eq.mpr c2
  clear c2
  obtain rfl := Option.some.inj H
  go_enter Try.func74, Try.ntmps74
  go_wp2
  go_ret
  exact ⟨rs_, d0_⟩
 ·rw [if_neg c2] at H
  have c2b0 : (a0 == 2) = false := beq_eq_false_iff_ne.mpr c2
  have c2b1 : (a0 != 2) = true := bne_iff_ne.mpr c2
  by_cases c3 : a0 = 4
  ·rw [if_pos c3] at H
   have c3b0 : (a0 == 4) = true := beq_iff_eq.mpr c3
   have c3b1 : (a0 != 4) = false := bne_eq_false_iff_eq.mpr c3
   clear c3
   obtain rfl := Option.some.inj H
   go_enter Try.func74, Try.ntmps74
   go_wp2
   go_ret
   exact ⟨rs_, d0_⟩
  ·rw [if_neg c3] at H
   have c3b0 : (a0 == 4) = false := beq_eq_false_iff_ne.mpr c3
   have c3b1 : (a0 != 4) = true := bne_iff_ne.mpr c3
   obtain rfl := Option.some.inj H
   go_enter Try.func74, Try.ntmps74
   go_wp2
   go_ret
   exact ⟨rs_, d0_⟩
def group_many.f (a0 : Int) (a1 : Int) : Option (Int) := (pack_Bits.f a1).bind fun t353 => (if t353 = true then (if a0 = 0 then (some 14) else (if a0 > 256 then (some 12) else (some 0))) else (some 20))
theorem group_many.calls (a0 : Int) (a1 : Int) (r : Int) (w : World) (h : group_many.f a0 a1 = some r) :
  Calls Try.prog 76 #[.int .i64 a0, .int .i64 a1] w fun e w' => e = .returned (.int .i64 r) ∧ Drawn0 w w' := by
 have H := h
 unfold group_many.f at H
 clear h
 replace H := ob_ H
 obtain ⟨t353, A3, H⟩ := H
 try dsimp only at H
 by_cases c4 : t353 = true
 ·subst c4
  replace H : (if a0 = 0 then (some 14) else (if a0 > 256 then (some 12) else (some 0))) = some r := by rw [if_pos rfl] at H; exact H
  by_cases c5 : a0 = 0
  ·rw [if_pos c5] at H
   have c5b0 : (a0 == 0) = true := beq_iff_eq.mpr c5
   have c5b1 : (a0 != 0) = false := bne_eq_false_iff_eq.mpr c5
   clear c5
   obtain rfl := Option.some.inj H
   go_enter Try.func76, Try.ntmps76
   go_wp2_with (first | (refine goesL_ (some 7) rfl rfl Try.func74 (by kernel_rfl) rfl #[.int .i64 a1] rfl ar_ ?_; (with_reducible refine (pack_Bits.calls a1 true _ A3.out).mono ?_); rintro e w' ⟨rfl, ⟨nd, rfl⟩⟩; refine ⟨_, rfl, ?_⟩))
   go_ret
   exact ⟨rs_, d0_⟩
  ·rw [if_neg c5] at H
   have c5b0 : (a0 == 0) = false := beq_eq_false_iff_ne.mpr c5
   have c5b1 : (a0 != 0) = true := bne_iff_ne.mpr c5
   by_cases c6 : a0 > 256
   ·rw [if_pos c6] at H
    have c6b0 : decide (256 < a0) = true := decide_eq_true c6
    clear c6
    obtain rfl := Option.some.inj H
    go_enter Try.func76, Try.ntmps76
    go_wp2_with (first | (refine goesL_ (some 7) rfl rfl Try.func74 (by kernel_rfl) rfl #[.int .i64 a1] rfl ar_ ?_; (with_reducible refine (pack_Bits.calls a1 true _ A3.out).mono ?_); rintro e w' ⟨rfl, ⟨nd, rfl⟩⟩; refine ⟨_, rfl, ?_⟩))
    go_ret
    exact ⟨rs_, d0_⟩
   ·rw [if_neg c6] at H
    have c6b0 : decide (256 < a0) = false := decide_eq_false c6
    clear c6
    obtain rfl := Option.some.inj H
    go_enter Try.func76, Try.ntmps76
    go_wp2_with (first | (refine goesL_ (some 7) rfl rfl Try.func74 (by kernel_rfl) rfl #[.int .i64 a1] rfl ar_ ?_; (with_reducible refine (pack_Bits.calls a1 true _ A3.out).mono ?_); rintro e w' ⟨rfl, ⟨nd, rfl⟩⟩; refine ⟨_, rfl, ?_⟩))
    go_ret
    exact ⟨rs_, d0_⟩
 ·replace c4 := Bool.eq_false_iff.mpr c4
  subst c4
  replace H : (some 20) = some r := by rw [if_neg (show ¬ (false = true) by decide)] at H; exact H
  obtain rfl := Option.some.inj H
  go_enter Try.func76, Try.ntmps76
  go_wp2_with (first | (refine goesL_ (some 7) rfl rfl Try.func74 (by kernel_rfl) rfl #[.int .i64 a1] rfl ar_ ?_; (with_reducible refine (pack_Bits.calls a1 false _ A3.out).mono ?_); rintro e w' ⟨rfl, ⟨nd, rfl⟩⟩; refine ⟨_, rfl, ?_⟩))
  go_ret
  exact ⟨rs_, d0_⟩
def slices_Min_int32_int32.l0 : Nat → List Int → Int → Int → Option (Int)
 | 0, _, _, _ => none
 | k + 1, x0, x3, x4 => if x4 < (x0.length : Int) then (if 0 ≤ x4 then (slices_Min_int32_int32.l0 k x0 (mn x3 (rd x0 x4)) (wrap64 (x4 + 1))) else (none)) else (some x3)
def slices_Min_int32_int32.f (k : Nat) (l0 : List Int) : Option (Int) := if (l0.length : Int) < 1 then (none) else (if 0 < (l0.length : Int) then (slices_Min_int32_int32.l0 k l0 (rd l0 0) 1) else (none))
theorem slices_Min_int32_int32.calls (k : Nat) (A0 : Option Addr) (c0 : Nat) (l0 : List Int) (r : Int) (w : World) (hr0 : Kd.C (Kd.int .i32) w A0 l0.length l0) (hc0 : l0.length ≤ c0) (h : slices_Min_int32_int32.f k l0 = some r) :
  Calls Try.prog 77 #[.slice A0 l0.length c0] w fun e w' => e = .returned (.int .i32 r) ∧ Below w.heap.size w w' := by
 have HR0 := A_ hr0
 have HC0 := A_ hc0
 clear hr0 hc0
 have HB := A_ (Below.refl w.heap.size w)
 have H := h
 unfold slices_Min_int32_int32.f at H
 clear h
 by_cases c2 : (l0.length : Int) < 1
 ·rw [if_pos c2] at H
  exact absurd H (by simp)
 ·rw [if_neg c2] at H
  have c2b0 : decide ((l0.length : Int) < 1) = false := decide_eq_false c2
  have c2b1 : decide (l0.length < 1) = false := decide_eq_false (by omega)
  clear c2
  by_cases c3 : 0 < (l0.length : Int)
  ·rw [if_pos c3] at H
   have c3b0 : decide (0 < (l0.length : Int)) = true := decide_eq_true c3
   have c3b1 : decide (0 < l0.length) = true := decide_eq_true (by omega)
   clear c3
   have H' := A_ H
   clear H
   have p354 : 0 ≤ (0 : Int) := (by omega)
   have q354 : 0 < (l0.length : Int) := od_
   obtain ⟨ad354, e354, hx354_0⟩ := Kd.at_int HR0.out 0 p354 q354
   cases e354
   have qi354 : (0 < l0.length) = True := eq_true (by omega)
   (try rw [show ((0 : Int)).toNat = 0 from rfl] at hx354_0)
   (try rw [Addr.add_zero'] at hx354_0)
   replace p354 := eq_true p354
   replace q354 := eq_true q354
   go_enter Try.func77, Try.ntmps77
   go_wp2
   go_loopg [3, 4] k (fun kq v3 v4 w' => ∃ (x3_1 : Int) (x4_1 : Int), v3 = .int .i32 x3_1 ∧ v4 = .int .i64 x4_1 ∧ Aside0 (slices_Min_int32_int32.l0 kq l0 x3_1 x4_1 = some r) ∧ Aside0 (kq ≤ k) ∧ Aside0 (Below w.heap.size w w'))
   case atStart => exact ⟨(rd l0 0), (1), rs_, rs_, H', ⟨Nat.le_refl _⟩, ⟨bl_⟩⟩
   case round =>
    clear H'
    obtain ⟨x3_1, x4_1, rfl, rfl, HA, HK1, HB⟩ := hrel
    cases gk with
    | zero => exact absurd HA.out (by simp [slices_Min_int32_int32.l0])
    | succ k1 =>
     have H := HA.out
     clear HA
     simp only [slices_Min_int32_int32.l0] at H
     by_cases c4 : x4_1 < (l0.length : Int)
     ·rw [if_pos c4] at H
      have c4b0 : decide (x4_1 < (l0.length : Int)) = true := decide_eq_true c4
      clear c4
      by_cases c5 : 0 ≤ x4_1
      ·rw [if_pos c5] at H
       have c5b0 : decide (0 ≤ x4_1) = true := decide_eq_true c5
       clear c5
       obtain ⟨ji6, hji6⟩ : ∃ j_ : Int, (mn x3_1 (rd l0 x4_1)) = j_ := ⟨_, rfl⟩
       replace H : (slices_Min_int32_int32.l0 k1 l0 ji6 (wrap64 (x4_1 + 1))) = some r := by first | (rw [hji6] at H; exact H) | (simp only [hji6] at H ⊢; exact H)
       have hji6_ : (if (rd l0 x4_1) < x3_1 then (rd l0 x4_1) else x3_1) = ji6 := hji6
       have H' := A_ H
       clear H
       have p355 : 0 ≤ (x4_1 : Int) := od_
       have q355 : x4_1 < (l0.length : Int) := od_
       obtain ⟨ad355, e355, hx355_0⟩ := Kd.at_int HR0.out x4_1 p355 q355
       obtain rfl : ad354 = ad355 := (by injection e355)
       replace hx355_0 := hc_ HB.out hx355_0
       replace p355 := eq_true p355
       replace q355 := eq_true q355
       go_wp2
       go_roundg k1
       case measure => have := HK1.out; omega
       case rel => exact ⟨(ji6), (wrap64 (x4_1 + 1)), (by first | rfl | (simp; done) | (simp only [← hji6] <;> (first | rfl | simp)) | (simp [*]; done)), rs_, H', ⟨by have := HK1.out; omega⟩, ⟨bl_⟩⟩
      ·rw [if_neg c5] at H
       exact absurd H (by simp)
     ·rw [if_neg c4] at H
      have c4b0 : decide (x4_1 < (l0.length : Int)) = false := decide_eq_false c4
      clear c4
      obtain rfl := Option.some.inj H
      go_wp2
      go_ret
      exact ⟨ew_, bl_⟩
  ·rw [if_neg c3] at H
   exact absurd H (by simp)
def slices_Max_int32_int32.l0 : Nat → List Int → Int → Int → Option (Int)
 | 0, _, _, _ => none
 | k + 1, x0, x3, x4 => if x4 < (x0.length : Int) then (if 0 ≤ x4 then (slices_Max_int32_int32.l0 k x0 (mx x3 (rd x0 x4)) (wrap64 (x4 + 1))) else (none)) else (some x3)
def slices_Max_int32_int32.f (k : Nat) (l0 : List Int) : Option (Int) := if (l0.length : Int) < 1 then (none) else (if 0 < (l0.length : Int) then (slices_Max_int32_int32.l0 k l0 (rd l0 0) 1) else (none))
theorem slices_Max_int32_int32.mono_l : ∀ k, (∀ y0 y1 y2, LeO (slices_Max_int32_int32.l0 k y0 y1 y2) (slices_Max_int32_int32.l0 (k + 1) y0 y1 y2))
 | 0 => fun _ _ _ r h => by simp [slices_Max_int32_int32.l0] at h
 | k + 1 => by
  have ih0 := slices_Max_int32_int32.mono_l k
  ·intro y0 y1 y2
   unfold slices_Max_int32_int32.l0
   repeat' with_reducible first | apply ih0 | apply LeO.refl | apply LeO.none | refine LeO.ite ?_ ?_ | refine LeO.bind ?_ (fun _ => ?_)
theorem slices_Max_int32_int32.mono : ∀ a0 k, LeO (slices_Max_int32_int32.f k a0) (slices_Max_int32_int32.f (k + 1) a0) := by
 intro a0 k
 have ih0 := slices_Max_int32_int32.mono_l k
 unfold slices_Max_int32_int32.f
 repeat' with_reducible first | apply ih0 | apply LeO.refl | apply LeO.none | refine LeO.ite ?_ ?_ | refine LeO.bind ?_ (fun _ => ?_)
theorem slices_Max_int32_int32.calls (k : Nat) (A0 : Option Addr) (c0 : Nat) (l0 : List Int) (r : Int) (w : World) (hr0 : Kd.C (Kd.int .i32) w A0 l0.length l0) (hc0 : l0.length ≤ c0) (h : slices_Max_int32_int32.f k l0 = some r) :
  Calls Try.prog 78 #[.slice A0 l0.length c0] w fun e w' => e = .returned (.int .i32 r) ∧ Below w.heap.size w w' := by
 have HR0 := A_ hr0
 have HC0 := A_ hc0
 clear hr0 hc0
 have HB := A_ (Below.refl w.heap.size w)
 have H := h
 unfold slices_Max_int32_int32.f at H
 clear h
 by_cases c2 : (l0.length : Int) < 1
 ·rw [if_pos c2] at H
  exact absurd H (by simp)
 ·rw [if_neg c2] at H
  have c2b0 : decide ((l0.length : Int) < 1) = false := decide_eq_false c2
  have c2b1 : decide (l0.length < 1) = false := decide_eq_false (by omega)
  clear c2
  by_cases c3 : 0 < (l0.length : Int)
  ·rw [if_pos c3] at H
   have c3b0 : decide (0 < (l0.length : Int)) = true := decide_eq_true c3
   have c3b1 : decide (0 < l0.length) = true := decide_eq_true (by omega)
   clear c3
   have H' := A_ H
   clear H
   have p134 : 0 ≤ (0 : Int) := (by omega)
   have q134 : 0 < (l0.length : Int) := od_
   obtain ⟨ad134, e134, hx134_0⟩ := Kd.at_int HR0.out 0 p134 q134
   cases e134
   have qi134 : (0 < l0.length) = True := eq_true (by omega)
   (try rw [show ((0 : Int)).toNat = 0 from rfl] at hx134_0)
   (try rw [Addr.add_zero'] at hx134_0)
   replace p134 := eq_true p134
   replace q134 := eq_true q134
   go_enter Try.func78, Try.ntmps78
   go_wp2
   go_loopg [3, 4] k (fun kq v3 v4 w' => ∃ (x3_1 : Int) (x4_1 : Int), v3 = .int .i32 x3_1 ∧ v4 = .int .i64 x4_1 ∧ Aside0 (slices_Max_int32_int32.l0 kq l0 x3_1 x4_1 = some r) ∧ Aside0 (kq ≤ k) ∧ Aside0 (Below w.heap.size w w'))
   case atStart => exact ⟨(rd l0 0), (1), rs_, rs_, H', ⟨Nat.le_refl _⟩, ⟨bl_⟩⟩
   case round =>
    clear H'
    obtain ⟨x3_1, x4_1, rfl, rfl, HA, HK1, HB⟩ := hrel
    cases gk with
    | zero => exact absurd HA.out (by simp [slices_Max_int32_int32.l0])
    | succ k1 =>
     have H := HA.out
     clear HA
     simp only [slices_Max_int32_int32.l0] at H
     by_cases c4 : x4_1 < (l0.length : Int)
     ·rw [if_pos c4] at H
      have c4b0 : decide (x4_1 < (l0.length : Int)) = true := decide_eq_true c4
      clear c4
      by_cases c5 : 0 ≤ x4_1
      ·rw [if_pos c5] at H
       have c5b0 : decide (0 ≤ x4_1) = true := decide_eq_true c5
       clear c5
       obtain ⟨ji6, hji6⟩ : ∃ j_ : Int, (mx x3_1 (rd l0 x4_1)) = j_ := ⟨_, rfl⟩
       replace H : (slices_Max_int32_int32.l0 k1 l0 ji6 (wrap64 (x4_1 + 1))) = some r := by first | (rw [hji6] at H; exact H) | (simp only [hji6] at H ⊢; exact H)
       have hji6_ : (if x3_1 < (rd l0 x4_1) then (rd l0 x4_1) else x3_1) = ji6 := hji6
       have H' := A_ H
       clear H
       have p135 : 0 ≤ (x4_1 : Int) := od_
       have q135 : x4_1 < (l0.length : Int) := od_
       obtain ⟨ad135, e135, hx135_0⟩ := Kd.at_int HR0.out x4_1 p135 q135
       obtain rfl : ad134 = ad135 := (by injection e135)
       replace hx135_0 := hc_ HB.out hx135_0
       replace p135 := eq_true p135
       replace q135 := eq_true q135
       go_wp2
       go_roundg k1
       case measure => have := HK1.out; omega
       case rel => exact ⟨(ji6), (wrap64 (x4_1 + 1)), (by first | rfl | (simp; done) | (simp only [← hji6] <;> (first | rfl | simp)) | (simp [*]; done)), rs_, H', ⟨by have := HK1.out; omega⟩, ⟨bl_⟩⟩
      ·rw [if_neg c5] at H
       exact absurd H (by simp)
     ·rw [if_neg c4] at H
      have c4b0 : decide (x4_1 < (l0.length : Int)) = false := decide_eq_false c4
      clear c4
      obtain rfl := Option.some.inj H
      go_wp2
      go_ret
      exact ⟨ew_, bl_⟩
  ·rw [if_neg c3] at H
   exact absurd H (by simp)
def group_Of.l0 : Nat → Int → Int → List Int → Int → Int → Int → Int → List Int → Option (Int × Int × List Int × Int)
 | 0, _, _, _, _, _, _, _, _ => none
 | k + 1, x7, x10, x47, x48, x49, x364000, x364001, x364002 => if x49 < x48 then (if 0 ≤ x49 then (if x49 < (x47.length : Int) then ((fix_Ratio.f (wrap64 ((wrap64 (rd x47 x49)) - x7)) x10).bind fun t365 => (if x49 < (x364002.length : Int) then (group_Of.l0 k x7 x10 x47 x48 (wrap64 (x49 + 1)) x364000 x364001 (x364002.set (x49 : Int).toNat t365)) else (none))) else (none)) else (none)) else (some (x364000, x364001, x364002, 0))
def group_Of.f (k : Nat) (l0 : List Int) (a1 : Int) : Option (Int × Int × List Int × Int) := (group_many.f (l0.length : Int) a1).bind fun t357 => (if t357 = 0 then ((slices_Min_int32_int32.f k l0).bind fun t358 => ((slices_Max_int32_int32.f k l0).bind fun t359 => (if 0 ≤ a1 then (if (wrap64 ((shl .i64 1 a1) - 1)) = 0 then (none) else (if 0 ≤ (l0.length : Int) then (if ((l0.length : Int) : Int).toNat ≤ 35184372088832 then (group_Of.l0 k (wrap64 (t358)) (wrap64 (Int.tdiv (wrap64 ((wrap64 ((wrap64 ((wrap64 (t359)) - (wrap64 (t358)))) + (wrap64 ((shl .i64 1 a1) - 1)))) - 1)) (wrap64 ((shl .i64 1 a1) - 1)))) l0 (l0.length : Int) 0 (wrap32 (wrap64 (t358))) ((wrap64 (Int.tdiv (wrap64 ((wrap64 ((wrap64 ((wrap64 (t359)) - (wrap64 (t358)))) + (wrap64 ((shl .i64 1 a1) - 1)))) - 1)) (wrap64 ((shl .i64 1 a1) - 1)))) % 4294967296) (List.replicate ((l0.length : Int) : Int).toNat 0)) else (none)) else (none))) else (none)))) else (some (0, 0, ([] : List Int), t357)))
def group_Of.T11 : Bool × List (List Nat × List Nat) := (true, [([], []), ([0], [0]), ([], []), ([], []), ([3], [3]), ([], []), ([4, 5], [4, 5]), ([], []), ([6, 7], [6, 7]), ([1, 2, 0, 1, 2, 3, 4, 5, 6, 7, 8], [1, 2]), ([9, 8, 8, 0, 1, 2, 3, 4, 5, 6, 7, 8], [8, 9])])
def group_Of.B11 : List Nat := [0, 1, 0, 0, 8, 0, 56, 0, 248, 511, 1023]
theorem group_Of.tab11 : rtab .any (opsOf Try.f58 11) = group_Of.T11 := by kernel_rfl
theorem group_Of.bits11 : waitsOk group_Of.T11.2 group_Of.B11 = true := by kernel_rfl
theorem group_Of.calls (k : Nat) (A0 : Option Addr) (c0 : Nat) (l0 : List Int) (a1 : Int) (r1 : Int) (r2 : Int) (r3 : List Int) (r4 : Int) (w : World) (hr0 : Kd.C (Kd.int .i32) w A0 l0.length l0) (hc0 : l0.length ≤ c0) (h : group_Of.f k l0 a1 = some (r1, r2, r3, r4)) :
  Calls Try.prog 58 #[.slice A0 l0.length c0, .int .i64 a1] w fun e w' => ∃ v2_ : Value, e = .returned (.tuple #[.agg #[.int .i32 r1, .int .u32 r2, v2_], .int .i64 r4]) ∧ Kd.R (Kd.int .i64) 3 w' w.heap.size (fun _ => True) v2_ r3 ∧ Below w.heap.size w w' := by
 have hu100 := Try.underlying100
 have HR0 := A_ hr0
 have HC0 := A_ hc0
 clear hr0 hc0
 have HB := A_ (Below.refl w.heap.size w)
 have H : ((group_many.f (l0.length : Int) a1).bind fun t357 => (if t357 = 0 then ((slices_Min_int32_int32.f k l0).bind fun t358 => ((slices_Max_int32_int32.f k l0).bind fun t359 => (if 0 ≤ a1 then (if (wrap64 ((shl .i64 1 a1) - 1)) = 0 then (none) else (if 0 ≤ (l0.length : Int) then (if ((l0.length : Int) : Int).toNat ≤ 35184372088832 then (group_Of.l0 k (wrap64 (t358)) (wrap64 (Int.tdiv (wrap64 ((wrap64 ((wrap64 ((wrap64 (t359)) - (wrap64 (t358)))) + (wrap64 ((shl .i64 1 a1) - 1)))) - 1)) (wrap64 ((shl .i64 1 a1) - 1)))) l0 (l0.length : Int) 0 (wrap32 (wrap64 (t358))) ((wrap64 (Int.tdiv (wrap64 ((wrap64 ((wrap64 ((wrap64 (t359)) - (wrap64 (t358)))) + (wrap64 ((shl .i64 1 a1) - 1)))) - 1)) (wrap64 ((shl .i64 1 a1) - 1)))) % 4294967296) (List.replicate ((l0.length : Int) : Int).toNat 0)) else (none)) else (none))) else (none)))) else (some (0, 0, ([] : List Int), t357)))) = some (r1, r2, r3, r4) := h
 clear h
 replace H := ob_ H
 obtain ⟨t357, A3, H⟩ := H
 try dsimp only at H
 by_cases c4 : t357 = 0
 ·rw [if_pos c4] at H
  have c4b0 : (t357 == 0) = true := beq_iff_eq.mpr c4
  have c4b1 : (t357 != 0) = false := bne_eq_false_iff_eq.mpr c4
  clear c4
  replace H := ob_ H
  obtain ⟨t358, A5, H⟩ := H
  try dsimp only at H
  replace H := ob_ H
  obtain ⟨t359, A6, H⟩ := H
  try dsimp only at H
  by_cases c7 : 0 ≤ a1
  ·rw [if_pos c7] at H
   have c7b0 := eq_true c7
   have c7b1 : decide (0 ≤ a1) = true := decide_eq_true c7
   clear c7
   obtain ⟨ji8, hji8⟩ : ∃ j_ : Int, (shl .i64 1 a1) = j_ := ⟨_, rfl⟩
   replace H : (if (wrap64 ((ji8) - 1)) = 0 then (none) else (if 0 ≤ (l0.length : Int) then (if ((l0.length : Int) : Int).toNat ≤ 35184372088832 then (group_Of.l0 k (wrap64 (t358)) (wrap64 (Int.tdiv (wrap64 ((wrap64 ((wrap64 ((wrap64 (t359)) - (wrap64 (t358)))) + (wrap64 ((ji8) - 1)))) - 1)) (wrap64 ((ji8) - 1)))) l0 (l0.length : Int) 0 (wrap32 (wrap64 (t358))) ((wrap64 (Int.tdiv (wrap64 ((wrap64 ((wrap64 ((wrap64 (t359)) - (wrap64 (t358)))) + (wrap64 ((ji8) - 1)))) - 1)) (wrap64 ((ji8) - 1)))) % 4294967296) (List.replicate ((l0.length : Int) : Int).toNat 0)) else (none)) else (none))) = some (r1, r2, r3, r4) := by first | (rw [hji8] at H; exact H) | (simp only [hji8] at H ⊢; exact H)
   (try rw [hji8] at A3)
   (try rw [hji8] at A5)
   (try rw [hji8] at A6)
   have hji8_ : (IntKind.i64.wrap (1 * 2 ^ min a1.toNat 64)) = ji8 := hji8
   have hji8z : a1 ≤ 64 → (IntKind.i64.wrap (1 * 2 ^ a1.toNat)) = ji8 := shl_small hji8
   have hji8u : (IntKind.i64.wrap (2 ^ min a1.toNat 64)) = ji8 := by have h_ := hji8_; rw [Int.one_mul] at h_; exact h_
   have hji8v : a1 ≤ 64 → (IntKind.i64.wrap (2 ^ a1.toNat)) = ji8 := fun hle_ => by have h_ := hji8z hle_; rw [Int.one_mul] at h_; exact h_
   have hji8y : (wrap64 (1 * 2 ^ min a1.toNat 64)) = ji8 := (i64_w _).symm.trans hji8_
   have hji8x : a1 ≤ 64 → (wrap64 (1 * 2 ^ a1.toNat)) = ji8 := fun h_ => (i64_w _).symm.trans (hji8z h_)
   by_cases c9 : (wrap64 ((ji8) - 1)) = 0
   ·rw [if_pos c9] at H
    exact absurd H (by simp)
   ·rw [if_neg c9] at H
    have c9b0 : ((wrap64 ((ji8) - 1)) == 0) = false := beq_eq_false_iff_ne.mpr c9
    have c9b1 : ((wrap64 ((ji8) - 1)) != 0) = true := bne_iff_ne.mpr c9
    by_cases c10 : 0 ≤ (l0.length : Int)
    ·rw [if_pos c10] at H
     have c10b0 := eq_true c10
     have c10b1 : decide (0 ≤ (l0.length : Int)) = true := decide_eq_true c10
     clear c10
     by_cases c11 : ((l0.length : Int) : Int).toNat ≤ 35184372088832
     ·rw [if_pos c11] at H
      have c11b0 := eq_true c11
      have c11b1 : decide (((l0.length : Int) : Int).toNat ≤ 35184372088832) = true := decide_eq_true c11
      clear c11
      obtain ⟨y360, hy360⟩ : ∃ y_ : List Int, y_ = (List.replicate ((l0.length : Int) : Int).toNat 0) := ⟨_, rfl⟩
      replace H : (group_Of.l0 k (wrap64 (t358)) (wrap64 (Int.tdiv (wrap64 ((wrap64 ((wrap64 ((wrap64 (t359)) - (wrap64 (t358)))) + (wrap64 ((ji8) - 1)))) - 1)) (wrap64 ((ji8) - 1)))) l0 (l0.length : Int) 0 (wrap32 (wrap64 (t358))) ((wrap64 (Int.tdiv (wrap64 ((wrap64 ((wrap64 ((wrap64 (t359)) - (wrap64 (t358)))) + (wrap64 ((ji8) - 1)))) - 1)) (wrap64 ((ji8) - 1)))) % 4294967296) y360) = some (r1, r2, r3, r4) := hy_ hy360 H
      have Ny360 := A_ hy360
      clear hy360
      have H' := A_ H
      clear H
      go_enter Try.func58, Try.ntmps58
      go_wp2_with (first | (refine box_event rfl (N := 4) rfl (cs := #[.int .i32 0, .int .u32 0, .slice none 0 0]) (t := 100) ?hr ?_; (case hr => first | (go_simp; done) | (go_simp; rfl)); intro gb356 hg w12 hbox hb; have BK356 := A_ hbox; have GW356 := A_ (gw_ w hg); have GE356 := A_ (gw_ w hg); replace HB := A_ (below_step bl_ hb); clear hb hbox hg) | (refine goesL_ (some 17) rfl rfl Try.func76 (by kernel_rfl) rfl #[.int .i64 (l0.length : Int), .int .i64 a1] rfl ar_ ?_; (with_reducible refine (group_many.calls (l0.length : Int) a1 t357 _ A3.out).mono ?_); rintro e w' ⟨rfl, ⟨nd, rfl⟩⟩; refine ⟨_, rfl, ?_⟩; (try (rw [drewN_self w12]; generalize hq_ : World.drewN w12 _ = w12; replace BK356 : Aside0 (w12.heap[gb356]? = some (.cells #[.int .i32 0, .int .u32 0, .slice none 0 0] 100 (0, 0))) := ⟨by rw [← hq_]; exact (mv_ BK356.out)⟩; replace HB : Aside0 (Below w.heap.size w w12) := ⟨by rw [← hq_]; exact bl_⟩; clear hq_))) | (refine goesL_ (some 23) rfl rfl Try.func77 (by kernel_rfl) rfl #[.slice A0 l0.length c0] rfl ar_ ?_; (with_reducible refine (slices_Min_int32_int32.calls k _ _ l0 t358 _ ?side1 ?side2 A5.out).mono ?_); (case side1 => exact cb_ (Kd.C_below HR0.out HB.out)); (case side2 => exact HC0.out); rintro e w13 ⟨rfl, hb⟩; refine ⟨_, rfl, ?_⟩; replace BK356 := A_ (bb_ BK356.out hb); replace HB := A_ (below_step bl_ hb)) | (refine goesL_ (some 26) rfl rfl Try.func78 (by kernel_rfl) rfl #[.slice A0 l0.length c0] rfl ar_ ?_; (with_reducible refine (slices_Max_int32_int32.calls k _ _ l0 t359 _ ?side1 ?side2 A6.out).mono ?_); (case side1 => exact cb_ (Kd.C_below HR0.out HB.out)); (case side2 => exact HC0.out); rintro e w14 ⟨rfl, hb⟩; refine ⟨_, rfl, ?_⟩; replace BK356 := A_ (bb_ BK356.out hb); replace HB := A_ (below_step bl_ hb)) | ((with_reducible refine gate_dst (N := 45) rfl ?_); refine Kd.R_make (Kd.int .i64) _ 3 rfl (N := 45) rfl 66 _ _ rfl (l0.length : Int) rfl rfl Try.underlying66 (.int .i64 0) 8 info3 rfl (by decide) (by omega) 0 (ok := fun _ => True) (okp := fun _ => True) rfl (fun _ hk => hk) trivial (od_) (Nat.le_trans (Nat.mul_le_mul_right _ (od_ : (l0.length : Int).toNat ≤ 35184372088832)) (by omega)) (Below.refl _ _) (Nat.le_refl _) ?_; intro v361 w15 ho16 hb hg_ hnew_; clear hg_ hnew_; (first | rw [← Ny360.out] at ho16 | (simp only [Int.reduceToNat] at ho16; rw [← Ny360.out] at ho16)); have HO362 := A_ (Kd.R_lower ho16 (below_size bl_)); replace BK356 := A_ (bb_ BK356.out hb); replace HB := A_ (below_step bl_ hb); clear hb ho16; obtain ⟨Ao17, co17, eo17⟩ := Kd.R_slice HO362.out; subst eo17) | (refine box_event rfl (N := 11) rfl (cs := #[.int .i32 0, .int .u32 0, .slice none 0 0]) (t := 100) ?hr ?_; (case hr => first | (go_simp; done) | (go_simp; rfl)); intro gb363 hg w18 hbox hb; replace HO362 := A_ (Kd.R_below (mv_ HO362.out) hb); have BK363 := A_ hbox; have GW363 := A_ (gw_ w hg); have GE363 := A_ (gw_ w hg); have NB356_363 := A_ ((by rw [hg]; exact Nat.ne_of_lt (lt_ BK356.out) : gb356 ≠ gb363)); have NB363_356 := A_ ((by rw [hg]; exact Nat.ne_of_gt (lt_ BK356.out) : gb363 ≠ gb356)); replace BK356 := A_ (bb_ BK356.out hb); replace HB := A_ (below_step bl_ hb); clear hb hbox hg; have hnb19 := NB363_356.out; have hnc19 := NB356_363.out; have ⟨_, _, _, _, _, _⟩ := k3_ BK363.out))
      go_loopg [49] k (fun kq v49 w' => ∃ (x49_1 : Int) (x364002_1 : List Int) (u364002 : Value), v49 = .int .i64 x49_1 ∧ Aside0 (group_Of.l0 kq (wrap64 (t358)) (wrap64 (Int.tdiv (wrap64 ((wrap64 ((wrap64 ((wrap64 (t359)) - (wrap64 (t358)))) + (wrap64 ((ji8) - 1)))) - 1)) (wrap64 ((ji8) - 1)))) l0 (l0.length : Int) x49_1 (wrap32 (wrap64 (t358))) ((wrap64 (Int.tdiv (wrap64 ((wrap64 ((wrap64 ((wrap64 (t359)) - (wrap64 (t358)))) + (wrap64 ((ji8) - 1)))) - 1)) (wrap64 ((ji8) - 1)))) % 4294967296) x364002_1 = some (r1, r2, r3, r4)) ∧ Aside0 (kq ≤ k) ∧ Aside0 (Kd.R (Kd.int .i64) 3 w' w.heap.size (fun _ => True) u364002 x364002_1) ∧ Aside0 (w'.heap[gb356]? = some (.cells #[.int .i32 0, .int .u32 0, (.slice none 0 0)] 100 (0, 0))) ∧ Aside0 (w'.heap[gb363]? = some (.cells #[.int .i32 (wrap32 (wrap64 (t358))), .int .u32 ((wrap64 (Int.tdiv (wrap64 ((wrap64 ((wrap64 ((wrap64 (t359)) - (wrap64 (t358)))) + (wrap64 ((ji8) - 1)))) - 1)) (wrap64 ((ji8) - 1)))) % 4294967296), u364002] 100 (0, 0))) ∧ Aside0 (Below w.heap.size w w'))
      case atStart => exact ⟨(0), (y360), (.slice Ao17 y360.length co17), rs_, H', ⟨Nat.le_refl _⟩, ⟨by (with_reducible repeat (first | apply Kd.R_alloc | apply Kd.R_drewN | apply Kd.R_drew)); exact Kd.R_mono (Kd.R_far (Kd.R_far (Kd.R_far (Kd.R_types HO362.out BK363.out (by decide)) (fun _ hk => hk.2) (.int .i32 (wrap32 (wrap64 (t358))))) (fun _ hk => hk.2) (.int .u32 ((wrap64 (Int.tdiv (wrap64 ((wrap64 ((wrap64 ((wrap64 (t359)) - (wrap64 (t358)))) + (wrap64 ((ji8) - 1)))) - 1)) (wrap64 ((ji8) - 1)))) % 4294967296))) (fun _ hk => hk.2) (.slice Ao17 y360.length co17)) (fun _ hk => trivial)⟩, ⟨ft_ BK356.out NB356_363.out⟩, ⟨by (with_reducible repeat (first | apply bn_ | apply bd_ | apply ba_)); refine blk_put (cs := #[.int .i32 (wrap32 (wrap64 (t358))), .int .u32 ((wrap64 (Int.tdiv (wrap64 ((wrap64 ((wrap64 ((wrap64 (t359)) - (wrap64 (t358)))) + (wrap64 ((ji8) - 1)))) - 1)) (wrap64 ((ji8) - 1)))) % 4294967296), .slice none 0 0]) ?_ 2 _ rfl; (with_reducible repeat (first | apply bn_ | apply bd_ | apply ba_)); refine blk_put (cs := #[.int .i32 (wrap32 (wrap64 (t358))), .int .u32 0, .slice none 0 0]) ?_ 1 _ rfl; (with_reducible repeat (first | apply bn_ | apply bd_ | apply ba_)); refine blk_put (cs := #[.int .i32 0, .int .u32 0, .slice none 0 0]) ?_ 0 _ rfl; (with_reducible repeat (first | apply bn_ | apply bd_ | apply ba_)); exact BK363.out⟩, ⟨bl_⟩⟩
      case round =>
       clear H'
       obtain ⟨x49_1, x364002_1, u364002, rfl, HA, HK1, HO_364002, BK356, BK363, HB⟩ := hrel
       cases gk with
       | zero => exact absurd HA.out (by simp [group_Of.l0])
       | succ k1 =>
        have H := HA.out
        clear HA
        simp only [group_Of.l0] at H
        by_cases c21 : x49_1 < (l0.length : Int)
        ·rw [if_pos c21] at H
         have c21b0 : decide (x49_1 < (l0.length : Int)) = true := decide_eq_true c21
         clear c21
         by_cases c22 : 0 ≤ x49_1
         ·rw [if_pos c22] at H
          have c22b0 : decide (0 ≤ x49_1) = true := decide_eq_true c22
          clear c22
          by_cases c23 : x49_1 < (l0.length : Int)
          ·rw [if_pos c23] at H
           have c23b0 : decide (x49_1 < (l0.length : Int)) = true := decide_eq_true c23
           clear c23
           replace H := ob_ H
           obtain ⟨t365, A24, H⟩ := H
           try dsimp only at H
           by_cases c25 : x49_1 < (x364002_1.length : Int)
           ·rw [if_pos c25] at H
            have c25b0 : decide (x49_1 < (x364002_1.length : Int)) = true := decide_eq_true c25
            clear c25
            obtain ⟨y366, hy366⟩ : ∃ y_ : List Int, y_ = (x364002_1.set (x49_1 : Int).toNat t365) := ⟨_, rfl⟩
            replace H : (group_Of.l0 k1 (wrap64 (t358)) (wrap64 (Int.tdiv (wrap64 ((wrap64 ((wrap64 ((wrap64 (t359)) - (wrap64 (t358)))) + (wrap64 ((ji8) - 1)))) - 1)) (wrap64 ((ji8) - 1)))) l0 (l0.length : Int) (wrap64 (x49_1 + 1)) (wrap32 (wrap64 (t358))) ((wrap64 (Int.tdiv (wrap64 ((wrap64 ((wrap64 ((wrap64 (t359)) - (wrap64 (t358)))) + (wrap64 ((ji8) - 1)))) - 1)) (wrap64 ((ji8) - 1)))) % 4294967296) y366) = some (r1, r2, r3, r4) := hy_ hy366 H
            have Ny366 := A_ hy366
            clear hy366
            have H' := A_ H
            clear H
            have p364 : 0 ≤ (x49_1 : Int) := od_
            have q364 : x49_1 < (l0.length : Int) := od_
            obtain ⟨ad364, e364, hx364_0⟩ := Kd.at_int HR0.out x49_1 p364 q364
            cases e364
            replace hx364_0 := hc_ HB.out hx364_0
            replace p364 := eq_true p364
            replace q364 := eq_true q364
            try go_wp2
            replace HO_364002 := A_ (Kd.R_drew HO_364002.out)
            replace BK356 := A_ (blk_drew BK356.out)
            replace BK363 := A_ (blk_drew BK363.out)
            replace HB := A_ (below_drew1 HB.out)
            refine start_ (n := 11) (S := fun w' => w'.cell? ⟨gb363, 0, none⟩ = some (.int .i32 (wrap32 (wrap64 (t358)))) ∧ w'.cell? ⟨gb363, 1, none⟩ = some (.int .u32 ((wrap64 (Int.tdiv (wrap64 ((wrap64 ((wrap64 ((wrap64 (t359)) - (wrap64 (t358)))) + (wrap64 ((ji8) - 1)))) - 1)) (wrap64 ((ji8) - 1)))) % 4294967296)) ∧ w'.cell? ⟨gb363, 2, none⟩ = some (u364002)) (ds := [10]) #[false, false, false, false, false, false, false, false, false, false, false] (by kernel_rfl) rfl rfl ⟨c0_ BK363.out, c1_ BK363.out, c2_ BK363.out⟩ (fun hHeld => ?_); refine with_tabW group_Of.tab11 group_Of.bits11 (fun HT_ HW_ => ?_)
            generalize wr.drew = w27 at HO_364002 BK356 BK363 HB hHeld ⊢
            refine pure_ (i := 0) (N := some 54) (v := ?_) (a' := ?_) #[true, false, false, false, false, false, false, false, false, false, false] rfl rfl (any_of HT_.out (by kernel_rfl)) (fun _ _ _ h => h) (Or.inl ⟨by rfl, ?_⟩) ?_ ?_
            rotate_left
            ·intro w'
             go_simp
             with_reducible rfl
            rotate_left
            ·simp only [Act.put, ps_, i64_w, i32_w]
             rfl
            refine pure_ (i := 2) (N := some 56) (v := ?_) (a' := ?_) #[true, false, true, false, false, false, false, false, false, false, false] rfl rfl (any_of HT_.out (by kernel_rfl)) (fun _ _ _ h => h) (Or.inl ⟨by rfl, ?_⟩) ?_ ?_
            rotate_left
            ·intro w'
             go_simp
             with_reducible rfl
            rotate_left
            ·simp only [Act.put, ps_, i64_w, i32_w]
             rfl
            refine pure_ (i := 3) (N := some 57) (v := ?_) (a' := ?_) #[true, false, true, true, false, false, false, false, false, false, false] rfl rfl (any_of HT_.out (by kernel_rfl)) (fun _ _ _ h => h) (Or.inl ⟨by rfl, ?_⟩) ?_ ?_
            rotate_left
            ·intro w'
             go_simp
             with_reducible rfl
            rotate_left
            ·simp only [Act.put, ps_, i64_w, i32_w]
             rfl
            refine pure_ (i := 4) (N := some 58) (v := ?_) (a' := ?_) #[true, false, true, true, true, false, false, false, false, false, false] rfl rfl (any_of HT_.out (by kernel_rfl)) (fun _ _ _ h => h) (Or.inl ⟨by rfl, ?_⟩) ?_ ?_
            rotate_left
            ·intro w'
             go_simp
             with_reducible rfl
            rotate_left
            ·simp only [Act.put, ps_, i64_w, i32_w]
             rfl
            refine pure_ (i := 5) (N := some 59) (v := ?_) (a' := ?_) #[true, false, true, true, true, true, false, false, false, false, false] rfl rfl (any_of HT_.out (by kernel_rfl)) (fun _ _ _ h => h) (Or.inl ⟨by rfl, ?_⟩) ?_ ?_
            rotate_left
            ·intro w'
             go_simp
             with_reducible rfl
            rotate_left
            ·simp only [Act.put, ps_, i64_w, i32_w]
             rfl
            refine pure_ (i := 6) (N := some 60) (v := ?_) (a' := ?_) #[true, false, true, true, true, true, true, false, false, false, false] rfl rfl (any_of HT_.out (by kernel_rfl)) (fun _ _ _ h => h) (Or.inl ⟨by rfl, ?_⟩) ?_ ?_
            rotate_left
            ·intro w'
             go_simp
             with_reducible rfl
            rotate_left
            ·simp only [Act.put, ps_, i64_w, i32_w]
             rfl
            refine pure_ (i := 7) (N := some 61) (v := ?_) (a' := ?_) #[true, false, true, true, true, true, true, true, false, false, false] rfl rfl (any_of HT_.out (by kernel_rfl)) (fun _ _ _ h => h) (Or.inl ⟨by rfl, ?_⟩) ?_ ?_
            rotate_left
            ·intro w'
             go_simp
             with_reducible rfl
            rotate_left
            ·simp only [Act.put, ps_, i64_w, i32_w]
             rfl
            refine take_ (i := 1) (N := some 55) (v := ?_) (a' := ?_) #[true, true, true, true, true, true, true, true, false, false, false] rfl rfl (take_ofW HT_.out HW_.out (by kernel_rfl)) (fun _ _ _ h => h) (Or.inl ⟨by rfl, ?_⟩) hHeld ?_ ?_
            rotate_left
            ·rintro w' ⟨s0, s1, s2⟩
             go_simp
             with_reducible rfl
            rotate_left
            ·simp only [Act.put, ps_, i64_w, i32_w]
             rfl
            refine one_ (i := 8) (N := some 62) #[true, true, true, true, true, true, true, true, true, false, false] rfl rfl (one_of HT_.out (by kernel_rfl)) (by decide) (fun K hK => ?_)
            refine goes_ Try.func67 (by kernel_rfl) rfl #[.int .i64 (wrap64 ((wrap64 (rd l0 x49_1)) - (wrap64 (t358)))), .int .i64 (wrap64 (Int.tdiv (wrap64 ((wrap64 ((wrap64 ((wrap64 (t359)) - (wrap64 (t358)))) + (wrap64 ((ji8) - 1)))) - 1)) (wrap64 ((ji8) - 1))))] (by rfl) rfl rfl (by (try simp only [List.map_toArray, List.map_cons, List.map_nil]); first | done | (simp only [hji8]; rfl) | rfl | (simp only [List.length_drop, List.length_take]; rfl)) ?_
            with_reducible refine (fix_Ratio.calls (wrap64 ((wrap64 (rd l0 x49_1)) - (wrap64 (t358)))) (wrap64 (Int.tdiv (wrap64 ((wrap64 ((wrap64 ((wrap64 (t359)) - (wrap64 (t358)))) + (wrap64 ((ji8) - 1)))) - 1)) (wrap64 ((ji8) - 1)))) t365 _ A24.out).mono ?_
            rintro e w' ⟨rfl, ⟨nd, rfl⟩⟩
            refine ⟨_, rfl, ?_⟩
            have p26 : 0 ≤ (x49_1 : Int) := od_
            have q26 : (x49_1 : Int) < ((x364002_1.length : Int) : Int) := od_
            obtain ⟨go26, co26, eo26, gb26, gl26, cl26, HG26⟩ := Kd.R_form HO_364002.out (by omega)
            (first | cases eo26 | (injection eo26 with ea_ en_ ec_; (first | subst ea_ | (injection ea_ with ea_; subst ea_)); subst ec_; clear en_))
            have GB26 := A_ gb26
            have GG26 := A_ HG26
            clear gb26 gl26 HG26
            obtain ⟨hx26_0, hf26_0⟩ := Kd.R_celln 0 HO_364002.out (x49_1 : Int) p26 q26
            replace p26 := eq_true p26
            replace q26 := eq_true q26
            have HP28 := Kd.R_putn HO_364002.out (x49_1 : Int) t365
            rw [← Ny366.out] at HP28
            have HQ28 := A_ HP28
            clear HP28
            refine hK.out _ _ ⟨c0_ BK363.out, c1_ BK363.out, c2_ BK363.out⟩ (fun hHeld => ?_)
            clear hK K
            refine norm_ (a' := ?_) ?_ ?_
            rotate_left
            ·show Act.put _ (some 62) _ = _
             simp only [Act.put, ps_, i64_w, i32_w]
             rfl
            refine pure_ (i := 9) (N := some 63) (v := ?_) (a' := ?_) #[true, true, true, true, true, true, true, true, true, true, false] rfl rfl (any_of HT_.out (by kernel_rfl)) (fun _ _ _ h => h) (Or.inl ⟨by rfl, ?_⟩) ?_ ?_
            rotate_left
            ·intro w'
             go_simp
             with_reducible rfl
            rotate_left
            ·simp only [Act.put, ps_, i64_w, i32_w]
             rfl
            refine last_ (i := 10) (N := none) #[true, true, true, true, true, true, true, true, true, true, true] rfl rfl (one_of HT_.out (by kernel_rfl)) (by decide) (fun K hK => ?_)
            refine skip_ (w1 := ?_) (by rfl) rfl ?_ ?_
            rotate_left
            ·go_simp
             rfl
            refine hK.out _ _ ?_
            clear hK K
            refine done_ (done_of HT_.out (by kernel_rfl)) ?_
            try go_wp2
            go_roundg k1
            case measure => have := HK1.out; omega
            case rel => exact ⟨(wrap64 (x49_1 + 1)), (y366), (.slice (some ⟨go26, 0, none⟩) x364002_1.length co26), rs_, H', ⟨by have := HK1.out; omega⟩, ⟨mv_ HQ28.out⟩, ⟨by (with_reducible repeat (first | apply bn_ | apply bd_ | apply ba_)); refine blk_far ?_ (by have h_ := Kd.R_ne HO_364002.out BK356.out (by decide); intro e_; exact h_ (by rw [e_]; rfl)) _; (with_reducible repeat (first | apply bn_ | apply bd_ | apply ba_)); exact BK356.out⟩, ⟨by (with_reducible repeat (first | apply bn_ | apply bd_ | apply ba_)); refine blk_far ?_ (by have h_ := Kd.R_ne HO_364002.out BK363.out (by decide); intro e_; exact h_ (by rw [e_]; rfl)) _; (with_reducible repeat (first | apply bn_ | apply bd_ | apply ba_)); exact BK363.out⟩, ⟨by repeat (first | (with_reducible first | exact HB.out | apply below_alloc | apply pw_below_drewN | apply below_drew1 | refine below_set ?_ GB26.out | refine below_set ?_ GE356.out | refine below_set ?_ GE363.out) | exact HB.out)⟩⟩
           ·rw [if_neg c25] at H
            exact absurd H (by simp)
          ·rw [if_neg c23] at H
           exact absurd H (by simp)
         ·rw [if_neg c22] at H
          exact absurd H (by simp)
        ·rw [if_neg c21] at H
         have c21b0 : decide (x49_1 < (l0.length : Int)) = false := decide_eq_false c21
         clear c21
         simp only [Option.some.injEq, Prod.mk.injEq] at H
         obtain ⟨rfl, rfl, rfl, rfl⟩ := H
         have hnb29 := NB363_356.out
         have hnc29 := NB356_363.out
         have ⟨_, _, _, _, _, _⟩ := k3_ BK363.out
         have ⟨_, _, _, _, _, _⟩ := k3_ BK356.out
         obtain ⟨Ao32, co32, eo32⟩ := Kd.R_slice HO_364002.out
         subst eo32
         go_wp2
         refine bodyPost_ret (results_ct rfl _ _ gb356 100 #[.int .i32 (wrap32 (wrap64 (t358))), .int .u32 ((wrap64 (Int.tdiv (wrap64 ((wrap64 ((wrap64 ((wrap64 (t359)) - (wrap64 (t358)))) + (wrap64 ((ji8) - 1)))) - 1)) (wrap64 ((ji8) - 1)))) % 4294967296), .slice Ao32 x364002_1.length co32] (0, 0) _ rfl (by (with_reducible repeat (first | apply bn_ | apply bd_ | apply ba_)); refine blk_put (cs := #[.int .i32 (wrap32 (wrap64 (t358))), .int .u32 ((wrap64 (Int.tdiv (wrap64 ((wrap64 ((wrap64 ((wrap64 (t359)) - (wrap64 (t358)))) + (wrap64 ((ji8) - 1)))) - 1)) (wrap64 ((ji8) - 1)))) % 4294967296), .slice none 0 0]) ?_ 2 _ rfl; (with_reducible repeat (first | apply bn_ | apply bd_ | apply ba_)); refine blk_put (cs := #[.int .i32 (wrap32 (wrap64 (t358))), .int .u32 0, .slice none 0 0]) ?_ 1 _ rfl; (with_reducible repeat (first | apply bn_ | apply bd_ | apply ba_)); refine blk_put (cs := #[.int .i32 0, .int .u32 0, .slice none 0 0]) ?_ 0 _ rfl; (with_reducible repeat (first | apply bn_ | apply bd_ | apply ba_)); exact BK356.out) Try.underlying100 rfl (by kernel_rfl)) rfl ?_
         exact ⟨_, by first | rfl | (simp [errW_none, errW_some] <;> rfl) | (simp only [← hji8]; first | rfl | (simp [errW_none, errW_some] <;> rfl)) | (simp [*, errW_none, errW_some] <;> rfl), by (with_reducible repeat (first | apply Kd.R_alloc | apply Kd.R_drewN | apply Kd.R_drew)); exact Kd.R_mono (Kd.R_far (Kd.R_far (Kd.R_far (Kd.R_types HO_364002.out BK356.out (by decide)) (fun _ hk => hk.2) (.int .i32 (wrap32 (wrap64 (t358))))) (fun _ hk => hk.2) (.int .u32 ((wrap64 (Int.tdiv (wrap64 ((wrap64 ((wrap64 ((wrap64 (t359)) - (wrap64 (t358)))) + (wrap64 ((ji8) - 1)))) - 1)) (wrap64 ((ji8) - 1)))) % 4294967296))) (fun _ hk => hk.2) (.slice Ao32 x364002_1.length co32)) (fun _ hk => trivial), bl_⟩
     ·rw [if_neg c11] at H
      exact absurd H (by simp)
    ·rw [if_neg c10] at H
     exact absurd H (by simp)
  ·rw [if_neg c7] at H
   exact absurd H (by simp)
 ·rw [if_neg c4] at H
  have c4b0 : (t357 == 0) = false := beq_eq_false_iff_ne.mpr c4
  have c4b1 : (t357 != 0) = true := bne_iff_ne.mpr c4
  simp only [Option.some.injEq, Prod.mk.injEq] at H
  obtain ⟨rfl, rfl, rfl, rfl⟩ := H
  go_enter Try.func58, Try.ntmps58
  go_wp2_with (first | (refine box_event rfl (N := 4) rfl (cs := #[.int .i32 0, .int .u32 0, .slice none 0 0]) (t := 100) ?hr ?_; (case hr => first | (go_simp; done) | (go_simp; rfl)); intro gb356 hg w33 hbox hb; have BK356 := A_ hbox; have GW356 := A_ (gw_ w hg); have GE356 := A_ (gw_ w hg); replace HB := A_ (below_step bl_ hb); clear hb hbox hg) | (refine goesL_ (some 17) rfl rfl Try.func76 (by kernel_rfl) rfl #[.int .i64 (l0.length : Int), .int .i64 a1] rfl ar_ ?_; (with_reducible refine (group_many.calls (l0.length : Int) a1 t357 _ A3.out).mono ?_); rintro e w' ⟨rfl, ⟨nd, rfl⟩⟩; refine ⟨_, rfl, ?_⟩; (try (rw [drewN_self w33]; generalize hq_ : World.drewN w33 _ = w33; replace BK356 : Aside0 (w33.heap[gb356]? = some (.cells #[.int .i32 0, .int .u32 0, .slice none 0 0] 100 (0, 0))) := ⟨by rw [← hq_]; exact (mv_ BK356.out)⟩; replace HB : Aside0 (Below w.heap.size w w33) := ⟨by rw [← hq_]; exact bl_⟩; clear hq_)); have ⟨_, _, _, _, _, _⟩ := k3_ BK356.out))
  refine bodyPost_ret (results_ct rfl _ _ gb356 100 #[.int .i32 0, .int .u32 0, .slice none 0 0] (0, 0) _ rfl (by (with_reducible repeat (first | apply bn_ | apply bd_ | apply ba_)); refine blk_put (cs := #[.int .i32 0, .int .u32 0, .slice none 0 0]) ?_ 2 _ rfl; (with_reducible repeat (first | apply bn_ | apply bd_ | apply ba_)); refine blk_put (cs := #[.int .i32 0, .int .u32 0, .slice none 0 0]) ?_ 1 _ rfl; (with_reducible repeat (first | apply bn_ | apply bd_ | apply ba_)); refine blk_put (cs := #[.int .i32 0, .int .u32 0, .slice none 0 0]) ?_ 0 _ rfl; (with_reducible repeat (first | apply bn_ | apply bd_ | apply ba_)); exact BK356.out) Try.underlying100 rfl (by kernel_rfl)) rfl ?_
  exact ⟨_, ew_, nil_, bl_⟩
def credenzaref07_Steps.f (k : Nat) (a0 : Int) : Option (Int) := (credenzaref01_Power.f k a0).bind fun t433 => (some (wrap64 (t433 - 1)))
theorem credenzaref07_Steps.mono : ∀ a0 k, LeO (credenzaref07_Steps.f k a0) (credenzaref07_Steps.f (k + 1) a0) := by
 intro a0 k
 unfold credenzaref07_Steps.f
 repeat' with_reducible first | apply credenzaref01_Power.mono | apply LeO.refl | apply LeO.none | refine LeO.ite ?_ ?_ | refine LeO.bind ?_ (fun _ => ?_)
theorem credenzaref07_Steps.calls (k : Nat) (a0 : Int) (r : Int) (w : World) (h : credenzaref07_Steps.f k a0 = some r) :
  Calls Try.prog 60 #[.int .i64 a0] w fun e w' => e = .returned (.int .i64 r) ∧ Drawn0 w w' := by
 have H := h
 unfold credenzaref07_Steps.f at H
 clear h
 replace H := ob_ H
 obtain ⟨t433, A2, H⟩ := H
 try dsimp only at H
 obtain rfl := Option.some.inj H
 go_enter Try.func60, Try.ntmps60
 go_wp2_with (first | (refine goesL_ (some 4) rfl rfl Try.func81 (by kernel_rfl) rfl #[.int .i64 a0] rfl ar_ ?_; (with_reducible refine (credenzaref01_Power.calls k a0 t433 _ A2.out).mono ?_); rintro e w' ⟨rfl, ⟨nd, rfl⟩⟩; refine ⟨_, rfl, ?_⟩))
 go_ret
 exact ⟨rs_, d0_⟩
mutual
def credenzaref07_Of.l0 : Nat → List Int → Int → Int → Int → Int → Option (Int × Int × List Int)
 | 0, _, _, _, _, _ => none
 | k + 1, x0, x1, x5, x6, x7 => if x7 < (x0.length : Int) then (if 0 ≤ x7 then (if (wrap64 (rd x0 x7)) < x5 then (if (wrap64 (rd x0 x7)) > x6 then (credenzaref07_Of.l0 k x0 x1 (wrap64 (rd x0 x7)) (wrap64 (rd x0 x7)) (wrap64 (x7 + 1))) else (credenzaref07_Of.l0 k x0 x1 (wrap64 (rd x0 x7)) x6 (wrap64 (x7 + 1)))) else (if (wrap64 (rd x0 x7)) > x6 then (credenzaref07_Of.l0 k x0 x1 x5 (wrap64 (rd x0 x7)) (wrap64 (x7 + 1))) else (credenzaref07_Of.l0 k x0 x1 x5 x6 (wrap64 (x7 + 1))))) else (none)) else ((credenzaref07_Steps.f k x1).bind fun t443 => (if t443 = 0 then (none) else ((credenzaref07_Steps.f k x1).bind fun t444 => (if (wrap64 ((wrap64 (Int.tdiv (wrap64 (x6 - x5)) t443)) * t444)) < (wrap64 (x6 - x5)) then (credenzaref07_Of.j1 k x0 x5 (wrap64 ((wrap64 (Int.tdiv (wrap64 (x6 - x5)) t443)) + 1))) else (credenzaref07_Of.j1 k x0 x5 (wrap64 (Int.tdiv (wrap64 (x6 - x5)) t443)))))))
def credenzaref07_Of.j1 : Nat → List Int → Int → Int → Option (Int × Int × List Int)
 | 0, _, _, _ => none
 | k + 1, x0, x5, x8 => credenzaref07_Of.l1 k x0 x5 x8 0 (wrap32 (x5)) ((x8) % 4294967296) ([] : List Int)
def credenzaref07_Of.l1 : Nat → List Int → Int → Int → Int → Int → Int → List Int → Option (Int × Int × List Int)
 | 0, _, _, _, _, _, _, _ => none
 | k + 1, x0, x5, x8, x10, x446000, x446001, x446002 => if x10 < (x0.length : Int) then (if x8 > 0 then (if 0 ≤ x10 then ((credenzaref01_Ratio.f (wrap64 ((wrap64 (rd x0 x10)) - x5)) x8).bind fun t447 => (if x446002.length < 17592186044416 then (credenzaref07_Of.l1 k x0 x5 x8 (wrap64 (x10 + 1)) x446000 x446001 (x446002 ++ [t447])) else (none))) else (none)) else (if x446002.length < 17592186044416 then (credenzaref07_Of.l1 k x0 x5 x8 (wrap64 (x10 + 1)) x446000 x446001 (x446002 ++ [0])) else (none))) else (some (x446000, x446001, x446002))
end
def credenzaref07_Of.f (k : Nat) (l0 : List Int) (a1 : Int) : Option (Int × Int × List Int) := if 0 < (l0.length : Int) then (credenzaref07_Of.l0 k l0 a1 (wrap64 (rd l0 0)) (wrap64 (rd l0 0)) 0) else (none)
theorem credenzaref07_Of.calls (k : Nat) (A0 : Option Addr) (c0 : Nat) (l0 : List Int) (a1 : Int) (r1 : Int) (r2 : Int) (r3 : List Int) (w : World) (hr0 : Kd.C (Kd.int .i32) w A0 l0.length l0) (hc0 : l0.length ≤ c0) (h : credenzaref07_Of.f k l0 a1 = some (r1, r2, r3)) :
  Calls Try.prog 36 #[.slice A0 l0.length c0, .int .i64 a1] w fun e w' => ∃ v2_ : Value, e = .returned (.agg #[.int .i32 r1, .int .u32 r2, v2_]) ∧ Kd.R (Kd.int .i64) 3 w' w.heap.size (fun _ => True) v2_ r3 ∧ Below w.heap.size w w' := by
 have hu72 := Try.underlying72
 have HR0 := A_ hr0
 have HC0 := A_ hc0
 clear hr0 hc0
 have HB := A_ (Below.refl w.heap.size w)
 have H : (if 0 < (l0.length : Int) then (credenzaref07_Of.l0 k l0 a1 (wrap64 (rd l0 0)) (wrap64 (rd l0 0)) 0) else (none)) = some (r1, r2, r3) := h
 clear h
 by_cases c3 : 0 < (l0.length : Int)
 ·rw [if_pos c3] at H
  have c3b0 : decide (0 < (l0.length : Int)) = true := decide_eq_true c3
  have c3b1 : decide (0 < l0.length) = true := decide_eq_true (by omega)
  clear c3
  have H' := A_ H
  clear H
  go_enter Try.func36, Try.ntmps36
  go_wp2_with (first | (refine box_event rfl (N := 4) rfl (cs := #[.int .i32 0, .int .u32 0, .slice none 0 0]) (t := 72) ?hr ?_; (case hr => first | (go_simp; done) | (go_simp; rfl)); intro gb434 hg w4 hbox hb; have BK434 := A_ hbox; have GW434 := A_ (gw_ w hg); have GE434 := A_ (gw_ w hg); replace HB := A_ (below_step bl_ hb); clear hb hbox hg; have p435 : 0 ≤ (0 : Int) := (by omega); have q435 : 0 < (l0.length : Int) := od_; obtain ⟨ad435, e435, hx435_0⟩ := Kd.at_int HR0.out 0 p435 q435; cases e435; have qi435 : (0 < l0.length) = True := eq_true (by omega); (try rw [show ((0 : Int)).toNat = 0 from rfl] at hx435_0); (try rw [Addr.add_zero'] at hx435_0); replace hx435_0 := hc_ HB.out hx435_0; replace p435 := eq_true p435; replace q435 := eq_true q435; have p436 : 0 ≤ (0 : Int) := (by omega); have q436 : 0 < (l0.length : Int) := od_; obtain ⟨ad436, e436, hx436_0⟩ := Kd.at_int HR0.out 0 p436 q436; obtain rfl : ad435 = ad436 := (by injection e436); have qi436 : (0 < l0.length) = True := eq_true (by omega); (try rw [show ((0 : Int)).toNat = 0 from rfl] at hx436_0); (try rw [Addr.add_zero'] at hx436_0); replace hx436_0 := hc_ HB.out hx436_0; replace p436 := eq_true p436; replace q436 := eq_true q436))
  repeat (go_quiet (first | (refine box_event rfl (N := 4) rfl (cs := #[.int .i32 0, .int .u32 0, .slice none 0 0]) (t := 72) ?hr ?_; (case hr => first | (go_simp; done) | (go_simp; rfl)); intro gb434 hg w4 hbox hb; have BK434 := A_ hbox; have GW434 := A_ (gw_ w hg); have GE434 := A_ (gw_ w hg); replace HB := A_ (below_step bl_ hb); clear hb hbox hg; have p435 : 0 ≤ (0 : Int) := (by omega); have q435 : 0 < (l0.length : Int) := od_; obtain ⟨ad435, e435, hx435_0⟩ := Kd.at_int HR0.out 0 p435 q435; cases e435; have qi435 : (0 < l0.length) = True := eq_true (by omega); (try rw [show ((0 : Int)).toNat = 0 from rfl] at hx435_0); (try rw [Addr.add_zero'] at hx435_0); replace hx435_0 := hc_ HB.out hx435_0; replace p435 := eq_true p435; replace q435 := eq_true q435; have p436 : 0 ≤ (0 : Int) := (by omega); have q436 : 0 < (l0.length : Int) := od_; obtain ⟨ad436, e436, hx436_0⟩ := Kd.at_int HR0.out 0 p436 q436; obtain rfl : ad435 = ad436 := (by injection e436); have qi436 : (0 < l0.length) = True := eq_true (by omega); (try rw [show ((0 : Int)).toNat = 0 from rfl] at hx436_0); (try rw [Addr.add_zero'] at hx436_0); replace hx436_0 := hc_ HB.out hx436_0; replace p436 := eq_true p436; replace q436 := eq_true q436)); try go_wp2_with (first | (refine box_event rfl (N := 4) rfl (cs := #[.int .i32 0, .int .u32 0, .slice none 0 0]) (t := 72) ?hr ?_; (case hr => first | (go_simp; done) | (go_simp; rfl)); intro gb434 hg w4 hbox hb; have BK434 := A_ hbox; have GW434 := A_ (gw_ w hg); have GE434 := A_ (gw_ w hg); replace HB := A_ (below_step bl_ hb); clear hb hbox hg; have p435 : 0 ≤ (0 : Int) := (by omega); have q435 : 0 < (l0.length : Int) := od_; obtain ⟨ad435, e435, hx435_0⟩ := Kd.at_int HR0.out 0 p435 q435; cases e435; have qi435 : (0 < l0.length) = True := eq_true (by omega); (try rw [show ((0 : Int)).toNat = 0 from rfl] at hx435_0); (try rw [Addr.add_zero'] at hx435_0); replace hx435_0 := hc_ HB.out hx435_0; replace p435 := eq_true p435; replace q435 := eq_true q435; have p436 : 0 ≤ (0 : Int) := (by omega); have q436 : 0 < (l0.length : Int) := od_; obtain ⟨ad436, e436, hx436_0⟩ := Kd.at_int HR0.out 0 p436 q436; obtain rfl : ad435 = ad436 := (by injection e436); have qi436 : (0 < l0.length) = True := eq_true (by omega); (try rw [show ((0 : Int)).toNat = 0 from rfl] at hx436_0); (try rw [Addr.add_zero'] at hx436_0); replace hx436_0 := hc_ HB.out hx436_0; replace p436 := eq_true p436; replace q436 := eq_true q436)))
  go_loopg [5, 6, 7] k (fun kq v5 v6 v7 w' => ∃ (x5_1 : Int) (x6_1 : Int) (x7_1 : Int), v5 = .int .i64 x5_1 ∧ v6 = .int .i64 x6_1 ∧ v7 = .int .i64 x7_1 ∧ Aside0 (credenzaref07_Of.l0 kq l0 a1 x5_1 x6_1 x7_1 = some (r1, r2, r3)) ∧ Aside0 (kq ≤ k) ∧ Aside0 (w'.heap[gb434]? = some (.cells #[.int .i32 0, .int .u32 0, (.slice none 0 0)] 72 (0, 0))) ∧ Aside0 (Below w.heap.size w w'))
  case atStart => exact ⟨(wrap64 (rd l0 0)), (wrap64 (rd l0 0)), (0), rs_, rs_, rs_, H', ⟨Nat.le_refl _⟩, ⟨mv_ BK434.out⟩, ⟨bl_⟩⟩
  case round =>
   clear H'
   obtain ⟨x5_1, x6_1, x7_1, rfl, rfl, rfl, HA, HK1, BK434, HB⟩ := hrel
   cases gk with
   | zero => exact absurd HA.out (by simp [credenzaref07_Of.l0])
   | succ k1 =>
    have H := HA.out
    clear HA
    simp only [credenzaref07_Of.l0] at H
    by_cases c5 : x7_1 < (l0.length : Int)
    ·rw [if_pos c5] at H
     have c5b0 : decide (x7_1 < (l0.length : Int)) = true := decide_eq_true c5
     clear c5
     by_cases c6 : 0 ≤ x7_1
     ·rw [if_pos c6] at H
      have c6b0 : decide (0 ≤ x7_1) = true := decide_eq_true c6
      clear c6
      by_cases c7 : (wrap64 (rd l0 x7_1)) < x5_1
      ·rw [if_pos c7] at H
       have c7b0 : decide ((wrap64 (rd l0 x7_1)) < x5_1) = true := decide_eq_true c7
       clear c7
       by_cases c8 : (wrap64 (rd l0 x7_1)) > x6_1
       ·rw [if_pos c8] at H
        have c8b0 : decide (x6_1 < (wrap64 (rd l0 x7_1))) = true := decide_eq_true c8
        clear c8
        have H' := A_ H
        clear H
        have p437 : 0 ≤ (x7_1 : Int) := od_
        have q437 : x7_1 < (l0.length : Int) := od_
        obtain ⟨ad437, e437, hx437_0⟩ := Kd.at_int HR0.out x7_1 p437 q437
        obtain rfl : ad435 = ad437 := (by injection e437)
        replace hx437_0 := hc_ HB.out hx437_0
        replace p437 := eq_true p437
        replace q437 := eq_true q437
        have p438 : 0 ≤ (x7_1 : Int) := od_
        have q438 : x7_1 < (l0.length : Int) := od_
        obtain ⟨ad438, e438, hx438_0⟩ := Kd.at_int HR0.out x7_1 p438 q438
        obtain rfl : ad435 = ad438 := (by injection e438)
        replace hx438_0 := hc_ HB.out hx438_0
        replace p438 := eq_true p438
        replace q438 := eq_true q438
        have p439 : 0 ≤ (x7_1 : Int) := od_
        have q439 : x7_1 < (l0.length : Int) := od_
        obtain ⟨ad439, e439, hx439_0⟩ := Kd.at_int HR0.out x7_1 p439 q439
        obtain rfl : ad435 = ad439 := (by injection e439)
        replace hx439_0 := hc_ HB.out hx439_0
        replace p439 := eq_true p439
        replace q439 := eq_true q439
        have p440 : 0 ≤ (x7_1 : Int) := od_
        have q440 : x7_1 < (l0.length : Int) := od_
        obtain ⟨ad440, e440, hx440_0⟩ := Kd.at_int HR0.out x7_1 p440 q440
        obtain rfl : ad435 = ad440 := (by injection e440)
        replace hx440_0 := hc_ HB.out hx440_0
        replace p440 := eq_true p440
        replace q440 := eq_true q440
        go_wp2
        repeat (go_quiet (fail); try go_wp2)
        go_roundg k1
        case measure => have := HK1.out; omega
        case rel => exact ⟨(wrap64 (rd l0 x7_1)), (wrap64 (rd l0 x7_1)), (wrap64 (x7_1 + 1)), rs_, rs_, rs_, H', ⟨by have := HK1.out; omega⟩, ⟨mv_ BK434.out⟩, ⟨bl_⟩⟩
       ·rw [if_neg c8] at H
        have c8b0 : decide (x6_1 < (wrap64 (rd l0 x7_1))) = false := decide_eq_false c8
        clear c8
        have H' := A_ H
        clear H
        have p437 : 0 ≤ (x7_1 : Int) := od_
        have q437 : x7_1 < (l0.length : Int) := od_
        obtain ⟨ad437, e437, hx437_0⟩ := Kd.at_int HR0.out x7_1 p437 q437
        obtain rfl : ad435 = ad437 := (by injection e437)
        replace hx437_0 := hc_ HB.out hx437_0
        replace p437 := eq_true p437
        replace q437 := eq_true q437
        have p438 : 0 ≤ (x7_1 : Int) := od_
        have q438 : x7_1 < (l0.length : Int) := od_
        obtain ⟨ad438, e438, hx438_0⟩ := Kd.at_int HR0.out x7_1 p438 q438
        obtain rfl : ad435 = ad438 := (by injection e438)
        replace hx438_0 := hc_ HB.out hx438_0
        replace p438 := eq_true p438
        replace q438 := eq_true q438
        have p439 : 0 ≤ (x7_1 : Int) := od_
        have q439 : x7_1 < (l0.length : Int) := od_
        obtain ⟨ad439, e439, hx439_0⟩ := Kd.at_int HR0.out x7_1 p439 q439
        obtain rfl : ad435 = ad439 := (by injection e439)
        replace hx439_0 := hc_ HB.out hx439_0
        replace p439 := eq_true p439
        replace q439 := eq_true q439
        go_wp2
        repeat (go_quiet (fail); try go_wp2)
        go_roundg k1
        case measure => have := HK1.out; omega
        case rel => exact ⟨(wrap64 (rd l0 x7_1)), (x6_1), (wrap64 (x7_1 + 1)), rs_, rs_, rs_, H', ⟨by have := HK1.out; omega⟩, ⟨mv_ BK434.out⟩, ⟨bl_⟩⟩
      ·rw [if_neg c7] at H
       have c7b0 : decide ((wrap64 (rd l0 x7_1)) < x5_1) = false := decide_eq_false c7
       clear c7
       by_cases c9 : (wrap64 (rd l0 x7_1)) > x6_1
       ·rw [if_pos c9] at H
        have c9b0 : decide (x6_1 < (wrap64 (rd l0 x7_1))) = true := decide_eq_true c9
        clear c9
        have H' := A_ H
        clear H
        have p437 : 0 ≤ (x7_1 : Int) := od_
        have q437 : x7_1 < (l0.length : Int) := od_
        obtain ⟨ad437, e437, hx437_0⟩ := Kd.at_int HR0.out x7_1 p437 q437
        obtain rfl : ad435 = ad437 := (by injection e437)
        replace hx437_0 := hc_ HB.out hx437_0
        replace p437 := eq_true p437
        replace q437 := eq_true q437
        have p441 : 0 ≤ (x7_1 : Int) := od_
        have q441 : x7_1 < (l0.length : Int) := od_
        obtain ⟨ad441, e441, hx441_0⟩ := Kd.at_int HR0.out x7_1 p441 q441
        obtain rfl : ad435 = ad441 := (by injection e441)
        replace hx441_0 := hc_ HB.out hx441_0
        replace p441 := eq_true p441
        replace q441 := eq_true q441
        have p442 : 0 ≤ (x7_1 : Int) := od_
        have q442 : x7_1 < (l0.length : Int) := od_
        obtain ⟨ad442, e442, hx442_0⟩ := Kd.at_int HR0.out x7_1 p442 q442
        obtain rfl : ad435 = ad442 := (by injection e442)
        replace hx442_0 := hc_ HB.out hx442_0
        replace p442 := eq_true p442
        replace q442 := eq_true q442
        go_wp2
        repeat (go_quiet (fail); try go_wp2)
        go_roundg k1
        case measure => have := HK1.out; omega
        case rel => exact ⟨(x5_1), (wrap64 (rd l0 x7_1)), (wrap64 (x7_1 + 1)), rs_, rs_, rs_, H', ⟨by have := HK1.out; omega⟩, ⟨mv_ BK434.out⟩, ⟨bl_⟩⟩
       ·rw [if_neg c9] at H
        have c9b0 : decide (x6_1 < (wrap64 (rd l0 x7_1))) = false := decide_eq_false c9
        clear c9
        have H' := A_ H
        clear H
        have p437 : 0 ≤ (x7_1 : Int) := od_
        have q437 : x7_1 < (l0.length : Int) := od_
        obtain ⟨ad437, e437, hx437_0⟩ := Kd.at_int HR0.out x7_1 p437 q437
        obtain rfl : ad435 = ad437 := (by injection e437)
        replace hx437_0 := hc_ HB.out hx437_0
        replace p437 := eq_true p437
        replace q437 := eq_true q437
        have p441 : 0 ≤ (x7_1 : Int) := od_
        have q441 : x7_1 < (l0.length : Int) := od_
        obtain ⟨ad441, e441, hx441_0⟩ := Kd.at_int HR0.out x7_1 p441 q441
        obtain rfl : ad435 = ad441 := (by injection e441)
        replace hx441_0 := hc_ HB.out hx441_0
        replace p441 := eq_true p441
        replace q441 := eq_true q441
        go_wp2
        repeat (go_quiet (fail); try go_wp2)
        go_roundg k1
        case measure => have := HK1.out; omega
        case rel => exact ⟨(x5_1), (x6_1), (wrap64 (x7_1 + 1)), rs_, rs_, rs_, H', ⟨by have := HK1.out; omega⟩, ⟨mv_ BK434.out⟩, ⟨bl_⟩⟩
     ·rw [if_neg c6] at H
      exact absurd H (by simp)
    ·rw [if_neg c5] at H
     have c5b0 : decide (x7_1 < (l0.length : Int)) = false := decide_eq_false c5
     clear c5
     replace H := ob_ H
     obtain ⟨t443, A10, H⟩ := H
     try dsimp only at H
     by_cases c11 : t443 = 0
     ·rw [if_pos c11] at H
      exact absurd H (by simp)
     ·rw [if_neg c11] at H
      have c11b0 : (t443 == 0) = false := beq_eq_false_iff_ne.mpr c11
      have c11b1 : (t443 != 0) = true := bne_iff_ne.mpr c11
      replace H := Option.bind_eq_some_iff.mp H
      obtain ⟨t444, A120, H⟩ := H
      try dsimp only at H
      have A12 := A_ A120
      obtain rfl : t443 = t444 := Option.some.inj (A10.out.symm.trans A12.out)
      clear A120
      have HC13 := A_ H
      clear H
      go_upto_if 63 with (first | (go_at_call 60; (with_reducible refine (credenzaref07_Steps.calls k1 a1 t443 _ A10.out).mono ?_); rintro e w' ⟨rfl, ⟨nd, rfl⟩⟩; (try exact dd_)) | (go_at_call 60; (with_reducible refine (credenzaref07_Steps.calls k1 a1 t443 _ A12.out).mono ?_); rintro e w' ⟨rfl, ⟨nd, rfl⟩⟩; (try exact dd_)))
      repeat (go_quiet (first | (go_at_call 60; (with_reducible refine (credenzaref07_Steps.calls k1 a1 t443 _ A10.out).mono ?_); rintro e w' ⟨rfl, ⟨nd, rfl⟩⟩; (try exact dd_)) | (go_at_call 60; (with_reducible refine (credenzaref07_Steps.calls k1 a1 t443 _ A12.out).mono ?_); rintro e w' ⟨rfl, ⟨nd, rfl⟩⟩; (try exact dd_))); go_upto_if 63 with (first | (go_at_call 60; (with_reducible refine (credenzaref07_Steps.calls k1 a1 t443 _ A10.out).mono ?_); rintro e w' ⟨rfl, ⟨nd, rfl⟩⟩; (try exact dd_)) | (go_at_call 60; (with_reducible refine (credenzaref07_Steps.calls k1 a1 t443 _ A12.out).mono ?_); rintro e w' ⟨rfl, ⟨nd, rfl⟩⟩; (try exact dd_))))
      (try simp only [Act.put, ps_])
      go_cut [8] (fun v8 wc => ∃ (kq : Nat) (x8_12 : Int), v8 = .int .i64 x8_12 ∧ Aside0 (credenzaref07_Of.j1 kq l0 x5_1 x8_12 = some (r1, r2, r3)) ∧ Aside0 (kq ≤ k1) ∧ Aside0 (wc.heap[gb434]? = some (.cells #[.int .i32 0, .int .u32 0, (.slice none 0 0)] 72 (0, 0))) ∧ Aside0 (Below w.heap.size w wc))
      case first =>
       have H := HC13.out
       clear HC13
       by_cases c14 : (wrap64 ((wrap64 (Int.tdiv (wrap64 (x6_1 - x5_1)) t443)) * t443)) < (wrap64 (x6_1 - x5_1))
       ·rw [if_pos c14] at H
        have c14b0 : decide ((wrap64 ((wrap64 (Int.tdiv (wrap64 (x6_1 - x5_1)) t443)) * t443)) < (wrap64 (x6_1 - x5_1))) = true := decide_eq_true c14
        clear c14
        (first | rw [c14b0] | (simp only [i64_w, i32_w]; rw [c14b0]) | skip)
        have H' := A_ H
        clear H
        go_wp2
        repeat (go_quiet (fail); try go_wp2)
        go_meet
        case rel => exact ⟨_, (wrap64 ((wrap64 (Int.tdiv (wrap64 (x6_1 - x5_1)) t443)) + 1)), rs_, H', ⟨by have := HK1.out; first | omega | exact Nat.le_refl _⟩, ⟨mv_ BK434.out⟩, ⟨bl_⟩⟩
       ·rw [if_neg c14] at H
        have c14b0 : decide ((wrap64 ((wrap64 (Int.tdiv (wrap64 (x6_1 - x5_1)) t443)) * t443)) < (wrap64 (x6_1 - x5_1))) = false := decide_eq_false c14
        clear c14
        (first | rw [c14b0] | (simp only [i64_w, i32_w]; rw [c14b0]) | skip)
        have H' := A_ H
        clear H
        go_wp2
        repeat (go_quiet (fail); try go_wp2)
        go_meet
        case rel => exact ⟨_, (wrap64 (Int.tdiv (wrap64 (x6_1 - x5_1)) t443)), rs_, H', ⟨by have := HK1.out; first | omega | exact Nat.le_refl _⟩, ⟨mv_ BK434.out⟩, ⟨bl_⟩⟩
      case rest =>
       clear HC13
       obtain ⟨kq, x8_12, rfl, HA, HJ12, BK434, HB⟩ := hcut
       cases kq with
       | zero => exact absurd HA.out (by simp [credenzaref07_Of.j1])
       | succ kj12 =>
        have H := HA.out
        clear HA
        simp only [credenzaref07_Of.j1] at H
        have H' := A_ H
        clear H
        go_wp2_with (first | (refine box_event rfl (N := 9) rfl (cs := #[.int .i32 0, .int .u32 0, .slice none 0 0]) (t := 72) ?hr ?_; (case hr => first | (go_simp; done) | (go_simp; rfl)); intro gb445 hg w15 hbox hb; have BK445 := A_ hbox; have GW445 := A_ (gw_ w hg); have GE445 := A_ (gw_ w hg); have NB434_445 := A_ ((by rw [hg]; exact Nat.ne_of_lt (lt_ BK434.out) : gb434 ≠ gb445)); have NB445_434 := A_ ((by rw [hg]; exact Nat.ne_of_gt (lt_ BK434.out) : gb445 ≠ gb434)); replace BK434 := A_ (bb_ BK434.out hb); replace HB := A_ (below_step bl_ hb); clear hb hbox hg; have hnb16 := NB445_434.out; have hnc16 := NB434_445.out; have ⟨_, _, _, _, _, _⟩ := k3_ BK445.out))
        repeat (go_quiet (first | (refine box_event rfl (N := 9) rfl (cs := #[.int .i32 0, .int .u32 0, .slice none 0 0]) (t := 72) ?hr ?_; (case hr => first | (go_simp; done) | (go_simp; rfl)); intro gb445 hg w15 hbox hb; have BK445 := A_ hbox; have GW445 := A_ (gw_ w hg); have GE445 := A_ (gw_ w hg); have NB434_445 := A_ ((by rw [hg]; exact Nat.ne_of_lt (lt_ BK434.out) : gb434 ≠ gb445)); have NB445_434 := A_ ((by rw [hg]; exact Nat.ne_of_gt (lt_ BK434.out) : gb445 ≠ gb434)); replace BK434 := A_ (bb_ BK434.out hb); replace HB := A_ (below_step bl_ hb); clear hb hbox hg; have hnb16 := NB445_434.out; have hnc16 := NB434_445.out; have ⟨_, _, _, _, _, _⟩ := k3_ BK445.out)); try go_wp2_with (first | (refine box_event rfl (N := 9) rfl (cs := #[.int .i32 0, .int .u32 0, .slice none 0 0]) (t := 72) ?hr ?_; (case hr => first | (go_simp; done) | (go_simp; rfl)); intro gb445 hg w15 hbox hb; have BK445 := A_ hbox; have GW445 := A_ (gw_ w hg); have GE445 := A_ (gw_ w hg); have NB434_445 := A_ ((by rw [hg]; exact Nat.ne_of_lt (lt_ BK434.out) : gb434 ≠ gb445)); have NB445_434 := A_ ((by rw [hg]; exact Nat.ne_of_gt (lt_ BK434.out) : gb445 ≠ gb434)); replace BK434 := A_ (bb_ BK434.out hb); replace HB := A_ (below_step bl_ hb); clear hb hbox hg; have hnb16 := NB445_434.out; have hnc16 := NB434_445.out; have ⟨_, _, _, _, _, _⟩ := k3_ BK445.out)))
        go_loopg [10] kj12 (fun kq v10 w' => ∃ (x10_3 : Int) (x446002_3 : List Int) (u446002 : Value), v10 = .int .i64 x10_3 ∧ Aside0 (credenzaref07_Of.l1 kq l0 x5_1 x8_12 x10_3 (wrap32 (x5_1)) ((x8_12) % 4294967296) x446002_3 = some (r1, r2, r3)) ∧ Aside0 (kq ≤ kj12) ∧ Aside0 (Kd.R (Kd.int .i64) 3 w' w.heap.size (fun _ => True) u446002 x446002_3) ∧ Aside0 (w'.heap[gb434]? = some (.cells #[.int .i32 0, .int .u32 0, (.slice none 0 0)] 72 (0, 0))) ∧ Aside0 (w'.heap[gb445]? = some (.cells #[.int .i32 (wrap32 (x5_1)), .int .u32 ((x8_12) % 4294967296), u446002] 72 (0, 0))) ∧ Aside0 (Below w.heap.size w w'))
        case atStart => exact ⟨(0), (([] : List Int)), (.slice none 0 0), rs_, H', ⟨Nat.le_refl _⟩, ⟨nil_⟩, ⟨ft_ BK434.out NB434_445.out⟩, ⟨by (with_reducible repeat (first | apply bn_ | apply bd_ | apply ba_)); refine blk_put (cs := #[.int .i32 (wrap32 (x5_1)), .int .u32 ((x8_12) % 4294967296), .slice none 0 0]) ?_ 2 _ rfl; (with_reducible repeat (first | apply bn_ | apply bd_ | apply ba_)); refine blk_put (cs := #[.int .i32 (wrap32 (x5_1)), .int .u32 0, .slice none 0 0]) ?_ 1 _ rfl; (with_reducible repeat (first | apply bn_ | apply bd_ | apply ba_)); refine blk_put (cs := #[.int .i32 0, .int .u32 0, .slice none 0 0]) ?_ 0 _ rfl; (with_reducible repeat (first | apply bn_ | apply bd_ | apply ba_)); exact BK445.out⟩, ⟨bl_⟩⟩
        case round =>
         clear H'
         obtain ⟨x10_3, x446002_3, u446002, rfl, HA, HK3, HO_446002, BK434, BK445, HB⟩ := hrel
         cases gk with
         | zero => exact absurd HA.out (by simp [credenzaref07_Of.l1])
         | succ k3 =>
          have H := HA.out
          clear HA
          simp only [credenzaref07_Of.l1] at H
          by_cases c18 : x10_3 < (l0.length : Int)
          ·rw [if_pos c18] at H
           have c18b0 : decide (x10_3 < (l0.length : Int)) = true := decide_eq_true c18
           clear c18
           by_cases c19 : x8_12 > 0
           ·rw [if_pos c19] at H
            have c19b0 : decide (0 < x8_12) = true := decide_eq_true c19
            clear c19
            by_cases c20 : 0 ≤ x10_3
            ·rw [if_pos c20] at H
             have c20b0 : decide (0 ≤ x10_3) = true := decide_eq_true c20
             clear c20
             replace H := ob_ H
             obtain ⟨t447, A21, H⟩ := H
             try dsimp only at H
             by_cases c22 : x446002_3.length < 17592186044416
             ·rw [if_pos c22] at H
              have LMc22 := A_ c22
              clear c22
              obtain ⟨y448, hy448⟩ : ∃ y_ : List Int, y_ = (x446002_3 ++ [t447]) := ⟨_, rfl⟩
              replace H : (credenzaref07_Of.l1 k3 l0 x5_1 x8_12 (wrap64 (x10_3 + 1)) (wrap32 (x5_1)) ((x8_12) % 4294967296) y448) = some (r1, r2, r3) := hy_ hy448 H
              have Ny448 := A_ hy448
              clear hy448
              have H' := A_ H
              clear H
              have p446 : 0 ≤ (x10_3 : Int) := od_
              have q446 : x10_3 < (l0.length : Int) := od_
              obtain ⟨ad446, e446, hx446_0⟩ := Kd.at_int HR0.out x10_3 p446 q446
              obtain rfl : ad435 = ad446 := (by injection e446)
              replace hx446_0 := hc_ HB.out hx446_0
              replace p446 := eq_true p446
              replace q446 := eq_true q446
              go_wp2_with (first | (go_at_call 29; (with_reducible refine (credenzaref01_Ratio.calls (wrap64 ((wrap64 (rd l0 x10_3)) - x5_1)) x8_12 t447 _ A21.out).mono ?_); rintro e w' ⟨rfl, ⟨nd, rfl⟩⟩; (try exact dd_); have hnb23 := NB445_434.out; have hnc23 := NB434_445.out; have ⟨_, _, _, _, _, _⟩ := k3_ BK445.out) | ((with_reducible refine gate_builtin (b := .append) (xs := #[.tmp 89, .tmp 91]) rfl ?_); at_builtin; refine Kd.R_append (Kd.int .i64) (w0 := w) w.heap.size rfl (.tmp 89) (.tmp 91) 66 3 (.int .i64 0) 8 rfl Try.underlying66 info3 rfl (by decide) (by omega) u446002 x446002_3 t447 [.int .i64 t447] (fun _ => True) (fun _ => False) rfl rfl ?aP (fun _ hk => hk.elim) ?aF ?aO ?aB ?aS ?aL ?_; (case aP => exact rfl); (case aB => exact bl_); (case aF => exact (fun _ _ => trivial)); (case aO => exact (mv_ HO_446002.out)); (case aS => exact (below_size bl_)); (case aL => have := LMc22.out; omega); intro v449 w25 ho hb hg hat; rw [← Ny448.out] at ho; replace BK434 := A_ (bg_ BK434.out hg (Kd.R_ne HO_446002.out BK434.out (by decide))); replace BK445 := A_ (bg_ BK445.out hg (Kd.R_ne HO_446002.out BK445.out (by decide))); have HO450 := A_ ho; replace HB := A_ hb; clear HO_446002 ho hb hg hat; obtain ⟨Ao26, co26, eo26⟩ := Kd.R_slice HO450.out; subst eo26; have ⟨_, _, _, _, _, _⟩ := k3_ BK445.out))
              repeat (go_quiet (first | (go_at_call 29; (with_reducible refine (credenzaref01_Ratio.calls (wrap64 ((wrap64 (rd l0 x10_3)) - x5_1)) x8_12 t447 _ A21.out).mono ?_); rintro e w' ⟨rfl, ⟨nd, rfl⟩⟩; (try exact dd_); have hnb23 := NB445_434.out; have hnc23 := NB434_445.out; have ⟨_, _, _, _, _, _⟩ := k3_ BK445.out) | ((with_reducible refine gate_builtin (b := .append) (xs := #[.tmp 89, .tmp 91]) rfl ?_); at_builtin; refine Kd.R_append (Kd.int .i64) (w0 := w) w.heap.size rfl (.tmp 89) (.tmp 91) 66 3 (.int .i64 0) 8 rfl Try.underlying66 info3 rfl (by decide) (by omega) u446002 x446002_3 t447 [.int .i64 t447] (fun _ => True) (fun _ => False) rfl rfl ?aP (fun _ hk => hk.elim) ?aF ?aO ?aB ?aS ?aL ?_; (case aP => exact rfl); (case aB => exact bl_); (case aF => exact (fun _ _ => trivial)); (case aO => exact (mv_ HO_446002.out)); (case aS => exact (below_size bl_)); (case aL => have := LMc22.out; omega); intro v449 w25 ho hb hg hat; rw [← Ny448.out] at ho; replace BK434 := A_ (bg_ BK434.out hg (Kd.R_ne HO_446002.out BK434.out (by decide))); replace BK445 := A_ (bg_ BK445.out hg (Kd.R_ne HO_446002.out BK445.out (by decide))); have HO450 := A_ ho; replace HB := A_ hb; clear HO_446002 ho hb hg hat; obtain ⟨Ao26, co26, eo26⟩ := Kd.R_slice HO450.out; subst eo26; have ⟨_, _, _, _, _, _⟩ := k3_ BK445.out)); try go_wp2_with (first | (go_at_call 29; (with_reducible refine (credenzaref01_Ratio.calls (wrap64 ((wrap64 (rd l0 x10_3)) - x5_1)) x8_12 t447 _ A21.out).mono ?_); rintro e w' ⟨rfl, ⟨nd, rfl⟩⟩; (try exact dd_); have hnb23 := NB445_434.out; have hnc23 := NB434_445.out; have ⟨_, _, _, _, _, _⟩ := k3_ BK445.out) | ((with_reducible refine gate_builtin (b := .append) (xs := #[.tmp 89, .tmp 91]) rfl ?_); at_builtin; refine Kd.R_append (Kd.int .i64) (w0 := w) w.heap.size rfl (.tmp 89) (.tmp 91) 66 3 (.int .i64 0) 8 rfl Try.underlying66 info3 rfl (by decide) (by omega) u446002 x446002_3 t447 [.int .i64 t447] (fun _ => True) (fun _ => False) rfl rfl ?aP (fun _ hk => hk.elim) ?aF ?aO ?aB ?aS ?aL ?_; (case aP => exact rfl); (case aB => exact bl_); (case aF => exact (fun _ _ => trivial)); (case aO => exact (mv_ HO_446002.out)); (case aS => exact (below_size bl_)); (case aL => have := LMc22.out; omega); intro v449 w25 ho hb hg hat; rw [← Ny448.out] at ho; replace BK434 := A_ (bg_ BK434.out hg (Kd.R_ne HO_446002.out BK434.out (by decide))); replace BK445 := A_ (bg_ BK445.out hg (Kd.R_ne HO_446002.out BK445.out (by decide))); have HO450 := A_ ho; replace HB := A_ hb; clear HO_446002 ho hb hg hat; obtain ⟨Ao26, co26, eo26⟩ := Kd.R_slice HO450.out; subst eo26; have ⟨_, _, _, _, _, _⟩ := k3_ BK445.out)))
              go_roundg k3
              case measure => have := HK1.out; have := HJ12.out; have := HK3.out; omega
              case rel => exact ⟨(wrap64 (x10_3 + 1)), (y448), (.slice Ao26 y448.length co26), rs_, H', ⟨by have := HK1.out; have := HJ12.out; have := HK3.out; omega⟩, ⟨by (with_reducible repeat (first | apply Kd.R_alloc | apply Kd.R_drewN | apply Kd.R_drew)); exact Kd.R_mono (Kd.R_far (Kd.R_types HO450.out BK445.out (by decide)) (fun _ hk => hk.2) (.slice Ao26 y448.length co26)) (fun _ hk => trivial)⟩, ⟨ft_ BK434.out NB434_445.out⟩, ⟨by (with_reducible repeat (first | apply bn_ | apply bd_ | apply ba_)); refine blk_put (cs := #[.int .i32 (wrap32 (x5_1)), .int .u32 ((x8_12) % 4294967296), u446002]) ?_ 2 _ rfl; (with_reducible repeat (first | apply bn_ | apply bd_ | apply ba_)); exact BK445.out⟩, ⟨bl_⟩⟩
             ·rw [if_neg c22] at H
              exact absurd H (by simp)
            ·rw [if_neg c20] at H
             exact absurd H (by simp)
           ·rw [if_neg c19] at H
            have c19b0 : decide (0 < x8_12) = false := decide_eq_false c19
            clear c19
            by_cases c28 : x446002_3.length < 17592186044416
            ·rw [if_pos c28] at H
             have LMc28 := A_ c28
             clear c28
             obtain ⟨y451, hy451⟩ : ∃ y_ : List Int, y_ = (x446002_3 ++ [0]) := ⟨_, rfl⟩
             replace H : (credenzaref07_Of.l1 k3 l0 x5_1 x8_12 (wrap64 (x10_3 + 1)) (wrap32 (x5_1)) ((x8_12) % 4294967296) y451) = some (r1, r2, r3) := hy_ hy451 H
             have Ny451 := A_ hy451
             clear hy451
             have H' := A_ H
             clear H
             have hnb29 := NB445_434.out
             have hnc29 := NB434_445.out
             have ⟨_, _, _, _, _, _⟩ := k3_ BK445.out
             go_wp2_with (first | ((with_reducible refine gate_builtin (b := .append) (xs := #[.tmp 89, .tmp 91]) rfl ?_); at_builtin; refine Kd.R_append (Kd.int .i64) (w0 := w) w.heap.size rfl (.tmp 89) (.tmp 91) 66 3 (.int .i64 0) 8 rfl Try.underlying66 info3 rfl (by decide) (by omega) u446002 x446002_3 0 [.int .i64 0] (fun _ => True) (fun _ => False) rfl rfl ?aP (fun _ hk => hk.elim) ?aF ?aO ?aB ?aS ?aL ?_; (case aP => exact rfl); (case aB => exact bl_); (case aF => exact (fun _ _ => trivial)); (case aO => exact (mv_ HO_446002.out)); (case aS => exact (below_size bl_)); (case aL => have := LMc28.out; omega); intro v452 w31 ho hb hg hat; rw [← Ny451.out] at ho; replace BK434 := A_ (bg_ BK434.out hg (Kd.R_ne HO_446002.out BK434.out (by decide))); replace BK445 := A_ (bg_ BK445.out hg (Kd.R_ne HO_446002.out BK445.out (by decide))); have HO453 := A_ ho; replace HB := A_ hb; clear HO_446002 ho hb hg hat; obtain ⟨Ao32, co32, eo32⟩ := Kd.R_slice HO453.out; subst eo32; have ⟨_, _, _, _, _, _⟩ := k3_ BK445.out))
             repeat (go_quiet (first | ((with_reducible refine gate_builtin (b := .append) (xs := #[.tmp 89, .tmp 91]) rfl ?_); at_builtin; refine Kd.R_append (Kd.int .i64) (w0 := w) w.heap.size rfl (.tmp 89) (.tmp 91) 66 3 (.int .i64 0) 8 rfl Try.underlying66 info3 rfl (by decide) (by omega) u446002 x446002_3 0 [.int .i64 0] (fun _ => True) (fun _ => False) rfl rfl ?aP (fun _ hk => hk.elim) ?aF ?aO ?aB ?aS ?aL ?_; (case aP => exact rfl); (case aB => exact bl_); (case aF => exact (fun _ _ => trivial)); (case aO => exact (mv_ HO_446002.out)); (case aS => exact (below_size bl_)); (case aL => have := LMc28.out; omega); intro v452 w31 ho hb hg hat; rw [← Ny451.out] at ho; replace BK434 := A_ (bg_ BK434.out hg (Kd.R_ne HO_446002.out BK434.out (by decide))); replace BK445 := A_ (bg_ BK445.out hg (Kd.R_ne HO_446002.out BK445.out (by decide))); have HO453 := A_ ho; replace HB := A_ hb; clear HO_446002 ho hb hg hat; obtain ⟨Ao32, co32, eo32⟩ := Kd.R_slice HO453.out; subst eo32; have ⟨_, _, _, _, _, _⟩ := k3_ BK445.out)); try go_wp2_with (first | ((with_reducible refine gate_builtin (b := .append) (xs := #[.tmp 89, .tmp 91]) rfl ?_); at_builtin; refine Kd.R_append (Kd.int .i64) (w0 := w) w.heap.size rfl (.tmp 89) (.tmp 91) 66 3 (.int .i64 0) 8 rfl Try.underlying66 info3 rfl (by decide) (by omega) u446002 x446002_3 0 [.int .i64 0] (fun _ => True) (fun _ => False) rfl rfl ?aP (fun _ hk => hk.elim) ?aF ?aO ?aB ?aS ?aL ?_; (case aP => exact rfl); (case aB => exact bl_); (case aF => exact (fun _ _ => trivial)); (case aO => exact (mv_ HO_446002.out)); (case aS => exact (below_size bl_)); (case aL => have := LMc28.out; omega); intro v452 w31 ho hb hg hat; rw [← Ny451.out] at ho; replace BK434 := A_ (bg_ BK434.out hg (Kd.R_ne HO_446002.out BK434.out (by decide))); replace BK445 := A_ (bg_ BK445.out hg (Kd.R_ne HO_446002.out BK445.out (by decide))); have HO453 := A_ ho; replace HB := A_ hb; clear HO_446002 ho hb hg hat; obtain ⟨Ao32, co32, eo32⟩ := Kd.R_slice HO453.out; subst eo32; have ⟨_, _, _, _, _, _⟩ := k3_ BK445.out)))
             go_roundg k3
             case measure => have := HK1.out; have := HJ12.out; have := HK3.out; omega
             case rel => exact ⟨(wrap64 (x10_3 + 1)), (y451), (.slice Ao32 y451.length co32), rs_, H', ⟨by have := HK1.out; have := HJ12.out; have := HK3.out; omega⟩, ⟨by (with_reducible repeat (first | apply Kd.R_alloc | apply Kd.R_drewN | apply Kd.R_drew)); exact Kd.R_mono (Kd.R_far (Kd.R_types HO453.out BK445.out (by decide)) (fun _ hk => hk.2) (.slice Ao32 y451.length co32)) (fun _ hk => trivial)⟩, ⟨ft_ BK434.out NB434_445.out⟩, ⟨by (with_reducible repeat (first | apply bn_ | apply bd_ | apply ba_)); refine blk_put (cs := #[.int .i32 (wrap32 (x5_1)), .int .u32 ((x8_12) % 4294967296), u446002]) ?_ 2 _ rfl; (with_reducible repeat (first | apply bn_ | apply bd_ | apply ba_)); exact BK445.out⟩, ⟨bl_⟩⟩
            ·rw [if_neg c28] at H
             exact absurd H (by simp)
          ·rw [if_neg c18] at H
           have c18b0 : decide (x10_3 < (l0.length : Int)) = false := decide_eq_false c18
           clear c18
           simp only [Option.some.injEq, Prod.mk.injEq] at H
           obtain ⟨rfl, rfl, rfl⟩ := H
           have hnb34 := NB445_434.out
           have hnc34 := NB434_445.out
           have ⟨_, _, _, _, _, _⟩ := k3_ BK445.out
           have ⟨_, _, _, _, _, _⟩ := k3_ BK434.out
           obtain ⟨Ao37, co37, eo37⟩ := Kd.R_slice HO_446002.out
           subst eo37
           go_wp2
           repeat (go_quiet (fail); try go_wp2)
           refine bodyPost_ret (results_cell_row rfl _ _ gb434 72 #[.int .i32 (wrap32 (x5_1)), .int .u32 ((x8_12) % 4294967296), .slice Ao37 x446002_3.length co37] (0, 0) _ rfl (by (with_reducible repeat (first | apply bn_ | apply bd_ | apply ba_)); refine blk_put (cs := #[.int .i32 (wrap32 (x5_1)), .int .u32 ((x8_12) % 4294967296), .slice none 0 0]) ?_ 2 _ rfl; (with_reducible repeat (first | apply bn_ | apply bd_ | apply ba_)); refine blk_put (cs := #[.int .i32 (wrap32 (x5_1)), .int .u32 0, .slice none 0 0]) ?_ 1 _ rfl; (with_reducible repeat (first | apply bn_ | apply bd_ | apply ba_)); refine blk_put (cs := #[.int .i32 0, .int .u32 0, .slice none 0 0]) ?_ 0 _ rfl; (with_reducible repeat (first | apply bn_ | apply bd_ | apply ba_)); exact BK434.out) Try.underlying72 rfl (by kernel_rfl)) rfl ?_
           exact ⟨_, ew_, by (with_reducible repeat (first | apply Kd.R_alloc | apply Kd.R_drewN | apply Kd.R_drew)); exact Kd.R_mono (Kd.R_far (Kd.R_far (Kd.R_far (Kd.R_types HO_446002.out BK434.out (by decide)) (fun _ hk => hk.2) (.int .i32 (wrap32 (x5_1)))) (fun _ hk => hk.2) (.int .u32 ((x8_12) % 4294967296))) (fun _ hk => hk.2) (.slice Ao37 x446002_3.length co37)) (fun _ hk => trivial), bl_⟩
 ·rw [if_neg c3] at H
  exact absurd H (by simp)
end Go.Proofs.Yteflolamihhmdaa.Q

namespace Go.Proofs.Yteflolamihhmdaa.Pure.Pg
open Go.RowKit Go.Proofs.Yteflolamihhmdaa.Q Go.Proofs.YteflolamihhmdaaW.PrintWords Go.Proofs.YteflolamihhmdaaW.PrintLast Go.Proofs.YteflolamihhmdaaW.PrintMore
theorem pg_drop {l : List Int} {p : Nat} (h : p < l.length) : l.drop p = rd l (p : Int) :: l.drop (p + 1) := by
 rw [List.drop_eq_getElem_cons h]
 simp [rd, List.getD_eq_getElem?_getD, List.getElem?_eq_getElem h]
theorem pg_mem {l : List Int} {p : Nat} (h : p < l.length) : rd l (p : Int) ∈ l := by
 simp [rd, List.getD_eq_getElem?_getD, List.getElem?_eq_getElem h]
theorem pg_w1 {p : Nat} (h : p ≤ 1000000) : wrap64 ((p : Int) + 1) = ((p + 1 : Nat) : Int) := by unfold wrap64; omega
def minF : Int → List Int → Int
 | a, [] => a
 | a, x :: l => minF (mn a x) l
def maxF : Int → List Int → Int
 | a, [] => a
 | a, x :: l => maxF (mx a x) l
theorem minF_le : ∀ (l : List Int) (a : Int), minF a l ≤ a ∧ ∀ x ∈ l, minF a l ≤ x
 | [], a => ⟨Int.le_refl _, fun x h => by cases h⟩
 | y :: l, a => by
  have ih := minF_le l (mn a y)
  have h1 : mn a y ≤ a ∧ mn a y ≤ y := by unfold mn; omega
  refine ⟨by rw [minF]; omega, fun x hx => ?_⟩
  rw [minF]
  rcases List.mem_cons.1 hx with rfl | hx
  ·omega
  ·exact ih.2 x hx
theorem maxF_ge : ∀ (l : List Int) (a : Int), a ≤ maxF a l ∧ ∀ x ∈ l, x ≤ maxF a l
 | [], a => ⟨Int.le_refl _, fun x h => by cases h⟩
 | y :: l, a => by
  have ih := maxF_ge l (mx a y)
  have h1 : a ≤ mx a y ∧ y ≤ mx a y := by unfold mx; omega
  refine ⟨by rw [maxF]; omega, fun x hx => ?_⟩
  rw [maxF]
  rcases List.mem_cons.1 hx with rfl | hx
  ·omega
  ·exact ih.2 x hx
theorem minF_i32 : ∀ (l : List Int) (a : Int), A32 l → I32 a → I32 (minF a l)
 | [], a, _, ha => ha
 | y :: l, a, hl, ha => minF_i32 l (mn a y) (fun x hx => hl x (List.mem_cons_of_mem _ hx)) (by have := hl y List.mem_cons_self; unfold I32 at *; unfold mn; omega)
theorem maxF_i32 : ∀ (l : List Int) (a : Int), A32 l → I32 a → I32 (maxF a l)
 | [], a, _, ha => ha
 | y :: l, a, hl, ha => maxF_i32 l (mx a y) (fun x hx => hl x (List.mem_cons_of_mem _ hx)) (by have := hl y List.mem_cons_self; unfold I32 at *; unfold mx; omega)
theorem min_loop (l : List Int) (hl : l.length ≤ 1000000) : ∀ (d p : Nat) (a : Int), p + d = l.length → Ev (fun k => slices_Min_int32_int32.l0 k l a (p : Int)) (minF a (l.drop p)) := by
 intro d
 induction d with
 | zero =>
  intro p a h
  refine Ev.step (fun k => ?_) (Ev.now _)
  rw [slices_Min_int32_int32.l0, if_neg (by omega), List.drop_eq_nil_of_le (by omega)]
  rfl
 | succ d ih =>
  intro p a h
  rw [pg_drop (by omega), minF]
  refine Ev.step (fun k => ?_) (ih (p + 1) (mn a (rd l p)) (by omega))
  rw [slices_Min_int32_int32.l0, if_pos (by omega), if_pos (by omega), pg_w1 (by omega)]
theorem max_loop (l : List Int) (hl : l.length ≤ 1000000) : ∀ (d p : Nat) (a : Int), p + d = l.length → Ev (fun k => slices_Max_int32_int32.l0 k l a (p : Int)) (maxF a (l.drop p)) := by
 intro d
 induction d with
 | zero =>
  intro p a h
  refine Ev.step (fun k => ?_) (Ev.now _)
  rw [slices_Max_int32_int32.l0, if_neg (by omega), List.drop_eq_nil_of_le (by omega)]
  rfl
 | succ d ih =>
  intro p a h
  rw [pg_drop (by omega), maxF]
  refine Ev.step (fun k => ?_) (ih (p + 1) (mx a (rd l p)) (by omega))
  rw [slices_Max_int32_int32.l0, if_pos (by omega), if_pos (by omega), pg_w1 (by omega)]
def leastR (l : List Int) : Int := minF (rd l 0) (l.drop 1)
def mostR (l : List Int) : Int := maxF (rd l 0) (l.drop 1)
theorem min_ev {l : List Int} (h0 : 0 < l.length) (hl : l.length ≤ 1000000) : Ev (fun k => slices_Min_int32_int32.f k l) (leastR l) := by
 refine Ev.congr (fun k => ?_) (min_loop l hl (l.length - 1) 1 (rd l 0) (by omega))
 rw [slices_Min_int32_int32.f, if_neg (by omega), if_pos (by omega)]
 rfl
theorem max_ev {l : List Int} (h0 : 0 < l.length) (hl : l.length ≤ 1000000) : Ev (fun k => slices_Max_int32_int32.f k l) (mostR l) := by
 refine Ev.congr (fun k => ?_) (max_loop l hl (l.length - 1) 1 (rd l 0) (by omega))
 rw [slices_Max_int32_int32.f, if_neg (by omega), if_pos (by omega)]
 rfl
theorem pg_cons {l : List Int} (h0 : 0 < l.length) : l = rd l 0 :: l.drop 1 := by
 have := pg_drop (l := l) (p := 0) h0
 simpa using this
theorem least_le {l : List Int} (h0 : 0 < l.length) {x : Int} (hx : x ∈ l) : leastR l ≤ x ∧ x ≤ mostR l := by
 rw [pg_cons h0] at hx
 have h1 := minF_le (l.drop 1) (rd l 0)
 have h2 := maxF_ge (l.drop 1) (rd l 0)
 unfold leastR mostR
 rcases List.mem_cons.1 hx with rfl | hx
 ·exact ⟨h1.1, h2.1⟩
 ·exact ⟨h1.2 x hx, h2.2 x hx⟩
theorem least_i32 {l : List Int} (h0 : 0 < l.length) (ha : A32 l) : I32 (leastR l) ∧ I32 (mostR l) ∧ leastR l ≤ mostR l := by
 have hd : A32 (l.drop 1) := fun x hx => ha x (List.mem_of_mem_drop hx)
 have h1 : I32 (rd l 0) := ha _ (pg_mem (p := 0) h0)
 have h2 := least_le h0 (pg_mem (p := 0) h0)
 exact ⟨minF_i32 _ _ hd h1, maxF_i32 _ _ hd h1, Int.le_trans h2.1 h2.2⟩
def stepsR (b : Int) : Int := if b = 2 then 3 else if b = 4 then 15 else 255
def Bit (b : Int) : Prop := b = 2 ∨ b = 4 ∨ b = 8
def scaleR (b : Int) (l : List Int) : Int := (mostR l - leastR l + stepsR b - 1) / stepsR b
def codeR (b : Int) (l : List Int) (x : Int) : Int := if scaleR b l > 0 then rnd (x - leastR l) (scaleR b l) else 0
def codesR (b : Int) (l : List Int) : List Int := l.map (codeR b l)
theorem scale_bd {b : Int} (hb : Bit b) {l : List Int} (h0 : 0 < l.length) (ha : A32 l) : 0 ≤ scaleR b l ∧ scaleR b l ≤ 1431655765 ∧ mostR l - leastR l ≤ scaleR b l * stepsR b := by
 obtain ⟨h1, h2, h3⟩ := least_i32 h0 ha
 unfold I32 at h1 h2
 unfold scaleR
 rcases hb with rfl | rfl | rfl
 ·simp only [stepsR, if_pos]; omega
 ·simp only [stepsR, if_pos, show ¬ ((4 : Int) = 2) by decide, if_neg, not_false_iff]; omega
 ·simp only [stepsR, show ¬ ((8 : Int) = 2) by decide, show ¬ ((8 : Int) = 4) by decide, if_neg, not_false_iff]; omega
theorem rnd_le {a b n : Int} (hb : 0 < b) (h0 : 0 ≤ a) (h : a ≤ b * n) : 0 ≤ rnd a b ∧ rnd a b ≤ n := by
 obtain ⟨h1, h2, h3⟩ := divmod (a := a) hb
 have hq : 0 ≤ a / b := Int.ediv_nonneg h0 (by omega)
 have hn : a / b ≤ n := by
  have := Int.ediv_le_ediv hb h
  rwa [Int.mul_ediv_cancel_left _ (by omega)] at this
 by_cases hc : a / b < n
 ·unfold rnd
  split <;> omega
 ·have e : a / b = n := by omega
  rw [e] at h1
  have hm : a % b = 0 := by omega
  unfold rnd
  rw [if_neg (by rw [hm]; omega)]
  omega
theorem code_bd {b : Int} (hb : Bit b) {l : List Int} (h0 : 0 < l.length) (ha : A32 l) {x : Int} (hx : x ∈ l) : 0 ≤ codeR b l x ∧ codeR b l x ≤ stepsR b ∧ (scaleR b l = 0 → codeR b l x = 0) := by
 obtain ⟨h1, h2, h3⟩ := scale_bd hb h0 ha
 obtain ⟨h4, h5⟩ := least_le h0 hx
 have hs : 0 ≤ stepsR b := by rcases hb with rfl | rfl | rfl <;> decide
 unfold codeR
 by_cases hc : scaleR b l > 0
 ·rw [if_pos hc]
  have := rnd_le (a := x - leastR l) (n := stepsR b) hc (by omega) (by omega)
  exact ⟨this.1, this.2, fun h => by omega⟩
 ·rw [if_neg hc]
  exact ⟨Int.le_refl _, hs, fun _ => rfl⟩
theorem ratio_code {b : Int} (hb : Bit b) {l : List Int} (h0 : 0 < l.length) (ha : A32 l) {x : Int} (hx : x ∈ l) : fix_Ratio.f (wrap64 (wrap64 x - leastR l)) (scaleR b l) = some (codeR b l x) := by
 obtain ⟨h1, h2, h3⟩ := scale_bd hb h0 ha
 obtain ⟨h4, h5⟩ := least_le h0 hx
 obtain ⟨h6, h7, -⟩ := least_i32 h0 ha
 have h8 := ha x hx
 unfold I32 at h6 h7 h8
 have e : wrap64 (wrap64 x - leastR l) = x - leastR l := by unfold wrap64; omega
 rw [e]
 unfold codeR
 by_cases hc : scaleR b l > 0
 ·rw [if_pos hc, fix_Ratio_some hc (by omega) (by omega) (by omega)]
 ·rw [if_neg hc, fix_Ratio.f, if_pos (by omega)]
theorem of_loop {b : Int} (hb : Bit b) {l : List Int} (h0 : 0 < l.length) (ha : A32 l) (hl : l.length ≤ 256) (a0 a1 : Int) : ∀ (d : Nat) (pre : List Int), pre.length + d = l.length →
  Ev (fun k => group_Of.l0 k (leastR l) (scaleR b l) l (l.length : Int) (pre.length : Int) a0 a1 (pre ++ List.replicate d 0)) (a0, a1, pre ++ (l.drop pre.length).map (codeR b l), 0) := by
 intro d
 induction d with
 | zero =>
  intro pre h
  refine Ev.step (fun k => ?_) (Ev.now _)
  rw [group_Of.l0, if_neg (by omega), List.drop_eq_nil_of_le (by omega)]
  rfl
 | succ d ih =>
  intro pre h
  have hlt : pre.length < l.length := by omega
  rw [pg_drop hlt, List.map_cons]
  have ih := ih (pre ++ [codeR b l (rd l (pre.length : Int))]) (by simp; omega)
  rw [List.length_append, List.length_singleton] at ih
  simp only [List.append_assoc, List.singleton_append] at ih
  refine Ev.step (fun k => ?_) ih
  have hlen : ((pre.length : Int)) < ((pre ++ List.replicate (d + 1) 0).length : Int) := by simp; omega
  rw [group_Of.l0, if_pos (by omega), if_pos (by omega), if_pos (by omega), ratio_code hb h0 ha (pg_mem hlt), Option.bind_some, if_pos hlen, pg_w1 (by omega)]
  congr 1
  rw [Int.toNat_natCast, List.set_append_right _ _ (Nat.le_refl _), Nat.sub_self]
  rfl
theorem steps_eq {b : Int} (hb : Bit b) : 0 ≤ b ∧ wrap64 (shl .i64 1 b - 1) = stepsR b ∧ stepsR b ≠ 0 ∧ pack_Bits.f b = some true := by
 rcases hb with rfl | rfl | rfl <;> exact ⟨by decide, by kernel_rfl, by decide, by kernel_rfl⟩
theorem scale_eq {b : Int} (hb : Bit b) {l : List Int} (h0 : 0 < l.length) (ha : A32 l) : wrap64 (Int.tdiv (wrap64 ((wrap64 ((wrap64 ((wrap64 (mostR l)) - (wrap64 (leastR l)))) + stepsR b)) - 1)) (stepsR b)) = scaleR b l := by
 obtain ⟨h1, h2, h3⟩ := least_i32 h0 ha
 obtain ⟨h4, h5, -⟩ := scale_bd hb h0 ha
 unfold I32 at h1 h2
 have hs : 3 ≤ stepsR b ∧ stepsR b ≤ 255 := by rcases hb with rfl | rfl | rfl <;> decide
 have e : wrap64 ((wrap64 ((wrap64 ((wrap64 (mostR l)) - (wrap64 (leastR l)))) + stepsR b)) - 1) = mostR l - leastR l + stepsR b - 1 := by unfold wrap64; omega
 rw [e, Int.tdiv_eq_ediv_of_nonneg (by omega)]
 change wrap64 (scaleR b l) = scaleR b l
 unfold wrap64
 omega
theorem group_Of_ev {b : Int} (hb : Bit b) {l : List Int} (h0 : 0 < l.length) (ha : A32 l) (hl : l.length ≤ 256) : Ev (fun k => group_Of.f k l b) (leastR l, scaleR b l, codesR b l, 0) := by
 obtain ⟨h1, h2, h3⟩ := least_i32 h0 ha
 obtain ⟨h4, h5, -⟩ := scale_bd hb h0 ha
 obtain ⟨s1, s2, s3, s4⟩ := steps_eq hb
 have hm : group_many.f (l.length : Int) b = some 0 := by rw [group_many.f, s4, Option.bind_some, if_pos rfl, if_neg (by omega), if_neg (by omega)]
 unfold I32 at h1 h2
 have e1 : wrap64 (leastR l) = leastR l := by unfold wrap64; omega
 have e2 : wrap32 (leastR l) = leastR l := by unfold wrap32; omega
 have e3 : scaleR b l % 4294967296 = scaleR b l := by omega
 have hz := of_loop hb h0 ha hl (leastR l) (scaleR b l) l.length [] (by simp)
 simp only [List.length_nil, List.nil_append, List.drop_zero] at hz
 refine Ev.congr (f := fun k => (slices_Min_int32_int32.f k l).bind fun t358 => ((slices_Max_int32_int32.f k l).bind fun t359 => group_Of.l0 k (wrap64 t358) (wrap64 (Int.tdiv (wrap64 ((wrap64 ((wrap64 ((wrap64 t359) - (wrap64 t358))) + stepsR b)) - 1)) (stepsR b))) l (l.length : Int) 0 (wrap32 (wrap64 t358)) ((wrap64 (Int.tdiv (wrap64 ((wrap64 ((wrap64 ((wrap64 t359) - (wrap64 t358))) + stepsR b)) - 1)) (stepsR b))) % 4294967296) (List.replicate l.length 0))) (fun k => ?_) ?_
 ·rw [group_Of.f, hm, Option.bind_some, if_pos rfl, s2]
  simp only [if_pos s1, if_neg s3, if_pos (show (0 : Int) ≤ (l.length : Int) by omega), Int.toNat_natCast, if_pos (show l.length ≤ 35184372088832 by omega)]
 ·refine Ev.bind (min_ev h0 (by omega)) (Ev.bind (max_ev h0 (by omega)) ?_)
  rw [scale_eq hb h0 ha, e1, e2, e3]
  exact hz
theorem steps_ev {b : Int} (hb : Bit b) : Ev (fun k => credenzaref07_Steps.f k b) (stepsR b) := by
 rcases hb with rfl | rfl | rfl
 ·exact Ev.of (credenzaref07_Steps.mono _) (k := 20) (by kernel_rfl)
 ·exact Ev.of (credenzaref07_Steps.mono _) (k := 20) (by kernel_rfl)
 ·exact Ev.of (credenzaref07_Steps.mono _) (k := 20) (by kernel_rfl)
theorem refcode {b : Int} (hb : Bit b) {l : List Int} (h0 : 0 < l.length) (ha : A32 l) {x : Int} (hx : x ∈ l) (hc : scaleR b l > 0) : credenzaref01_Ratio.f (wrap64 (wrap64 x - leastR l)) (scaleR b l) = some (codeR b l x) := by
 obtain ⟨h1, h2, h3⟩ := scale_bd hb h0 ha
 obtain ⟨h4, h5⟩ := least_le h0 hx
 obtain ⟨h6, h7, -⟩ := least_i32 h0 ha
 have h8 := ha x hx
 unfold I32 at h6 h7 h8
 have e : wrap64 (wrap64 x - leastR l) = x - leastR l := by unfold wrap64; omega
 rw [e]
 unfold codeR
 rw [if_pos hc, ref_Ratio_some hc (by omega) (by omega) (by omega)]
theorem ref_codes {b : Int} (hb : Bit b) {l : List Int} (h0 : 0 < l.length) (ha : A32 l) (hl : l.length ≤ 256) (a0 a1 : Int) : ∀ (d : Nat) (pre : List Int), pre.length + d = l.length →
  Ev (fun k => credenzaref07_Of.l1 k l (leastR l) (scaleR b l) (pre.length : Int) a0 a1 pre) (a0, a1, pre ++ (l.drop pre.length).map (codeR b l)) := by
 intro d
 induction d with
 | zero =>
  intro pre h
  refine Ev.step (fun k => ?_) (Ev.now _)
  rw [credenzaref07_Of.l1, if_neg (by omega), List.drop_eq_nil_of_le (by omega), List.map_nil, List.append_nil]
 | succ d ih =>
  intro pre h
  have hlt : pre.length < l.length := by omega
  rw [pg_drop hlt, List.map_cons]
  have ih := ih (pre ++ [codeR b l (rd l (pre.length : Int))]) (by simp; omega)
  rw [List.length_append, List.length_singleton] at ih
  rw [List.append_assoc, List.singleton_append] at ih
  refine Ev.step (fun k => ?_) ih
  by_cases hc : scaleR b l > 0
  ·rw [credenzaref07_Of.l1, if_pos (by omega), if_pos hc, if_pos (by omega), refcode hb h0 ha (pg_mem hlt) hc, Option.bind_some, if_pos (by omega), pg_w1 (by omega)]
  ·rw [credenzaref07_Of.l1, if_pos (by omega), if_neg hc, if_pos (by omega), pg_w1 (by omega)]
   have : codeR b l (rd l (pre.length : Int)) = 0 := by unfold codeR; rw [if_neg hc]
   rw [this]
theorem ref_Of_tail {b : Int} (hb : Bit b) {l : List Int} (h0 : 0 < l.length) (ha : A32 l) (hl : l.length ≤ 256) :
  Ev (fun k => (credenzaref07_Steps.f k b).bind fun t443 => (if t443 = 0 then (none) else ((credenzaref07_Steps.f k b).bind fun t444 => (if (wrap64 ((wrap64 (Int.tdiv (wrap64 (mostR l - leastR l)) t443)) * t444)) < (wrap64 (mostR l - leastR l)) then (credenzaref07_Of.j1 k l (leastR l) (wrap64 ((wrap64 (Int.tdiv (wrap64 (mostR l - leastR l)) t443)) + 1))) else (credenzaref07_Of.j1 k l (leastR l) (wrap64 (Int.tdiv (wrap64 (mostR l - leastR l)) t443))))))) (leastR l, scaleR b l, codesR b l) := by
 obtain ⟨h1, h2, h3⟩ := least_i32 h0 ha
 obtain ⟨h4, h5, -⟩ := scale_bd hb h0 ha
 unfold I32 at h1 h2
 have hj : Ev (fun k => credenzaref07_Of.j1 k l (leastR l) (scaleR b l)) (leastR l, scaleR b l, codesR b l) := by
  have hz := ref_codes hb h0 ha hl (leastR l) (scaleR b l) l.length [] (by simp)
  simp only [List.length_nil, List.nil_append, List.drop_zero] at hz
  refine Ev.step (fun k => ?_) hz
  rw [credenzaref07_Of.j1]
  have e2 : wrap32 (leastR l) = leastR l := by unfold wrap32; omega
  have e3 : scaleR b l % 4294967296 = scaleR b l := by omega
  rw [e2, e3]
  rfl
 refine Ev.bind (steps_ev hb) ?_
 refine Ev.congr (fun k => by rw [if_neg (steps_eq hb).2.2.1]) (Ev.bind (steps_ev hb) ?_)
 have e0 : wrap64 (mostR l - leastR l) = mostR l - leastR l := by unfold wrap64; omega
 rw [e0, Int.tdiv_eq_ediv_of_nonneg (by omega)]
 have hq : wrap64 ((mostR l - leastR l) / stepsR b) = (mostR l - leastR l) / stepsR b := by
  rcases hb with rfl | rfl | rfl
  ·simp only [stepsR, if_pos]; unfold wrap64; omega
  ·simp only [stepsR, if_pos, show ¬ ((4 : Int) = 2) by decide, if_neg, not_false_iff]; unfold wrap64; omega
  ·simp only [stepsR, show ¬ ((8 : Int) = 2) by decide, show ¬ ((8 : Int) = 4) by decide, if_neg, not_false_iff]; unfold wrap64; omega
 rw [hq]
 have hm : wrap64 ((mostR l - leastR l) / stepsR b * stepsR b) = (mostR l - leastR l) / stepsR b * stepsR b ∧ ((mostR l - leastR l) / stepsR b * stepsR b < mostR l - leastR l → wrap64 ((mostR l - leastR l) / stepsR b + 1) = scaleR b l) ∧ (¬ (mostR l - leastR l) / stepsR b * stepsR b < mostR l - leastR l → (mostR l - leastR l) / stepsR b = scaleR b l) := by
  unfold scaleR
  rcases hb with rfl | rfl | rfl
  ·simp only [stepsR, if_pos]; unfold wrap64; omega
  ·simp only [stepsR, if_pos, show ¬ ((4 : Int) = 2) by decide, if_neg, not_false_iff]; unfold wrap64; omega
  ·simp only [stepsR, show ¬ ((8 : Int) = 2) by decide, show ¬ ((8 : Int) = 4) by decide, if_neg, not_false_iff]; unfold wrap64; omega
 rw [hm.1]
 by_cases hc : (mostR l - leastR l) / stepsR b * stepsR b < mostR l - leastR l
 ·refine Ev.congr (fun k => by rw [if_pos hc]) ?_
  rw [hm.2.1 hc]
  exact hj
 ·refine Ev.congr (fun k => by rw [if_neg hc]) ?_
  rw [hm.2.2 hc]
  exact hj
theorem ref_Of_loop {b : Int} (hb : Bit b) {l : List Int} (h0 : 0 < l.length) (ha : A32 l) (hl : l.length ≤ 256) : ∀ (d p : Nat) (lo hi : Int), p + d = l.length → lo ≤ hi → minF lo (l.drop p) = leastR l → maxF hi (l.drop p) = mostR l →
  Ev (fun k => credenzaref07_Of.l0 k l b lo hi (p : Int)) (leastR l, scaleR b l, codesR b l) := by
 intro d
 induction d with
 | zero =>
  intro p lo hi h hlh h1 h2
  rw [List.drop_eq_nil_of_le (by omega)] at h1 h2
  rw [minF] at h1
  rw [maxF] at h2
  subst h1
  subst h2
  refine Ev.step (fun k => ?_) (ref_Of_tail hb h0 ha hl)
  rw [credenzaref07_Of.l0, if_neg (by omega)]
 | succ d ih =>
  intro p lo hi h hlh h1 h2
  have hlt : p < l.length := by omega
  rw [pg_drop hlt] at h1 h2
  rw [minF] at h1
  rw [maxF] at h2
  have hx := ha _ (pg_mem hlt)
  unfold I32 at hx
  have ex : wrap64 (rd l (p : Int)) = rd l (p : Int) := by unfold wrap64; omega
  have ih := ih (p + 1) (mn lo (rd l (p : Int))) (mx hi (rd l (p : Int))) (by omega) (by unfold mn mx; omega) h1 h2
  refine Ev.step (fun k => ?_) ih
  rw [credenzaref07_Of.l0, if_pos (by omega), if_pos (by omega), ex, pg_w1 (by omega)]
  by_cases c1 : rd l (p : Int) < lo
  ·have e1 : mn lo (rd l (p : Int)) = rd l (p : Int) := by unfold mn; omega
   have e2 : mx hi (rd l (p : Int)) = hi := by unfold mx; omega
   rw [if_pos c1, if_neg (by omega), e1, e2]
  ·have e1 : mn lo (rd l (p : Int)) = lo := by unfold mn; omega
   rw [if_neg c1, e1]
   by_cases c2 : rd l (p : Int) > hi
   ·have e2 : mx hi (rd l (p : Int)) = rd l (p : Int) := by unfold mx; omega
    rw [if_pos c2, e2]
   ·have e2 : mx hi (rd l (p : Int)) = hi := by unfold mx; omega
    rw [if_neg c2, e2]
theorem ref_Of_ev {b : Int} (hb : Bit b) {l : List Int} (h0 : 0 < l.length) (ha : A32 l) (hl : l.length ≤ 256) : Ev (fun k => credenzaref07_Of.f k l b) (leastR l, scaleR b l, codesR b l) := by
 have hx := ha _ (pg_mem (p := 0) h0)
 unfold I32 at hx
 have ex : wrap64 (rd l (0 : Int)) = rd l 0 := by
  have : rd l (((0 : Nat) : Int)) = rd l 0 := rfl
  rw [this] at hx
  unfold wrap64
  omega
 have h := ref_Of_loop hb h0 ha hl l.length 0 (rd l 0) (rd l 0) (by omega) (Int.le_refl _)
  (by rw [pg_drop h0, minF]; unfold leastR; congr 1; change mn (rd l 0) (rd l 0) = rd l 0; unfold mn; omega)
  (by rw [pg_drop h0, maxF]; unfold mostR; congr 1; change mx (rd l 0) (rd l 0) = rd l 0; unfold mx; omega)
 refine Ev.congr (fun k => ?_) h
 rw [credenzaref07_Of.f, if_pos (by omega), ex]
 rfl
end Go.Proofs.Yteflolamihhmdaa.Pure.Pg

namespace Go.Proofs.Yteflolamihhmdaa.Q
open Go.RowKit Go.Proofs.YteflolamihhmdaaW.PrintWords Go.Proofs.YteflolamihhmdaaW.PrintLast Go.Proofs.YteflolamihhmdaaW.PrintMore
attribute [local go_sem] max2_int min2_int max_two min_two max_three min_three max_four min_four
def pack_many.f (a0 : Int) : Option (Bool) := if a0 ≥ 0 then (some (decide (a0 ≤ 256))) else (some false)
theorem pack_many.calls (a0 : Int) (r : Bool) (w : World) (h : pack_many.f a0 = some r) :
  Calls Try.prog 91 #[.int .i64 a0] w fun e w' => e = .returned (.bool r) ∧ Drawn0 w w' := by
 have H := h
 unfold pack_many.f at H
 clear h
 by_cases c2 : a0 ≥ 0
 ·rw [if_pos c2] at H
  have c2b0 : decide (0 ≤ a0) = true := decide_eq_true c2
  clear c2
  obtain rfl := Option.some.inj H
  go_enter Try.func91, Try.ntmps91
  go_wp2
  go_ret
  exact ⟨rs_, d0_⟩
 ·rw [if_neg c2] at H
  have c2b0 : decide (0 ≤ a0) = false := decide_eq_false c2
  clear c2
  obtain rfl := Option.some.inj H
  go_enter Try.func91, Try.ntmps91
  go_wp2
  go_ret
  exact ⟨rs_, d0_⟩
def pack_Words.f (a0 : Int) (a1 : Int) : Option (Int) := (pack_Bits.f a1).bind fun t369 => (if t369 = true then ((pack_many.f a0).bind fun t370 => (if t370 = true then (some (wrap64 (Int.tdiv (wrap64 ((wrap64 ((wrap64 (a0 * a1)) + 64)) - 1)) 64))) else (some 0))) else (some 0))
theorem pack_Words.calls (a0 : Int) (a1 : Int) (r : Int) (w : World) (h : pack_Words.f a0 a1 = some r) :
  Calls Try.prog 93 #[.int .i64 a0, .int .i64 a1] w fun e w' => e = .returned (.int .i64 r) ∧ Drawn0 w w' := by
 have H := h
 unfold pack_Words.f at H
 clear h
 replace H := ob_ H
 obtain ⟨t369, A3, H⟩ := H
 try dsimp only at H
 by_cases c4 : t369 = true
 ·subst c4
  replace H : ((pack_many.f a0).bind fun t370 => (if t370 = true then (some (wrap64 (Int.tdiv (wrap64 ((wrap64 ((wrap64 (a0 * a1)) + 64)) - 1)) 64))) else (some 0))) = some r := by rw [if_pos rfl] at H; exact H
  replace H := ob_ H
  obtain ⟨t370, A5, H⟩ := H
  try dsimp only at H
  by_cases c6 : t370 = true
  ·subst c6
   replace H : (some (wrap64 (Int.tdiv (wrap64 ((wrap64 ((wrap64 (a0 * a1)) + 64)) - 1)) 64))) = some r := by rw [if_pos rfl] at H; exact H
   obtain rfl := Option.some.inj H
   go_enter Try.func93, Try.ntmps93
   go_wp2_with (first | (refine goesL_ (some 6) rfl rfl Try.func74 (by kernel_rfl) rfl #[.int .i64 a1] rfl ar_ ?_; (with_reducible refine (pack_Bits.calls a1 true _ A3.out).mono ?_); rintro e w' ⟨rfl, ⟨nd, rfl⟩⟩; refine ⟨_, rfl, ?_⟩) | (go_at_call 91; (with_reducible refine (pack_many.calls a0 true _ A5.out).mono ?_); rintro e w' ⟨rfl, ⟨nd, rfl⟩⟩))
   go_ret
   exact ⟨rs_, d0_⟩
  ·replace c6 := Bool.eq_false_iff.mpr c6
   subst c6
   replace H : (some 0) = some r := by rw [if_neg (show ¬ (false = true) by decide)] at H; exact H
   obtain rfl := Option.some.inj H
   go_enter Try.func93, Try.ntmps93
   go_wp2_with (first | (refine goesL_ (some 6) rfl rfl Try.func74 (by kernel_rfl) rfl #[.int .i64 a1] rfl ar_ ?_; (with_reducible refine (pack_Bits.calls a1 true _ A3.out).mono ?_); rintro e w' ⟨rfl, ⟨nd, rfl⟩⟩; refine ⟨_, rfl, ?_⟩) | (go_at_call 91; (with_reducible refine (pack_many.calls a0 false _ A5.out).mono ?_); rintro e w' ⟨rfl, ⟨nd, rfl⟩⟩))
   go_ret
   exact ⟨rs_, d0_⟩
 ·replace c4 := Bool.eq_false_iff.mpr c4
  subst c4
  replace H : (some 0) = some r := by rw [if_neg (show ¬ (false = true) by decide)] at H; exact H
  obtain rfl := Option.some.inj H
  go_enter Try.func93, Try.ntmps93
  go_wp2_with (first | (refine goesL_ (some 6) rfl rfl Try.func74 (by kernel_rfl) rfl #[.int .i64 a1] rfl ar_ ?_; (with_reducible refine (pack_Bits.calls a1 false _ A3.out).mono ?_); rintro e w' ⟨rfl, ⟨nd, rfl⟩⟩; refine ⟨_, rfl, ?_⟩))
  go_ret
  exact ⟨rs_, d0_⟩
def pack_Pack.top (b : Int) : Int := if b = 2 then 4 else if b = 4 then 16 else 256
def pack_Pack.bad (b x : Int) : Bool := decide (x < 0) || decide (x ≥ pack_Pack.top b)
theorem pack_Pack.fn (x b : Int) (hb : b = 2 ∨ b = 4 ∨ b = 8) (B : Nat) (w : World) (hc : w.cell? ⟨B, 0, none⟩ = some (.int .i64 b)) :
  Calls Try.prog 92 #[.int .i64 x, .pointer (some ⟨B, 0, none⟩)] w fun e w' => e = .returned (.bool (pack_Pack.bad b x)) ∧ Drawn0 w w' := by
 by_cases h1 : x < 0
 ·have h1b : decide (x < 0) = true := decide_eq_true h1
  have E1 := A_ (show pack_Pack.bad b x = true by unfold pack_Pack.bad; rw [h1b]; rfl)
  clear h1 hb
  go_enter Try.func92, Try.ntmps92
  go_wp2
  go_ret
  exact ⟨by rw [E1.out]; rfl, Drawn0.refl _⟩
 ·have h1b : decide (x < 0) = false := decide_eq_false h1
  rcases hb with rfl | rfl | rfl
  ·have E1 := A_ (show pack_Pack.bad 2 x = decide (x ≥ 4) by unfold pack_Pack.bad; rw [h1b]; rfl)
   clear h1
   go_enter Try.func92, Try.ntmps92
   go_wp2
   go_ret
   exact ⟨by rw [E1.out]; rfl, Drawn0.refl _⟩
  ·have E1 := A_ (show pack_Pack.bad 4 x = decide (x ≥ 16) by unfold pack_Pack.bad; rw [h1b]; rfl)
   clear h1
   go_enter Try.func92, Try.ntmps92
   go_wp2
   go_ret
   exact ⟨by rw [E1.out]; rfl, Drawn0.refl _⟩
  ·have E1 := A_ (show pack_Pack.bad 8 x = decide (x ≥ 256) by unfold pack_Pack.bad; rw [h1b]; rfl)
   clear h1
   go_enter Try.func92, Try.ntmps92
   go_wp2
   go_ret
   exact ⟨by rw [E1.out]; rfl, Drawn0.refl _⟩
theorem pack_Pack.any_yes {p : Int → Bool} {l : List Int} {k : Nat} (hk : k < l.length) (h : p (rd l k) = true) : l.any p = true := by
 rw [List.any_eq_true]
 refine ⟨l[k], List.getElem_mem hk, ?_⟩
 simpa [rd, List.getD_eq_getElem?_getD, List.getElem?_eq_getElem hk] using h
theorem pack_Pack.any_no {p : Int → Bool} {l : List Int} (h : ∀ j : Nat, j < l.length → p (rd l j) = false) : l.any p = false := by
 rw [List.any_eq_false]
 intro x hx
 obtain ⟨j, hj, rfl⟩ := List.getElem_of_mem hx
 have := h j hj
 simpa [rd, List.getD_eq_getElem?_getD, List.getElem?_eq_getElem hj] using this
def pack_Pack.Ix (p : Int → Bool) (l0 : List Int) (w : World) (e : Ending) (w' : World) : Prop := ∃ r : Int, e = .returned (.int .i64 r) ∧ (decide (r ≥ 0) = l0.any p) ∧ Drawn0 w w'
theorem pack_Pack.indexFunc (b : Int) (hb : b = 2 ∨ b = 4 ∨ b = 8) (B : Nat) (A0 : Option Addr) (c0 : Nat) (l0 : List Int) (w : World) (hc : w.cell? ⟨B, 0, none⟩ = some (.int .i64 b)) (hr0 : Kd.C (Kd.int .i64) w A0 l0.length l0) (hl : l0.length ≤ 1024) :
  Calls Try.prog 94 #[.slice A0 l0.length c0, .func (.func 92) #[] #[.pointer (some ⟨B, 0, none⟩)]] w (pack_Pack.Ix (pack_Pack.bad b) l0 w) := by
 have HR0 := A_ hr0
 have HF := fun (x : Int) (m : Nat) => pack_Pack.fn x b hb B (w.drewN m) hc
 have HF := A_ HF
 clear hr0 hc hb
 generalize pack_Pack.bad b = p at HF ⊢
 go_enter Try.func94, Try.ntmps94
 go_wp2
 go_loopw [8] (fun i wr => ∃ k : Nat, k ≤ l0.length ∧ i = .int .i64 k ∧ Aside0 (∀ j : Nat, j < k → p (rd l0 j) = false) ∧ Drawn0 w wr) (fun i _ => l0.length - (intOf i).toNat)
 case atStart => exact ⟨0, Nat.zero_le _, rfl, ⟨fun j hj => absurd hj (Nat.not_lt_zero j)⟩, Drawn0.refl _⟩
 case round =>
  obtain ⟨k, hk, rfl, HA, ⟨m1, rfl⟩⟩ := hrel
  by_cases hlt : k < l0.length
  ·obtain ⟨ad, rfl, hx⟩ := Kd.at_int HR0.out (k : Int) (by omega) (by omega)
   simp only [Int.toNat_natCast] at hx
   by_cases hw : p (rd l0 k) = true
   ·have HW := A_ hw
    clear hw
    go_wp2_with ((with_reducible refine (HF.out _ _).mono ?_); rw [HW.out]; rintro e w' ⟨rfl, ⟨m2, rfl⟩⟩)
    go_ret
    exact ⟨k, rfl, by rw [pack_Pack.any_yes hlt HW.out]; simp, ⟨_, rfl⟩⟩
   ·have HW := A_ (Bool.eq_false_iff.2 hw)
    clear hw
    go_wp2_with ((with_reducible refine (HF.out _ _).mono ?_); rw [HW.out]; rintro e w' ⟨rfl, ⟨m2, rfl⟩⟩)
    go_roundw
    case rel =>
     refine ⟨k + 1, by omega, by go_num, ⟨fun j hj => ?_⟩, d0_⟩
     rcases Nat.lt_succ_iff_lt_or_eq.1 hj with h | rfl
     ·exact HA.out j h
     ·exact HW.out
    case measure => simp [intOf]; omega
  ·obtain rfl : k = l0.length := by omega
   go_wp2
   go_ret
   exact ⟨-1, rfl, by rw [pack_Pack.any_no HA.out]; rfl, ⟨_, rfl⟩⟩
theorem pack_Pack.contains (b : Int) (hb : b = 2 ∨ b = 4 ∨ b = 8) (B : Nat) (A0 : Option Addr) (c0 : Nat) (l0 : List Int) (w : World) (hc : w.cell? ⟨B, 0, none⟩ = some (.int .i64 b)) (hr0 : Kd.C (Kd.int .i64) w A0 l0.length l0) (hl : l0.length ≤ 1024) :
  Calls Try.prog 88 #[.slice A0 l0.length c0, .func (.func 92) #[] #[.pointer (some ⟨B, 0, none⟩)]] w fun e w' => e = .returned (.bool (l0.any (pack_Pack.bad b))) ∧ Drawn0 w w' := by
 have HI := A_ (pack_Pack.indexFunc b hb B A0 c0 l0 w hc hr0 hl)
 clear hr0 hc hb
 generalize pack_Pack.bad b = p at HI ⊢
 go_enter Try.func88, Try.ntmps88
 go_wp2_with ((with_reducible refine HI.out.mono ?_); rintro e w' ⟨r, rfl, hb, ⟨m1, rfl⟩⟩; have HB := A_ hb; clear hb)
 go_ret
 exact ⟨by rw [← HB.out]; rfl, ⟨_, rfl⟩⟩
theorem w64p {x : Int} (h1 : -9223372036854775808 ≤ x) (h2 : x ≤ 9223372036854775807) : wrap64 x = x := IntWalk.wrap64_in x ⟨h1, h2⟩
def pack_Pack.put (b : Int) (i : Nat) (c : Int) (out : List Int) : List Int := out.set ((i * b.toNat) / 64) (Go.bits .or .u64 (rd out (((i * b.toNat) / 64 : Nat) : Int)) (IntKind.u64.wrap (c * 2 ^ min ((i * b.toNat) % 64) 64)))
def pack_Pack.l (b : Int) : List Int → Nat → List Int → List Int
 | [], i, out => out
 | c :: cs, i, out => pack_Pack.l b cs (i + 1) (pack_Pack.put b i c out)
def pack_Pack.f (l : List Int) (b : Int) : Option (List Int × Int) := if b = 2 ∨ b = 4 ∨ b = 8 then (if l.length ≤ 256 then (if l.any (pack_Pack.bad b) then some ([], 11) else some (pack_Pack.l b l 0 (List.replicate ((l.length * b.toNat + 63) / 64) 0), 0)) else some ([], 12)) else some ([], 20)
theorem pack_Pack.main (b : Int) (hb : b = 2 ∨ b = 4 ∨ b = 8) (A0 : Option Addr) (c0 : Nat) (l0 : List Int) (w : World) (hr0 : Kd.C (Kd.int .i64) w A0 l0.length l0) (hl : l0.length ≤ 256) (hn : l0.any (pack_Pack.bad b) = false) :
  Calls Try.prog 87 #[.slice A0 l0.length c0, .int .i64 b] w fun e w' => ∃ v, e = .returned (.tuple #[v, .int .i64 0]) ∧ Kd.R (Kd.int .u64) 92 w' w.heap.size (fun _ => True) v (pack_Pack.l b l0 0 (List.replicate ((l0.length * b.toNat + 63) / 64) 0)) ∧ Below w.heap.size w w' := by
 have hbt : pack_Bits.f b = some true := by rcases hb with rfl | rfl | rfl <;> rfl
 have hmt : pack_many.f (l0.length : Int) = some true := by unfold pack_many.f; rw [if_pos (by omega)]; simp; omega
 have hwt : pack_Words.f (l0.length : Int) b = some ((((l0.length * b.toNat + 63) / 64 : Nat) : Int)) := by
  unfold pack_Words.f
  rw [hbt, Option.bind_some, if_pos rfl, hmt, Option.bind_some, if_pos rfl]
  rw [w64p (x := (l0.length : Int) * b) (by rcases hb with rfl | rfl | rfl <;> omega) (by rcases hb with rfl | rfl | rfl <;> omega), w64p (x := (l0.length : Int) * b + 64) (by rcases hb with rfl | rfl | rfl <;> omega) (by rcases hb with rfl | rfl | rfl <;> omega), w64p (x := (l0.length : Int) * b + 64 - 1) (by rcases hb with rfl | rfl | rfl <;> omega) (by rcases hb with rfl | rfl | rfl <;> omega), Int.tdiv_eq_ediv_of_nonneg (by rcases hb with rfl | rfl | rfl <;> omega), w64p (by rcases hb with rfl | rfl | rfl <;> omega) (by rcases hb with rfl | rfl | rfl <;> omega)]
  rcases hb with rfl | rfl | rfl
  ·rw [show (2 : Int).toNat = 2 from rfl]; congr 1; omega
  ·rw [show (4 : Int).toNat = 4 from rfl]; congr 1; omega
  ·rw [show (8 : Int).toNat = 8 from rfl]; congr 1; omega
 have HR0 := A_ hr0
 have HBT := A_ hbt
 have HMT := A_ hmt
 have HWT := A_ hwt
 have HHB := A_ hb
 have HN := A_ hn
 obtain ⟨nw, hnw⟩ : ∃ nw : Nat, nw = (l0.length * b.toNat + 63) / 64 := ⟨_, rfl⟩
 rw [← hnw] at HWT ⊢
 have hnw2 : nw ≤ 1000 := by
  have : b.toNat ≤ 8 := by omega
  have := Nat.mul_le_mul hl this
  omega
 have hmk := print_make (P := Try.prog) 131 92 .u64 8 Try.underlying131 (by kernel_rfl) (by omega) nw (by omega)
 clear hr0 hbt hmt hwt hb hn
 go_enter Try.func87, Try.ntmps87
 go_wp2_with fail
 refine (pack_Bits.calls b true _ HBT.out).mono ?_
 rintro e w1 ⟨rfl, ⟨m1, rfl⟩⟩
 go_wp2_with fail
 refine (pack_many.calls _ true _ HMT.out).mono ?_
 rintro e w1 ⟨rfl, ⟨m2, rfl⟩⟩
 go_wp2_with fail
 refine (pack_Pack.contains b HHB.out w.heap.size A0 c0 l0 _ ?hc ?hr (by omega)).mono ?_
 case hc => go_simp
 case hr => exact Kd.C_below HR0.out (by repeat (first | exact Below.refl _ _ | apply below_alloc | apply pw_below_drewN | apply below_drew1))
 rw [HN.out]
 rintro e w1 ⟨rfl, ⟨m3, rfl⟩⟩
 go_wp2_with fail
 refine (pack_Words.calls _ _ _ _ HWT.out).mono ?_
 rintro e w1 ⟨rfl, ⟨m4, rfl⟩⟩
 have HS := A_ hnw
 clear hnw
 go_wp2_with fail
 have HO0 := A_ (Kd.R_of_own (h1 := fun _ => rfl) (enc := Value.int .u64) (ok := fun _ => True) (xs := List.replicate nw 0) (by rw [List.length_replicate]; exact own_made ((w.alloc (.cells #[.int .i64 b] 3)).drewN (m1 + m2 + m3 + m4)) w.heap.size 92 .u64 nw (by simp) (by omega)) (fun _ _ => trivial))
 have HSZ : ((w.alloc (.cells #[.int .i64 b] 3)).drewN (m1 + m2 + m3 + m4)).heap.size = w.heap.size + 1 := by simp
 rw [HSZ] at HO0
 have BK0 : Aside0 ((((w.alloc (.cells #[.int .i64 b] 3)).drewN (m1 + m2 + m3 + m4)).alloc (.cells (madeCells #[.int .u64 0] nw) 92)).heap[w.heap.size]? = some (.cells #[.int .i64 b] 3 (0, 0))) := ⟨blk_alloc (blk_drewN (Go.Deep.blk_alloc_new _ _) _) _⟩
 have HB0 : Aside0 (Below w.heap.size w (((w.alloc (.cells #[.int .i64 b] 3)).drewN (m1 + m2 + m3 + m4)).alloc (.cells (madeCells #[.int .u64 0] nw) 92))) := ⟨below_alloc (pw_below_drewN (below_alloc (Below.refl _ _) _) _) _⟩
 go_loopw [30] (fun i wr => ∃ (k : Nat) (out : List Int), k ≤ l0.length ∧ i = .int .i64 k ∧ Aside0 (out.length = nw ∧ pack_Pack.l b (l0.drop k) k out = pack_Pack.l b l0 0 (List.replicate nw 0)) ∧ Aside0 (Kd.R (Kd.int .u64) 92 wr w.heap.size (fun _ => True) (.slice (some ⟨w.heap.size + 1, 0, none⟩) nw nw) out) ∧ Aside0 (wr.heap[w.heap.size]? = some (.cells #[.int .i64 b] 3 (0, 0))) ∧ Aside0 (Below w.heap.size w wr)) (fun i _ => l0.length - (intOf i).toNat)
 case atStart => exact ⟨0, List.replicate nw 0, Nat.zero_le _, rfl, ⟨by simp, by simp⟩, HO0, BK0, HB0⟩
 case round =>
  obtain ⟨k, out, hk, rfl, HL, HO, BK, HB⟩ := hrel
  by_cases hlt : k < l0.length
  ·obtain ⟨ad, rfl, hx⟩ := Kd.at_int (Kd.C_below HR0.out HB.out) (k : Int) (by omega) (by omega)
   have hbx := c0_ BK.out
   clear HO0 BK0 HB0
   simp only [Int.toNat_natCast] at hx
   have h8 := HS.out
   rcases HHB.out with rfl | rfl | rfl
   ·obtain ⟨q, hq⟩ : ∃ q : Nat, q = k * 2 / 64 := ⟨_, rfl⟩
    obtain ⟨r, hr⟩ : ∃ r : Nat, r = k * 2 % 64 := ⟨_, rfl⟩
    have hq1 : Int.tdiv ((k : Int) * 2) 64 = (q : Int) := by rw [Int.tdiv_eq_ediv_of_nonneg (by omega)]; omega
    have hr1 : Int.tmod ((k : Int) * 2) 64 = (r : Int) := by rw [Int.tmod_eq_emod_of_nonneg (by omega)]; omega
    have hqn : q < nw := by have e2 : (2 : Int).toNat = 2 := rfl; rw [e2] at h8; omega
    obtain ⟨hw1, hw2⟩ := Kd.R_celln (0 : Int) HO.out (q : Int) (by omega) (by omega)
    simp only [Int.toNat_natCast] at hw1 hw2
    have hqz : (q : Int) < (nw : Int) := by omega
    have HQ := A_ hq
    have HR := A_ hr
    clear hq hr h8
    generalize hX : rdOf (0 : Int) out (q : Int) = X at hw1
    have hgood : pack_Pack.bad 2 (rd l0 (k : Int)) = false := by
     have := List.any_eq_false.1 HN.out (l0[k]) (List.getElem_mem hlt)
     have e : rd l0 (k : Int) = l0[k] := by simp [rd, List.getD_eq_getElem?_getD, List.getElem?_eq_getElem hlt]
     rw [e]
     exact Bool.eq_false_iff.2 this
    generalize hC : rd l0 (k : Int) = C at hx hgood
    have hC01 : 0 ≤ C ∧ C < 4 := by
     unfold pack_Pack.bad at hgood
     rw [Bool.or_eq_false_iff, decide_eq_false_iff_not, decide_eq_false_iff_not] at hgood
     have : pack_Pack.top 2 = 4 := rfl
     omega
    obtain ⟨hC0, hC1⟩ := hC01
    clear hgood
    have HX := A_ hX
    have HC := A_ hC
    clear hX hC
    go_wp2_with fail
    go_region
    go_wp2
    go_roundw
    case rel =>
     have e2 : (2 : Int).toNat = 2 := rfl
     have hp := (Kd.R_putg HO.out (q : Int) (Go.bits .or .u64 X (IntKind.u64.wrap (C * 2 ^ min r 64)))).1
     rw [Int.toNat_natCast] at hp
     refine ⟨k + 1, out.set q (Go.bits .or .u64 X (IntKind.u64.wrap (C * 2 ^ min r 64))), by omega, by go_num, ⟨by rw [List.length_set]; exact HL.out.1, ?_⟩, ⟨Kd.R_drew hp⟩, ⟨blk_drew (blk_far BK.out (p := ⟨w.heap.size + 1, q, none⟩) (show w.heap.size ≠ w.heap.size + 1 by omega) _)⟩, ⟨below_drew1 (below_set HB.out (show w.heap.size ≤ w.heap.size + 1 by omega))⟩⟩
     rw [← HL.out.2, List.drop_eq_getElem_cons hlt, pack_Pack.l]
     unfold pack_Pack.put
     have ec : C = l0[k] := by rw [← HC.out]; simp [rd, List.getD_eq_getElem?_getD, List.getElem?_eq_getElem hlt]
     rw [e2, ← HQ.out, ← HR.out, ← ec, ← HX.out]
     rfl
    case measure => simp [intOf]; omega
   ·obtain ⟨q, hq⟩ : ∃ q : Nat, q = k * 4 / 64 := ⟨_, rfl⟩
    obtain ⟨r, hr⟩ : ∃ r : Nat, r = k * 4 % 64 := ⟨_, rfl⟩
    have hq1 : Int.tdiv ((k : Int) * 4) 64 = (q : Int) := by rw [Int.tdiv_eq_ediv_of_nonneg (by omega)]; omega
    have hr1 : Int.tmod ((k : Int) * 4) 64 = (r : Int) := by rw [Int.tmod_eq_emod_of_nonneg (by omega)]; omega
    have hqn : q < nw := by have e2 : (4 : Int).toNat = 4 := rfl; rw [e2] at h8; omega
    obtain ⟨hw1, hw2⟩ := Kd.R_celln (0 : Int) HO.out (q : Int) (by omega) (by omega)
    simp only [Int.toNat_natCast] at hw1 hw2
    have hqz : (q : Int) < (nw : Int) := by omega
    have HQ := A_ hq
    have HR := A_ hr
    clear hq hr h8
    generalize hX : rdOf (0 : Int) out (q : Int) = X at hw1
    have hgood : pack_Pack.bad 4 (rd l0 (k : Int)) = false := by
     have := List.any_eq_false.1 HN.out (l0[k]) (List.getElem_mem hlt)
     have e : rd l0 (k : Int) = l0[k] := by simp [rd, List.getD_eq_getElem?_getD, List.getElem?_eq_getElem hlt]
     rw [e]
     exact Bool.eq_false_iff.2 this
    generalize hC : rd l0 (k : Int) = C at hx hgood
    have hC01 : 0 ≤ C ∧ C < 16 := by
     unfold pack_Pack.bad at hgood
     rw [Bool.or_eq_false_iff, decide_eq_false_iff_not, decide_eq_false_iff_not] at hgood
     have : pack_Pack.top 4 = 16 := rfl
     omega
    obtain ⟨hC0, hC1⟩ := hC01
    clear hgood
    have HX := A_ hX
    have HC := A_ hC
    clear hX hC
    go_wp2_with fail
    go_region
    go_wp2
    go_roundw
    case rel =>
     have e2 : (4 : Int).toNat = 4 := rfl
     have hp := (Kd.R_putg HO.out (q : Int) (Go.bits .or .u64 X (IntKind.u64.wrap (C * 2 ^ min r 64)))).1
     rw [Int.toNat_natCast] at hp
     refine ⟨k + 1, out.set q (Go.bits .or .u64 X (IntKind.u64.wrap (C * 2 ^ min r 64))), by omega, by go_num, ⟨by rw [List.length_set]; exact HL.out.1, ?_⟩, ⟨Kd.R_drew hp⟩, ⟨blk_drew (blk_far BK.out (p := ⟨w.heap.size + 1, q, none⟩) (show w.heap.size ≠ w.heap.size + 1 by omega) _)⟩, ⟨below_drew1 (below_set HB.out (show w.heap.size ≤ w.heap.size + 1 by omega))⟩⟩
     rw [← HL.out.2, List.drop_eq_getElem_cons hlt, pack_Pack.l]
     unfold pack_Pack.put
     have ec : C = l0[k] := by rw [← HC.out]; simp [rd, List.getD_eq_getElem?_getD, List.getElem?_eq_getElem hlt]
     rw [e2, ← HQ.out, ← HR.out, ← ec, ← HX.out]
     rfl
    case measure => simp [intOf]; omega
   ·obtain ⟨q, hq⟩ : ∃ q : Nat, q = k * 8 / 64 := ⟨_, rfl⟩
    obtain ⟨r, hr⟩ : ∃ r : Nat, r = k * 8 % 64 := ⟨_, rfl⟩
    have hq1 : Int.tdiv ((k : Int) * 8) 64 = (q : Int) := by rw [Int.tdiv_eq_ediv_of_nonneg (by omega)]; omega
    have hr1 : Int.tmod ((k : Int) * 8) 64 = (r : Int) := by rw [Int.tmod_eq_emod_of_nonneg (by omega)]; omega
    have hqn : q < nw := by have e2 : (8 : Int).toNat = 8 := rfl; rw [e2] at h8; omega
    obtain ⟨hw1, hw2⟩ := Kd.R_celln (0 : Int) HO.out (q : Int) (by omega) (by omega)
    simp only [Int.toNat_natCast] at hw1 hw2
    have hqz : (q : Int) < (nw : Int) := by omega
    have HQ := A_ hq
    have HR := A_ hr
    clear hq hr h8
    generalize hX : rdOf (0 : Int) out (q : Int) = X at hw1
    have hgood : pack_Pack.bad 8 (rd l0 (k : Int)) = false := by
     have := List.any_eq_false.1 HN.out (l0[k]) (List.getElem_mem hlt)
     have e : rd l0 (k : Int) = l0[k] := by simp [rd, List.getD_eq_getElem?_getD, List.getElem?_eq_getElem hlt]
     rw [e]
     exact Bool.eq_false_iff.2 this
    generalize hC : rd l0 (k : Int) = C at hx hgood
    have hC01 : 0 ≤ C ∧ C < 256 := by
     unfold pack_Pack.bad at hgood
     rw [Bool.or_eq_false_iff, decide_eq_false_iff_not, decide_eq_false_iff_not] at hgood
     have : pack_Pack.top 8 = 256 := rfl
     omega
    obtain ⟨hC0, hC1⟩ := hC01
    clear hgood
    have HX := A_ hX
    have HC := A_ hC
    clear hX hC
    go_wp2_with fail
    go_region
    go_wp2
    go_roundw
    case rel =>
     have e2 : (8 : Int).toNat = 8 := rfl
     have hp := (Kd.R_putg HO.out (q : Int) (Go.bits .or .u64 X (IntKind.u64.wrap (C * 2 ^ min r 64)))).1
     rw [Int.toNat_natCast] at hp
     refine ⟨k + 1, out.set q (Go.bits .or .u64 X (IntKind.u64.wrap (C * 2 ^ min r 64))), by omega, by go_num, ⟨by rw [List.length_set]; exact HL.out.1, ?_⟩, ⟨Kd.R_drew hp⟩, ⟨blk_drew (blk_far BK.out (p := ⟨w.heap.size + 1, q, none⟩) (show w.heap.size ≠ w.heap.size + 1 by omega) _)⟩, ⟨below_drew1 (below_set HB.out (show w.heap.size ≤ w.heap.size + 1 by omega))⟩⟩
     rw [← HL.out.2, List.drop_eq_getElem_cons hlt, pack_Pack.l]
     unfold pack_Pack.put
     have ec : C = l0[k] := by rw [← HC.out]; simp [rd, List.getD_eq_getElem?_getD, List.getElem?_eq_getElem hlt]
     rw [e2, ← HQ.out, ← HR.out, ← ec, ← HX.out]
     rfl
    case measure => simp [intOf]; omega
  ·obtain rfl : k = l0.length := by omega
   clear HO0 BK0 HB0
   go_wp2
   go_ret2
   refine ⟨_, rfl, ?_, HB.out⟩
   have := HL.out.2
   rw [List.drop_length] at this
   rw [← this]
   exact HO.out
theorem pack_Pack.calls (A0 : Option Addr) (c0 : Nat) (l0 : List Int) (a1 : Int) (r1 : List Int) (r2 : Int) (w : World) (hr0 : Kd.C (Kd.int .i64) w A0 l0.length l0) (hc0 : l0.length ≤ c0) (h : pack_Pack.f l0 a1 = some (r1, r2)) :
  Calls Try.prog 87 #[.slice A0 l0.length c0, .int .i64 a1] w fun e w' => ∃ v0_ : Value, e = .returned (.tuple #[v0_, .int .i64 r2]) ∧ Kd.R (Kd.int .u64) 92 w' w.heap.size (fun _ => True) v0_ r1 ∧ Below w.heap.size w w' := by
 unfold pack_Pack.f at h
 have HR0 := A_ hr0
 by_cases hb : a1 = 2 ∨ a1 = 4 ∨ a1 = 8
 ·rw [if_pos hb] at h
  have hbt : pack_Bits.f a1 = some true := by rcases hb with rfl | rfl | rfl <;> rfl
  by_cases hl : l0.length ≤ 256
  ·rw [if_pos hl] at h
   have hmt : pack_many.f (l0.length : Int) = some true := by unfold pack_many.f; rw [if_pos (by omega)]; simp; omega
   by_cases hn : l0.any (pack_Pack.bad a1) = true
   ·rw [if_pos hn] at h
    simp only [Option.some.injEq, Prod.mk.injEq] at h
    obtain ⟨rfl, rfl⟩ := h
    have HBT := A_ hbt
    have HMT := A_ hmt
    have HHB := A_ hb
    have HN := A_ hn
    clear hr0 hbt hmt hb hn
    go_enter Try.func87, Try.ntmps87
    go_wp2_with fail
    refine (pack_Bits.calls a1 true _ HBT.out).mono ?_
    rintro e w1 ⟨rfl, ⟨m1, rfl⟩⟩
    go_wp2_with fail
    refine (pack_many.calls _ true _ HMT.out).mono ?_
    rintro e w1 ⟨rfl, ⟨m2, rfl⟩⟩
    go_wp2_with fail
    refine (pack_Pack.contains a1 HHB.out w.heap.size A0 c0 l0 _ ?hc ?hr (by omega)).mono ?_
    case hc => go_simp
    case hr => exact Kd.C_below HR0.out (by repeat (first | exact Below.refl _ _ | apply below_alloc | apply pw_below_drewN | apply below_drew1))
    rw [HN.out]
    rintro e w1 ⟨rfl, ⟨m3, rfl⟩⟩
    go_wp2_with fail
    go_ret2
    exact ⟨_, rfl, Kd.R_nil _ _ _ _ _, by repeat (first | exact Below.refl _ _ | apply below_alloc | apply pw_below_drewN | apply below_drew1)⟩
   ·rw [if_neg hn] at h
    simp only [Option.some.injEq, Prod.mk.injEq] at h
    obtain ⟨rfl, rfl⟩ := h
    exact pack_Pack.main a1 hb A0 c0 l0 w hr0 hl (Bool.eq_false_iff.2 hn)
  ·rw [if_neg hl] at h
   simp only [Option.some.injEq, Prod.mk.injEq] at h
   obtain ⟨rfl, rfl⟩ := h
   have hmt : pack_many.f (l0.length : Int) = some false := by unfold pack_many.f; rw [if_pos (by omega)]; simp; omega
   have HBT := A_ hbt
   have HMT := A_ hmt
   clear hr0 hbt hmt hb
   go_enter Try.func87, Try.ntmps87
   go_wp2_with fail
   refine (pack_Bits.calls a1 true _ HBT.out).mono ?_
   rintro e w1 ⟨rfl, ⟨m1, rfl⟩⟩
   go_wp2_with fail
   refine (pack_many.calls _ false _ HMT.out).mono ?_
   rintro e w1 ⟨rfl, ⟨m2, rfl⟩⟩
   go_wp2_with fail
   go_ret2
   exact ⟨_, rfl, Kd.R_nil _ _ _ _ _, by repeat (first | exact Below.refl _ _ | apply below_alloc | apply pw_below_drewN | apply below_drew1)⟩
 ·rw [if_neg hb] at h
  simp only [Option.some.injEq, Prod.mk.injEq] at h
  obtain ⟨rfl, rfl⟩ := h
  have hbt : pack_Bits.f a1 = some false := by
   unfold pack_Bits.f
   rw [if_neg (by omega), if_neg (by omega)]
   congr 1
   exact beq_eq_false_iff_ne.2 (by omega)
  have HBT := A_ hbt
  clear hr0 hbt hb
  go_enter Try.func87, Try.ntmps87
  go_wp2_with fail
  refine (pack_Bits.calls a1 false _ HBT.out).mono ?_
  rintro e w1 ⟨rfl, ⟨m1, rfl⟩⟩
  go_wp2_with fail
  go_ret2
  exact ⟨_, rfl, Kd.R_nil _ _ _ _ _, by repeat (first | exact Below.refl _ _ | apply below_alloc | apply pw_below_drewN | apply below_drew1)⟩
def pack_Lane.f (l0 : List Int) (a1 : Int) (a2 : Int) : Option (Int) := (pack_Bits.f a2).bind fun t581 => (if t581 = true then (if a1 < 0 then (some 0) else (if a2 = 0 then (none) else (if a1 ≥ (wrap64 ((l0.length : Int) * (wrap64 (Int.tdiv 64 a2)))) then (some 0) else (if 0 ≤ (wrap64 (Int.tdiv (wrap64 (a1 * a2)) 64)) then (if (wrap64 (Int.tdiv (wrap64 (a1 * a2)) 64)) < (l0.length : Int) then (if 0 ≤ (Int.tmod (wrap64 (a1 * a2)) 64) then (if 0 ≤ a2 then (some (wrap64 (Go.bits .and .u64 (shr .u64 (rd l0 (wrap64 (Int.tdiv (wrap64 (a1 * a2)) 64))) (Int.tmod (wrap64 (a1 * a2)) 64)) (IntKind.u64.wrap ((shl .u64 1 a2) - 1))))) else (none)) else (none)) else (none)) else (none))))) else (some 0))
theorem pack_Lane.calls (A0 : Option Addr) (c0 : Nat) (l0 : List Int) (a1 : Int) (a2 : Int) (r : Int) (w : World) (hr0 : Kd.C (Kd.int .u64) w A0 l0.length l0) (hc0 : l0.length ≤ c0) (h : pack_Lane.f l0 a1 a2 = some r) :
  Calls Try.prog 118 #[.slice A0 l0.length c0, .int .i64 a1, .int .i64 a2] w fun e w' => e = .returned (.int .i64 r) ∧ Drawn0 w w' := by
 have HR0 := A_ hr0
 have HC0 := A_ hc0
 clear hr0 hc0
 have H := h
 unfold pack_Lane.f at H
 clear h
 replace H := ob_ H
 obtain ⟨t581, A4, H⟩ := H
 try dsimp only at H
 by_cases c5 : t581 = true
 ·subst c5
  replace H : (if a1 < 0 then (some 0) else (if a2 = 0 then (none) else (if a1 ≥ (wrap64 ((l0.length : Int) * (wrap64 (Int.tdiv 64 a2)))) then (some 0) else (if 0 ≤ (wrap64 (Int.tdiv (wrap64 (a1 * a2)) 64)) then (if (wrap64 (Int.tdiv (wrap64 (a1 * a2)) 64)) < (l0.length : Int) then (if 0 ≤ (Int.tmod (wrap64 (a1 * a2)) 64) then (if 0 ≤ a2 then (some (wrap64 (Go.bits .and .u64 (shr .u64 (rd l0 (wrap64 (Int.tdiv (wrap64 (a1 * a2)) 64))) (Int.tmod (wrap64 (a1 * a2)) 64)) (IntKind.u64.wrap ((shl .u64 1 a2) - 1))))) else (none)) else (none)) else (none)) else (none))))) = some r := by rw [if_pos rfl] at H; exact H
  by_cases c6 : a1 < 0
  ·rw [if_pos c6] at H
   have c6b0 : decide (a1 < 0) = true := decide_eq_true c6
   clear c6
   obtain rfl := Option.some.inj H
   go_enter Try.func118, Try.ntmps118
   go_wp2_with (first | (go_at_call 74; (with_reducible refine (pack_Bits.calls a2 true _ A4.out).mono ?_); rintro e w' ⟨rfl, ⟨nd, rfl⟩⟩; (try exact dd_)))
   repeat (go_quiet (first | (go_at_call 74; (with_reducible refine (pack_Bits.calls a2 true _ A4.out).mono ?_); rintro e w' ⟨rfl, ⟨nd, rfl⟩⟩; (try exact dd_))); try go_wp2_with (first | (go_at_call 74; (with_reducible refine (pack_Bits.calls a2 true _ A4.out).mono ?_); rintro e w' ⟨rfl, ⟨nd, rfl⟩⟩; (try exact dd_))))
   go_ret
   exact ⟨rs_, d0_⟩
  ·rw [if_neg c6] at H
   have c6b0 : decide (a1 < 0) = false := decide_eq_false c6
   clear c6
   by_cases c7 : a2 = 0
   ·rw [if_pos c7] at H
    exact absurd H (by simp)
   ·rw [if_neg c7] at H
    have c7b0 : (a2 == 0) = false := beq_eq_false_iff_ne.mpr c7
    have c7b1 : (a2 != 0) = true := bne_iff_ne.mpr c7
    by_cases c8 : a1 ≥ (wrap64 ((l0.length : Int) * (wrap64 (Int.tdiv 64 a2))))
    ·rw [if_pos c8] at H
     have c8b0 : decide ((wrap64 ((l0.length : Int) * (wrap64 (Int.tdiv 64 a2)))) ≤ a1) = true := decide_eq_true c8
     clear c8
     obtain rfl := Option.some.inj H
     go_enter Try.func118, Try.ntmps118
     go_wp2_with (first | (go_at_call 74; (with_reducible refine (pack_Bits.calls a2 true _ A4.out).mono ?_); rintro e w' ⟨rfl, ⟨nd, rfl⟩⟩; (try exact dd_)))
     repeat (go_quiet (first | (go_at_call 74; (with_reducible refine (pack_Bits.calls a2 true _ A4.out).mono ?_); rintro e w' ⟨rfl, ⟨nd, rfl⟩⟩; (try exact dd_))); try go_wp2_with (first | (go_at_call 74; (with_reducible refine (pack_Bits.calls a2 true _ A4.out).mono ?_); rintro e w' ⟨rfl, ⟨nd, rfl⟩⟩; (try exact dd_))))
     go_ret
     exact ⟨rs_, d0_⟩
    ·rw [if_neg c8] at H
     have c8b0 : decide ((wrap64 ((l0.length : Int) * (wrap64 (Int.tdiv 64 a2)))) ≤ a1) = false := decide_eq_false c8
     clear c8
     obtain ⟨ji9, hji9⟩ : ∃ j_ : Int, (wrap64 (Int.tdiv (wrap64 (a1 * a2)) 64)) = j_ := ⟨_, rfl⟩
     replace H : (if 0 ≤ (ji9) then (if (ji9) < (l0.length : Int) then (if 0 ≤ (Int.tmod (wrap64 (a1 * a2)) 64) then (if 0 ≤ a2 then (some (wrap64 (Go.bits .and .u64 (shr .u64 (rd l0 (ji9)) (Int.tmod (wrap64 (a1 * a2)) 64)) (IntKind.u64.wrap ((shl .u64 1 a2) - 1))))) else (none)) else (none)) else (none)) else (none)) = some r := by first | (rw [hji9] at H; exact H) | (simp only [hji9] at H ⊢; exact H)
     (try rw [hji9] at A4)
     have hji9w : (IntKind.i64.wrap (Int.tdiv (wrap64 (a1 * a2)) 64)) = ji9 := (i64_w _).trans hji9
     by_cases c10 : 0 ≤ (ji9)
     ·rw [if_pos c10] at H
      have c10b0 : decide (0 ≤ (ji9)) = true := decide_eq_true c10
      clear c10
      by_cases c11 : (ji9) < (l0.length : Int)
      ·rw [if_pos c11] at H
       have c11b0 : decide ((ji9) < (l0.length : Int)) = true := decide_eq_true c11
       clear c11
       obtain ⟨ji12, hji12⟩ : ∃ j_ : Int, (Int.tmod (wrap64 (a1 * a2)) 64) = j_ := ⟨_, rfl⟩
       replace H : (if 0 ≤ (ji12) then (if 0 ≤ a2 then (some (wrap64 (Go.bits .and .u64 (shr .u64 (rd l0 (ji9)) (ji12)) (IntKind.u64.wrap ((shl .u64 1 a2) - 1))))) else (none)) else (none)) = some r := by first | (rw [hji12] at H; exact H) | (simp only [hji12] at H ⊢; exact H)
       (try rw [hji12] at A4)
       by_cases c13 : 0 ≤ (ji12)
       ·rw [if_pos c13] at H
        have c13b0 := eq_true c13
        have c13b1 : decide (0 ≤ (ji12)) = true := decide_eq_true c13
        clear c13
        obtain ⟨ji14, hji14⟩ : ∃ j_ : Int, (shr .u64 (rd l0 (ji9)) (ji12)) = j_ := ⟨_, rfl⟩
        replace H : (if 0 ≤ a2 then (some (wrap64 (Go.bits .and .u64 (ji14) (IntKind.u64.wrap ((shl .u64 1 a2) - 1))))) else (none)) = some r := by first | (rw [hji14] at H; exact H) | (simp only [hji14] at H ⊢; exact H)
        (try rw [hji14] at A4)
        have hji14_ : ((rd l0 (ji9)) / 2 ^ min (ji12).toNat 64) = ji14 := hji14
        have hji14z : (ji12) ≤ 64 → ((rd l0 (ji9)) / 2 ^ (ji12).toNat) = ji14 := shr_small hji14
        by_cases c15 : 0 ≤ a2
        ·rw [if_pos c15] at H
         have c15b0 := eq_true c15
         have c15b1 : decide (0 ≤ a2) = true := decide_eq_true c15
         clear c15
         obtain ⟨ji16, hji16⟩ : ∃ j_ : Int, (shl .u64 1 a2) = j_ := ⟨_, rfl⟩
         replace H : (some (wrap64 (Go.bits .and .u64 (ji14) (IntKind.u64.wrap ((ji16) - 1))))) = some r := by first | (rw [hji16] at H; exact H) | (simp only [hji16] at H ⊢; exact H)
         (try rw [hji16] at A4)
         have hji16_ : (IntKind.u64.wrap (1 * 2 ^ min a2.toNat 64)) = ji16 := hji16
         have hji16z : a2 ≤ 64 → (IntKind.u64.wrap (1 * 2 ^ a2.toNat)) = ji16 := shl_small hji16
         have hji16u : (IntKind.u64.wrap (2 ^ min a2.toNat 64)) = ji16 := by have h_ := hji16_; rw [Int.one_mul] at h_; exact h_
         have hji16v : a2 ≤ 64 → (IntKind.u64.wrap (2 ^ a2.toNat)) = ji16 := fun hle_ => by have h_ := hji16z hle_; rw [Int.one_mul] at h_; exact h_
         obtain rfl := Option.some.inj H
         go_enter Try.func118, Try.ntmps118
         go_wp2_with (first | (go_at_call 74; (with_reducible refine (pack_Bits.calls a2 true _ A4.out).mono ?_); rintro e w' ⟨rfl, ⟨nd, rfl⟩⟩; (try exact dd_); have p582 : 0 ≤ ((ji9) : Int) := od_; have q582 : (ji9) < (l0.length : Int) := od_; obtain ⟨ad582, e582, hx582_0⟩ := Kd.at_int HR0.out (ji9) p582 q582; cases e582; replace p582 := eq_true p582; replace q582 := eq_true q582))
         repeat (go_quiet (first | (go_at_call 74; (with_reducible refine (pack_Bits.calls a2 true _ A4.out).mono ?_); rintro e w' ⟨rfl, ⟨nd, rfl⟩⟩; (try exact dd_); have p582 : 0 ≤ ((ji9) : Int) := od_; have q582 : (ji9) < (l0.length : Int) := od_; obtain ⟨ad582, e582, hx582_0⟩ := Kd.at_int HR0.out (ji9) p582 q582; cases e582; replace p582 := eq_true p582; replace q582 := eq_true q582)); try go_wp2_with (first | (go_at_call 74; (with_reducible refine (pack_Bits.calls a2 true _ A4.out).mono ?_); rintro e w' ⟨rfl, ⟨nd, rfl⟩⟩; (try exact dd_); have p582 : 0 ≤ ((ji9) : Int) := od_; have q582 : (ji9) < (l0.length : Int) := od_; obtain ⟨ad582, e582, hx582_0⟩ := Kd.at_int HR0.out (ji9) p582 q582; cases e582; replace p582 := eq_true p582; replace q582 := eq_true q582)))
         go_ret
         exact ⟨by first | rfl | (simp; done) | (simp only [← hji9, ← hji12, ← hji14, ← hji16] <;> (first | rfl | simp)) | (simp [*]; done), d0_⟩
        ·rw [if_neg c15] at H
         exact absurd H (by simp)
       ·rw [if_neg c13] at H
        exact absurd H (by simp)
      ·rw [if_neg c11] at H
       exact absurd H (by simp)
     ·rw [if_neg c10] at H
      exact absurd H (by simp)
 ·replace c5 := Bool.eq_false_iff.mpr c5
  subst c5
  replace H : (some 0) = some r := by rw [if_neg (show ¬ (false = true) by decide)] at H; exact H
  obtain rfl := Option.some.inj H
  go_enter Try.func118, Try.ntmps118
  go_wp2_with (first | (go_at_call 74; (with_reducible refine (pack_Bits.calls a2 false _ A4.out).mono ?_); rintro e w' ⟨rfl, ⟨nd, rfl⟩⟩; (try exact dd_)))
  repeat (go_quiet (first | (go_at_call 74; (with_reducible refine (pack_Bits.calls a2 false _ A4.out).mono ?_); rintro e w' ⟨rfl, ⟨nd, rfl⟩⟩; (try exact dd_))); try go_wp2_with (first | (go_at_call 74; (with_reducible refine (pack_Bits.calls a2 false _ A4.out).mono ?_); rintro e w' ⟨rfl, ⟨nd, rfl⟩⟩; (try exact dd_))))
  go_ret
  exact ⟨rs_, d0_⟩
def group_Right.top (b : Int) : Int := if b = 2 then 4 else if b = 4 then 16 else 256
def group_Right.bad (b x : Int) : Bool := decide (x < 0) || decide (x ≥ group_Right.top b)
theorem group_Right.fn (x b : Int) (hb : b = 2 ∨ b = 4 ∨ b = 8) (B : Nat) (w : World) (hc : w.cell? ⟨B, 0, none⟩ = some (.int .i64 b)) :
  Calls Try.prog 90 #[.int .i64 x, .pointer (some ⟨B, 0, none⟩)] w fun e w' => e = .returned (.bool (group_Right.bad b x)) ∧ Drawn0 w w' := by
 by_cases h1 : x < 0
 ·have h1b : decide (x < 0) = true := decide_eq_true h1
  have E1 := A_ (show group_Right.bad b x = true by unfold group_Right.bad; rw [h1b]; rfl)
  clear h1 hb
  go_enter Try.func90, Try.ntmps90
  go_wp2
  go_ret
  exact ⟨by rw [E1.out]; rfl, Drawn0.refl _⟩
 ·have h1b : decide (x < 0) = false := decide_eq_false h1
  rcases hb with rfl | rfl | rfl
  ·have E1 := A_ (show group_Right.bad 2 x = decide (x ≥ 4) by unfold group_Right.bad; rw [h1b]; rfl)
   clear h1
   go_enter Try.func90, Try.ntmps90
   go_wp2
   go_ret
   exact ⟨by rw [E1.out]; rfl, Drawn0.refl _⟩
  ·have E1 := A_ (show group_Right.bad 4 x = decide (x ≥ 16) by unfold group_Right.bad; rw [h1b]; rfl)
   clear h1
   go_enter Try.func90, Try.ntmps90
   go_wp2
   go_ret
   exact ⟨by rw [E1.out]; rfl, Drawn0.refl _⟩
  ·have E1 := A_ (show group_Right.bad 8 x = decide (x ≥ 256) by unfold group_Right.bad; rw [h1b]; rfl)
   clear h1
   go_enter Try.func90, Try.ntmps90
   go_wp2
   go_ret
   exact ⟨by rw [E1.out]; rfl, Drawn0.refl _⟩
theorem group_Right.any_yes {p : Int → Bool} {l : List Int} {k : Nat} (hk : k < l.length) (h : p (rd l k) = true) : l.any p = true := by
 rw [List.any_eq_true]
 refine ⟨l[k], List.getElem_mem hk, ?_⟩
 simpa [rd, List.getD_eq_getElem?_getD, List.getElem?_eq_getElem hk] using h
theorem group_Right.any_no {p : Int → Bool} {l : List Int} (h : ∀ j : Nat, j < l.length → p (rd l j) = false) : l.any p = false := by
 rw [List.any_eq_false]
 intro x hx
 obtain ⟨j, hj, rfl⟩ := List.getElem_of_mem hx
 have := h j hj
 simpa [rd, List.getD_eq_getElem?_getD, List.getElem?_eq_getElem hj] using this
def group_Right.Ix (p : Int → Bool) (l0 : List Int) (w : World) (e : Ending) (w' : World) : Prop := ∃ r : Int, e = .returned (.int .i64 r) ∧ (decide (r ≥ 0) = l0.any p) ∧ Drawn0 w w'
theorem group_Right.indexFunc (b : Int) (hb : b = 2 ∨ b = 4 ∨ b = 8) (B : Nat) (A0 : Option Addr) (c0 : Nat) (l0 : List Int) (w : World) (hc : w.cell? ⟨B, 0, none⟩ = some (.int .i64 b)) (hr0 : Kd.C (Kd.int .i64) w A0 l0.length l0) (hl : l0.length ≤ 1024) :
  Calls Try.prog 94 #[.slice A0 l0.length c0, .func (.func 90) #[] #[.pointer (some ⟨B, 0, none⟩)]] w (group_Right.Ix (group_Right.bad b) l0 w) := by
 have HR0 := A_ hr0
 have HF := fun (x : Int) (m : Nat) => group_Right.fn x b hb B (w.drewN m) hc
 have HF := A_ HF
 clear hr0 hc hb
 generalize group_Right.bad b = p at HF ⊢
 go_enter Try.func94, Try.ntmps94
 go_wp2
 go_loopw [8] (fun i wr => ∃ k : Nat, k ≤ l0.length ∧ i = .int .i64 k ∧ Aside0 (∀ j : Nat, j < k → p (rd l0 j) = false) ∧ Drawn0 w wr) (fun i _ => l0.length - (intOf i).toNat)
 case atStart => exact ⟨0, Nat.zero_le _, rfl, ⟨fun j hj => absurd hj (Nat.not_lt_zero j)⟩, Drawn0.refl _⟩
 case round =>
  obtain ⟨k, hk, rfl, HA, ⟨m1, rfl⟩⟩ := hrel
  by_cases hlt : k < l0.length
  ·obtain ⟨ad, rfl, hx⟩ := Kd.at_int HR0.out (k : Int) (by omega) (by omega)
   simp only [Int.toNat_natCast] at hx
   by_cases hw : p (rd l0 k) = true
   ·have HW := A_ hw
    clear hw
    go_wp2_with ((with_reducible refine (HF.out _ _).mono ?_); rw [HW.out]; rintro e w' ⟨rfl, ⟨m2, rfl⟩⟩)
    go_ret
    exact ⟨k, rfl, by rw [group_Right.any_yes hlt HW.out]; simp, ⟨_, rfl⟩⟩
   ·have HW := A_ (Bool.eq_false_iff.2 hw)
    clear hw
    go_wp2_with ((with_reducible refine (HF.out _ _).mono ?_); rw [HW.out]; rintro e w' ⟨rfl, ⟨m2, rfl⟩⟩)
    go_roundw
    case rel =>
     refine ⟨k + 1, by omega, by go_num, ⟨fun j hj => ?_⟩, d0_⟩
     rcases Nat.lt_succ_iff_lt_or_eq.1 hj with h | rfl
     ·exact HA.out j h
     ·exact HW.out
    case measure => simp [intOf]; omega
  ·obtain rfl : k = l0.length := by omega
   go_wp2
   go_ret
   exact ⟨-1, rfl, by rw [group_Right.any_no HA.out]; rfl, ⟨_, rfl⟩⟩
theorem group_Right.contains (b : Int) (hb : b = 2 ∨ b = 4 ∨ b = 8) (B : Nat) (A0 : Option Addr) (c0 : Nat) (l0 : List Int) (w : World) (hc : w.cell? ⟨B, 0, none⟩ = some (.int .i64 b)) (hr0 : Kd.C (Kd.int .i64) w A0 l0.length l0) (hl : l0.length ≤ 1024) :
  Calls Try.prog 88 #[.slice A0 l0.length c0, .func (.func 90) #[] #[.pointer (some ⟨B, 0, none⟩)]] w fun e w' => e = .returned (.bool (l0.any (group_Right.bad b))) ∧ Drawn0 w w' := by
 have HI := A_ (group_Right.indexFunc b hb B A0 c0 l0 w hc hr0 hl)
 clear hr0 hc hb
 generalize group_Right.bad b = p at HI ⊢
 go_enter Try.func88, Try.ntmps88
 go_wp2_with ((with_reducible refine HI.out.mono ?_); rintro e w' ⟨r, rfl, hb, ⟨m1, rfl⟩⟩; have HB := A_ hb; clear hb)
 go_ret
 exact ⟨by rw [← HB.out]; rfl, ⟨_, rfl⟩⟩
def group_Right.nz (x : Int) : Bool := x != 0
theorem group_Right.fn1 (x : Int) (w : World) : Calls Try.prog 89 #[.int .i64 x] w fun e w' => e = .returned (.bool (group_Right.nz x)) ∧ Drawn0 w w' := by
 go_enter Try.func89, Try.ntmps89
 go_wp2
 go_ret
 exact ⟨rfl, Drawn0.refl _⟩
theorem group_Right.indexFunc1 (A0 : Option Addr) (c0 : Nat) (l0 : List Int) (w : World) (hr0 : Kd.C (Kd.int .i64) w A0 l0.length l0) (hl : l0.length ≤ 1024) :
  Calls Try.prog 94 #[.slice A0 l0.length c0, .func (.func 89) #[] #[]] w (group_Right.Ix (group_Right.nz) l0 w) := by
 have HR0 := A_ hr0
 have HF := fun (x : Int) (m : Nat) => group_Right.fn1 x (w.drewN m)
 have HF := A_ HF
 clear hr0
 generalize group_Right.nz = p at HF ⊢
 go_enter Try.func94, Try.ntmps94
 go_wp2
 go_loopw [8] (fun i wr => ∃ k : Nat, k ≤ l0.length ∧ i = .int .i64 k ∧ Aside0 (∀ j : Nat, j < k → p (rd l0 j) = false) ∧ Drawn0 w wr) (fun i _ => l0.length - (intOf i).toNat)
 case atStart => exact ⟨0, Nat.zero_le _, rfl, ⟨fun j hj => absurd hj (Nat.not_lt_zero j)⟩, Drawn0.refl _⟩
 case round =>
  obtain ⟨k, hk, rfl, HA, ⟨m1, rfl⟩⟩ := hrel
  by_cases hlt : k < l0.length
  ·obtain ⟨ad, rfl, hx⟩ := Kd.at_int HR0.out (k : Int) (by omega) (by omega)
   simp only [Int.toNat_natCast] at hx
   by_cases hw : p (rd l0 k) = true
   ·have HW := A_ hw
    clear hw
    go_wp2_with ((with_reducible refine (HF.out _ _).mono ?_); rw [HW.out]; rintro e w' ⟨rfl, ⟨m2, rfl⟩⟩)
    go_ret
    exact ⟨k, rfl, by rw [group_Right.any_yes hlt HW.out]; simp, ⟨_, rfl⟩⟩
   ·have HW := A_ (Bool.eq_false_iff.2 hw)
    clear hw
    go_wp2_with ((with_reducible refine (HF.out _ _).mono ?_); rw [HW.out]; rintro e w' ⟨rfl, ⟨m2, rfl⟩⟩)
    go_roundw
    case rel =>
     refine ⟨k + 1, by omega, by go_num, ⟨fun j hj => ?_⟩, d0_⟩
     rcases Nat.lt_succ_iff_lt_or_eq.1 hj with h | rfl
     ·exact HA.out j h
     ·exact HW.out
    case measure => simp [intOf]; omega
  ·obtain rfl : k = l0.length := by omega
   go_wp2
   go_ret
   exact ⟨-1, rfl, by rw [group_Right.any_no HA.out]; rfl, ⟨_, rfl⟩⟩
theorem group_Right.contains1 (A0 : Option Addr) (c0 : Nat) (l0 : List Int) (w : World) (hr0 : Kd.C (Kd.int .i64) w A0 l0.length l0) (hl : l0.length ≤ 1024) :
  Calls Try.prog 88 #[.slice A0 l0.length c0, .func (.func 89) #[] #[]] w fun e w' => e = .returned (.bool (l0.any (group_Right.nz))) ∧ Drawn0 w w' := by
 have HI := A_ (group_Right.indexFunc1 A0 c0 l0 w hr0 hl)
 clear hr0
 generalize group_Right.nz = p at HI ⊢
 go_enter Try.func88, Try.ntmps88
 go_wp2_with ((with_reducible refine HI.out.mono ?_); rintro e w' ⟨r, rfl, hb, ⟨m1, rfl⟩⟩; have HB := A_ hb; clear hb)
 go_ret
 exact ⟨by rw [← HB.out]; rfl, ⟨_, rfl⟩⟩
def group_Right.f (a0_0 a0_1 : Int) (l0 : List Int) (a1 : Int) : Option Int := (group_many.f (l0.length : Int) a1).bind fun e => if e = 0 then (if a0_1 > 1431655765 then some 21 else if a0_1 = 0 ∧ l0.any group_Right.nz = true then some 21 else if l0.any (group_Right.bad a1) then some 11 else some 0) else some e
theorem group_Right.calls (a0_0 a0_1 : Int) (A0_2 : Option Addr) (c0_2 : Nat) (l0_2 : List Int) (a1 : Int) (r : Int) (w : World) (hr0_2 : Kd.C (Kd.int .i64) w A0_2 l0_2.length l0_2) (hc0_2 : l0_2.length ≤ c0_2) (h : group_Right.f a0_0 a0_1 l0_2 a1 = some r) :
  Calls Try.prog 86 #[.agg #[.int .i32 a0_0, .int .u32 a0_1, .slice A0_2 l0_2.length c0_2], .int .i64 a1] w fun e w' => e = .returned (.int .i64 r) ∧ Below w.heap.size w w' := by
 have hu := Try.underlying100
 unfold group_Right.f at h
 obtain ⟨e0, he, h⟩ := Option.bind_eq_some_iff.1 h
 have HE := A_ he
 have HR0 := A_ hr0_2
 by_cases c0 : e0 = 0
 ·subst c0
  rw [if_pos rfl] at h
  have hb : a1 = 2 ∨ a1 = 4 ∨ a1 = 8 := by
   unfold group_many.f at he
   obtain ⟨t, ht, he⟩ := Option.bind_eq_some_iff.1 he
   unfold pack_Bits.f at ht
   by_cases b2 : a1 = 2
   ·exact .inl b2
   ·by_cases b4 : a1 = 4
    ·exact .inr (.inl b4)
    ·rw [if_neg b2, if_neg b4] at ht
     by_cases b8 : a1 = 8
     ·exact .inr (.inr b8)
     ·rw [beq_eq_false_iff_ne.2 b8] at ht
      obtain rfl := Option.some.inj ht
      simp at he
  have hl : l0_2.length ≤ 1024 := by
   by_cases c : l0_2.length ≤ 1024
   ·exact c
   ·exfalso
    have hbt : pack_Bits.f a1 = some true := by rcases hb with rfl | rfl | rfl <;> rfl
    unfold group_many.f at he
    have c1 : ¬ ((l0_2.length : Int) = 0) := by omega
    have c2 : (l0_2.length : Int) > 256 := by omega
    rw [hbt, Option.bind_some, if_pos rfl, if_neg c1, if_pos c2] at he
    exact absurd (Option.some.inj he) (by decide)
  have HHB := A_ hb
  by_cases d1 : a0_1 > 1431655765
  ·rw [if_pos d1] at h
   obtain rfl := Option.some.inj h
   have d1b : decide (a0_1 > 1431655765) = true := decide_eq_true d1
   have d0b : (a0_1 == 0) = false := beq_eq_false_iff_ne.2 (by omega)
   clear hr0_2 hc0_2 he h hb
   go_enter Try.func86, Try.ntmps86
   go_wp2_with fail
   refine (group_many.calls _ _ 0 _ HE.out).mono ?_
   rintro e w1 ⟨rfl, ⟨m1, rfl⟩⟩
   go_wp2_with fail
   go_ret
   exact ⟨rfl, br_⟩
  ·rw [if_neg d1] at h
   have d1b : decide (a0_1 > 1431655765) = false := decide_eq_false d1
   by_cases d0 : a0_1 = 0
   ·subst d0
    by_cases d2 : l0_2.any group_Right.nz = true
    ·rw [if_pos ⟨rfl, d2⟩] at h
     obtain rfl := Option.some.inj h
     have HN := A_ d2
     clear hr0_2 hc0_2 he h hb d2 d1
     go_enter Try.func86, Try.ntmps86
     go_wp2_with fail
     refine (group_many.calls _ _ 0 _ HE.out).mono ?_
     rintro e w1 ⟨rfl, ⟨m1, rfl⟩⟩
     go_wp2_with fail
     refine (group_Right.contains1 A0_2 c0_2 l0_2 _ ?hr (by omega)).mono ?_
     case hr => exact Kd.C_below HR0.out (by repeat (first | exact Below.refl _ _ | apply below_alloc | apply pw_below_drewN | apply below_drew1))
     rw [HN.out]
     rintro e w1 ⟨rfl, ⟨m2, rfl⟩⟩
     go_wp2_with fail
     go_ret
     exact ⟨rfl, br_⟩
    ·rw [if_neg (fun e => d2 e.2)] at h
     have HN := A_ (Bool.eq_false_iff.2 d2)
     have H := A_ h
     clear hr0_2 hc0_2 he h hb d2 d1
     go_enter Try.func86, Try.ntmps86
     go_wp2_with fail
     refine (group_many.calls _ _ 0 _ HE.out).mono ?_
     rintro e w1 ⟨rfl, ⟨m1, rfl⟩⟩
     go_wp2_with fail
     refine (group_Right.contains1 A0_2 c0_2 l0_2 _ ?hr (by omega)).mono ?_
     case hr => exact Kd.C_below HR0.out (by repeat (first | exact Below.refl _ _ | apply below_alloc | apply pw_below_drewN | apply below_drew1))
     rw [HN.out]
     rintro e w1 ⟨rfl, ⟨m2, rfl⟩⟩
     go_wp2_with fail
     refine (group_Right.contains a1 HHB.out (w.heap.size + 1) A0_2 c0_2 l0_2 _ ?hc ?hr (by omega)).mono ?_
     case hc => go_simp
     case hr => exact Kd.C_below HR0.out (by repeat (first | exact Below.refl _ _ | apply below_alloc | apply pw_below_drewN | apply below_drew1))
     by_cases d3 : l0_2.any (group_Right.bad a1) = true
     ·have h := H.out
      rw [if_pos d3] at h
      obtain rfl := Option.some.inj h
      rw [d3]
      rintro e w1 ⟨rfl, ⟨m3, rfl⟩⟩
      clear h H d3
      go_wp2_with fail
      go_ret
      exact ⟨rfl, br_⟩
     ·have h := H.out
      rw [if_neg d3] at h
      obtain rfl := Option.some.inj h
      rw [Bool.eq_false_iff.2 d3]
      rintro e w1 ⟨rfl, ⟨m3, rfl⟩⟩
      clear h H d3
      go_wp2_with fail
      go_ret
      exact ⟨rfl, br_⟩
   ·rw [if_neg (fun e => d0 e.1)] at h
    have d0b : (a0_1 == 0) = false := beq_eq_false_iff_ne.2 d0
    have H := A_ h
    clear hr0_2 hc0_2 he h hb d1
    go_enter Try.func86, Try.ntmps86
    go_wp2_with fail
    refine (group_many.calls _ _ 0 _ HE.out).mono ?_
    rintro e w1 ⟨rfl, ⟨m1, rfl⟩⟩
    go_wp2_with fail
    refine (group_Right.contains a1 HHB.out (w.heap.size + 1) A0_2 c0_2 l0_2 _ ?hc ?hr (by omega)).mono ?_
    case hc => go_simp
    case hr => exact Kd.C_below HR0.out (by repeat (first | exact Below.refl _ _ | apply below_alloc | apply pw_below_drewN | apply below_drew1))
    by_cases d3 : l0_2.any (group_Right.bad a1) = true
    ·have h := H.out
     rw [if_pos d3] at h
     obtain rfl := Option.some.inj h
     rw [d3]
     rintro e w1 ⟨rfl, ⟨m3, rfl⟩⟩
     clear h H d3
     go_wp2_with fail
     go_ret
     exact ⟨rfl, br_⟩
    ·have h := H.out
     rw [if_neg d3] at h
     obtain rfl := Option.some.inj h
     rw [Bool.eq_false_iff.2 d3]
     rintro e w1 ⟨rfl, ⟨m3, rfl⟩⟩
     clear h H d3
     go_wp2_with fail
     go_ret
     exact ⟨rfl, br_⟩
 ·rw [if_neg c0] at h
  obtain rfl := Option.some.inj h
  clear hr0_2 hc0_2 he h
  have c0b : (e0 == 0) = false := beq_eq_false_iff_ne.2 c0
  go_enter Try.func86, Try.ntmps86
  go_wp2_with fail
  refine (group_many.calls _ _ e0 _ HE.out).mono ?_
  rintro e w1 ⟨rfl, ⟨m1, rfl⟩⟩
  go_wp2_with fail
  go_ret
  exact ⟨rfl, br_⟩
end Go.Proofs.Yteflolamihhmdaa.Q

namespace Go.Proofs.Yteflolamihhmdaa.Pure.Pg
open Go.RowKit Go.Proofs.Yteflolamihhmdaa.Q Go.Proofs.YteflolamihhmdaaW.PrintWords Go.Proofs.YteflolamihhmdaaW.PrintLast Go.Proofs.YteflolamihhmdaaW.PrintMore
theorem ofInt64 {x : Nat} (hx : x < 2 ^ 64) : (BitVec.ofInt 64 (x : Int)).toNat = x := by
 rw [BitVec.toNat_ofInt]
 omega
theorem u64_wrap {x : Nat} (hx : x < 2 ^ 64) : IntKind.u64.wrap (x : Int) = (x : Int) := by
 have h := IntWalk.u64_in (x : Int)
 exact h (by omega)
theorem or64 {x y : Nat} (hx : x < 2 ^ 64) (hy : y < 2 ^ 64) : Go.bits .or .u64 (x : Int) (y : Int) = ((x ||| y : Nat) : Int) := by
 unfold Go.bits
 show IntKind.u64.wrap (((BitVec.ofInt 64 (x : Int)) ||| (BitVec.ofInt 64 (y : Int))).toNat : Int) = _
 rw [BitVec.toNat_or, ofInt64 hx, ofInt64 hy, u64_wrap (Nat.or_lt_two_pow hx hy)]
theorem and64 {x y : Nat} (hx : x < 2 ^ 64) (hy : y < 2 ^ 64) : Go.bits .and .u64 (x : Int) (y : Int) = ((x &&& y : Nat) : Int) := by
 unfold Go.bits
 show IntKind.u64.wrap (((BitVec.ofInt 64 (x : Int)) &&& (BitVec.ofInt 64 (y : Int))).toNat : Int) = _
 rw [BitVec.toNat_and, ofInt64 hx, ofInt64 hy, u64_wrap (Nat.lt_of_le_of_lt Nat.and_le_left hx)]
def ints (ws : List Nat) : List Int := ws.map Int.ofNat
theorem rd_ints (ws : List Nat) (j : Nat) : rd (ints ws) (j : Int) = ((ws.getD j 0 : Nat) : Int) := by
 unfold rd ints
 rw [Int.toNat_natCast, List.getD_eq_getElem?_getD, List.getElem?_map, List.getD_eq_getElem?_getD]
 cases ws[j]? <;> rfl
theorem ints_set (ws : List Nat) (j n : Nat) : (ints ws).set j (n : Int) = ints (ws.set j n) := by
 unfold ints
 rw [List.map_set]
 rfl
theorem getD_set (ws : List Nat) (j n i : Nat) (hj : j < ws.length) : (ws.set j n).getD i 0 = if i = j then n else ws.getD i 0 := by
 rw [List.getD_eq_getElem?_getD, List.getElem?_set]
 by_cases h : j = i
 ·subst h
  simp [hj]
 ·rw [if_neg h, if_neg (Ne.symm h), List.getD_eq_getElem?_getD]
structure Packed (b i : Nat) (codes : Nat → Nat) (ws : List Nat) : Prop where
 small : ∀ j, ws.getD j 0 < 2 ^ min 64 (i * b - 64 * j)
 at_ : ∀ t, t < i → ws.getD (t * b / 64) 0 / 2 ^ (t * b % 64) % 2 ^ b = codes t
def BitN (b : Nat) : Prop := b = 2 ∨ b = 4 ∨ b = 8
theorem fits {b i : Nat} (hb : BitN b) : i * b % 64 + b ≤ 64 ∧ i * b - 64 * (i * b / 64) = i * b % 64 ∧ (i + 1) * b - 64 * (i * b / 64) = i * b % 64 + b ∧ (∀ t, t < i → t * b / 64 = i * b / 64 → t * b % 64 + b ≤ i * b % 64) := by
 rcases hb with rfl | rfl | rfl
 ·exact ⟨by omega, by omega, by omega, fun t h1 h2 => by omega⟩
 ·exact ⟨by omega, by omega, by omega, fun t h1 h2 => by omega⟩
 ·exact ⟨by omega, by omega, by omega, fun t h1 h2 => by omega⟩
theorem Packed.step {b i : Nat} {codes : Nat → Nat} {ws : List Nat} (hb : BitN b) (h : Packed b i codes ws) (hc : codes i < 2 ^ b) (hj : i * b / 64 < ws.length) :
  Packed b (i + 1) codes (ws.set (i * b / 64) (ws.getD (i * b / 64) 0 ||| codes i * 2 ^ (i * b % 64))) := by
 obtain ⟨f1, f2, f3, f4⟩ := fits (i := i) hb
 have hold := h.small (i * b / 64)
 rw [f2, Nat.min_eq_right (by omega)] at hold
 have hor : ws.getD (i * b / 64) 0 ||| codes i * 2 ^ (i * b % 64) = 2 ^ (i * b % 64) * codes i + ws.getD (i * b / 64) 0 := by
  rw [Nat.two_pow_add_eq_or_of_lt hold, Nat.or_comm, Nat.mul_comm]
 rw [hor]
 generalize hold0 : ws.getD (i * b / 64) 0 = old at *
 have hps : 0 < 2 ^ (i * b % 64) := Nat.two_pow_pos _
 refine ⟨fun j => ?_, fun t ht => ?_⟩
 ·rw [getD_set _ _ _ _ hj]
  by_cases hjj : j = i * b / 64
  ·subst hjj
   rw [if_pos rfl, f3, Nat.min_eq_right f1, Nat.pow_add]
   have h1 : 2 ^ (i * b % 64) * (codes i + 1) ≤ 2 ^ (i * b % 64) * 2 ^ b := Nat.mul_le_mul_left _ hc
   rw [Nat.mul_add, Nat.mul_one] at h1
   omega
  ·rw [if_neg hjj]
   refine Nat.lt_of_lt_of_le (h.small j) (Nat.pow_le_pow_right (by decide) ?_)
   have : i * b ≤ (i + 1) * b := Nat.mul_le_mul_right _ (Nat.le_succ i)
   omega
 ·rw [getD_set _ _ _ _ hj]
  by_cases hti : t = i
  ·subst hti
   rw [if_pos rfl, Nat.add_comm, Nat.add_mul_div_left _ _ hps, Nat.div_eq_of_lt hold, Nat.zero_add, Nat.mod_eq_of_lt hc]
  ·have ht' : t < i := by omega
   have ha := h.at_ t ht'
   by_cases htj : t * b / 64 = i * b / 64
   ·have f5 := f4 t ht' htj
    obtain ⟨m, hm⟩ : ∃ m, i * b % 64 = t * b % 64 + b + m := ⟨i * b % 64 - (t * b % 64 + b), by omega⟩
    rw [htj, hold0] at ha
    rw [if_pos htj, hm, Nat.pow_add, Nat.pow_add, Nat.mul_assoc, Nat.mul_assoc, Nat.add_comm, Nat.add_mul_div_left _ _ (Nat.two_pow_pos _), Nat.add_mul_mod_self_left]
    exact ha
   ·rw [if_neg htj]
    exact ha
theorem put_ints {b i : Nat} {c : Int} {ws : List Nat} (hb : BitN b) (hc0 : 0 ≤ c) (hc : c.toNat < 2 ^ b) (hw : ws.getD (i * b / 64) 0 < 2 ^ 64) : pack_Pack.put (b : Int) i c (ints ws) = ints (ws.set (i * b / 64) (ws.getD (i * b / 64) 0 ||| c.toNat * 2 ^ (i * b % 64))) := by
 obtain ⟨f1, -⟩ := fits (i := i) hb
 have h2 : c.toNat * 2 ^ (i * b % 64) < 2 ^ 64 := by
  refine Nat.lt_of_lt_of_le (Nat.mul_lt_mul_of_pos_right hc (Nat.two_pow_pos _)) ?_
  rw [← Nat.pow_add]
  exact Nat.pow_le_pow_right (by decide) (by omega)
 have e : c * 2 ^ min (i * b % 64) 64 = ((c.toNat * 2 ^ (i * b % 64) : Nat) : Int) := by
  rw [Nat.min_eq_left (by omega)]
  push_cast
  rw [Int.toNat_of_nonneg hc0]
 unfold pack_Pack.put
 rw [Int.toNat_natCast, rd_ints, e, u64_wrap h2, or64 hw h2, ints_set]
theorem packl {b : Nat} (hb : BitN b) (all : List Int) (hall : ∀ c ∈ all, 0 ≤ c ∧ c.toNat < 2 ^ b) : ∀ (d i : Nat) (ws : List Nat), i + d = all.length → (all.length * b + 63) / 64 ≤ ws.length → Packed b i (fun t => (rd all (t : Int)).toNat) ws →
  ∃ ws' : List Nat, pack_Pack.l (b : Int) (all.drop i) i (ints ws) = ints ws' ∧ ws'.length = ws.length ∧ Packed b all.length (fun t => (rd all (t : Int)).toNat) ws' := by
 intro d
 induction d with
 | zero =>
  intro i ws h hl hp
  obtain rfl : i = all.length := by omega
  exact ⟨ws, by rw [List.drop_length]; rfl, rfl, hp⟩
 | succ d ih =>
  intro i ws h hl hp
  have hlt : i < all.length := by omega
  obtain ⟨hc0, hc⟩ := hall _ (pg_mem hlt)
  have hj : i * b / 64 < ws.length := by
   refine Nat.lt_of_lt_of_le ?_ hl
   rcases hb with rfl | rfl | rfl <;> omega
  have hw : ws.getD (i * b / 64) 0 < 2 ^ 64 := Nat.lt_of_lt_of_le (hp.small _) (Nat.pow_le_pow_right (by decide) (Nat.min_le_left _ _))
  obtain ⟨ws', h1, h2, h3⟩ := ih (i + 1) (ws.set (i * b / 64) (ws.getD (i * b / 64) 0 ||| (rd all (i : Int)).toNat * 2 ^ (i * b % 64))) (by omega) (by rw [List.length_set]; exact hl) (hp.step hb hc hj)
  refine ⟨ws', ?_, by rw [h2, List.length_set], h3⟩
  rw [pg_drop hlt, pack_Pack.l, put_ints hb hc0 hc hw]
  exact h1
theorem packed_zero (b n : Nat) (codes : Nat → Nat) : Packed b 0 codes (List.replicate n 0) := by
 refine ⟨fun j => ?_, fun t ht => absurd ht (Nat.not_lt_zero t)⟩
 have : (List.replicate n 0).getD j 0 = 0 := by
  rw [List.getD_eq_getElem?_getD, List.getElem?_replicate]
  split <;> rfl
 rw [this]
 exact Nat.two_pow_pos _
theorem ints_zero (n : Nat) : List.replicate n (0 : Int) = ints (List.replicate n 0) := by simp [ints]
def packR (b : Int) (l : List Int) : List Int := pack_Pack.l b l 0 (List.replicate ((l.length * b.toNat + 63) / 64) 0)
theorem bit_nat {b : Int} (hb : Bit b) : ∃ n : Nat, b = (n : Int) ∧ BitN n ∧ (2 ^ n : Nat) = pack_Pack.top b ∧ stepsR b + 1 = pack_Pack.top b ∧ group_Right.top b = pack_Pack.top b := by
 rcases hb with rfl | rfl | rfl
 ·exact ⟨2, rfl, .inl rfl, rfl, rfl, rfl⟩
 ·exact ⟨4, rfl, .inr (.inl rfl), rfl, rfl, rfl⟩
 ·exact ⟨8, rfl, .inr (.inr rfl), rfl, rfl, rfl⟩
def Codes (b : Int) (l : List Int) : Prop := ∀ c ∈ l, 0 ≤ c ∧ c ≤ stepsR b
theorem not_bad {b : Int} (hb : Bit b) {l : List Int} (hl : Codes b l) : l.any (pack_Pack.bad b) = false ∧ l.any (group_Right.bad b) = false := by
 obtain ⟨n, -, -, -, h1, h2⟩ := bit_nat hb
 constructor
 ·rw [List.any_eq_false]
  intro x hx
  have := hl x hx
  simp [pack_Pack.bad]
  omega
 ·rw [List.any_eq_false]
  intro x hx
  have := hl x hx
  simp [group_Right.bad]
  omega
theorem pack_some {b : Int} (hb : Bit b) {l : List Int} (hl : Codes b l) (hn : l.length ≤ 256) : pack_Pack.f l b = some (packR b l, 0) := by
 rw [pack_Pack.f, if_pos (show b = 2 ∨ b = 4 ∨ b = 8 from hb), if_pos hn, (not_bad hb hl).1, if_neg (by simp)]
 rfl
theorem group_Right_some {b z s : Int} (hb : Bit b) {l : List Int} (h0 : 0 < l.length) (hl : Codes b l) (hn : l.length ≤ 256) (hs : s ≤ 1431655765) (hz : s = 0 → ∀ c ∈ l, c = 0) : group_Right.f z s l b = some 0 := by
 have hm : group_many.f (l.length : Int) b = some 0 := by rw [group_many.f, (steps_eq hb).2.2.2, Option.bind_some, if_pos rfl, if_neg (by omega), if_neg (by omega)]
 rw [group_Right.f, hm, Option.bind_some, if_pos rfl, if_neg (by omega), if_neg, (not_bad hb hl).2, if_neg (by simp)]
 rintro ⟨h1, h2⟩
 rw [List.any_eq_true] at h2
 obtain ⟨c, hc, h3⟩ := h2
 rw [hz h1 c hc] at h3
 simp [group_Right.nz] at h3
theorem lane_some {b : Int} (hb : Bit b) {l : List Int} (hl : Codes b l) (hn : l.length ≤ 256) {t : Nat} (ht : t < l.length) : pack_Lane.f (packR b l) (t : Int) b = some (rd l (t : Int)) := by
 obtain ⟨n, rfl, hbn, h1, h2, h3⟩ := bit_nat hb
 have hall : ∀ c ∈ l, 0 ≤ c ∧ c.toNat < 2 ^ n := fun c hc => by have := hl c hc; omega
 obtain ⟨ws, e1, e2, e3⟩ := packl hbn l hall l.length 0 (List.replicate ((l.length * n + 63) / 64) 0) (by omega) (by simp) (packed_zero _ _ _)
 rw [List.length_replicate] at e2
 have hr : packR (n : Int) l = ints ws := by
  unfold packR
  rw [Int.toNat_natCast, ints_zero, ← e1, List.drop_zero]
 have hlen : (packR (n : Int) l).length = (l.length * n + 63) / 64 := by rw [hr]; simp [ints, e2]
 have hat := e3.at_ t ht
 obtain ⟨hc0, hc⟩ := hall _ (pg_mem ht)
 have hw : ws.getD (t * n / 64) 0 < 2 ^ 64 := Nat.lt_of_lt_of_le (e3.small _) (Nat.pow_le_pow_right (by decide) (Nat.min_le_left _ _))
 have q1 : ¬ ((t : Int) ≥ wrap64 (((packR (n : Int) l).length : Int) * wrap64 (Int.tdiv 64 (n : Int)))) := by
  rw [hlen]
  rcases hbn with rfl | rfl | rfl
  ·have : Int.tdiv 64 ((2 : Nat) : Int) = 32 := rfl
   rw [this]; unfold wrap64; omega
  ·have : Int.tdiv 64 ((4 : Nat) : Int) = 16 := rfl
   rw [this]; unfold wrap64; omega
  ·have : Int.tdiv 64 ((8 : Nat) : Int) = 8 := rfl
   rw [this]; unfold wrap64; omega
 have q2 : wrap64 ((t : Int) * (n : Int)) = ((t * n : Nat) : Int) := by
  rcases hbn with rfl | rfl | rfl <;> (unfold wrap64; omega)
 have q3 : wrap64 (Int.tdiv ((t * n : Nat) : Int) 64) = ((t * n / 64 : Nat) : Int) := by
  rw [Int.tdiv_eq_ediv_of_nonneg (by omega)]
  rcases hbn with rfl | rfl | rfl <;> (unfold wrap64; omega)
 have q4 : Int.tmod ((t * n : Nat) : Int) 64 = ((t * n % 64 : Nat) : Int) := by
  rw [Int.tmod_eq_emod_of_nonneg (by omega)]
  omega
 have q5 : ((t * n / 64 : Nat) : Int) < ((packR (n : Int) l).length : Int) := by
  rw [hlen]
  rcases hbn with rfl | rfl | rfl <;> omega
 have q6 : IntKind.u64.wrap (shl .u64 1 (n : Int) - 1) = ((2 ^ n - 1 : Nat) : Int) := by
  rcases hbn with rfl | rfl | rfl <;> kernel_rfl
 have q7 : 2 ^ n ≤ 256 := by rcases hbn with rfl | rfl | rfl <;> decide
 have q8 : shr .u64 ((ws.getD (t * n / 64) 0 : Nat) : Int) ((t * n % 64 : Nat) : Int) = ((ws.getD (t * n / 64) 0 / 2 ^ (t * n % 64) : Nat) : Int) := by
  unfold shr
  rw [Int.toNat_natCast, Nat.min_eq_left (by have : IntKind.u64.bits = 64 := rfl; omega)]
  push_cast
  rfl
 rw [pack_Lane.f, (steps_eq hb).2.2.2, Option.bind_some, if_pos rfl, if_neg (by omega), if_neg (by rcases hbn with rfl | rfl | rfl <;> decide), if_neg q1, q2, q3, q4, if_pos (by omega), if_pos q5, if_pos (by omega), if_pos (by omega), hr, rd_ints, q6, q8,
  and64 (Nat.lt_of_le_of_lt (Nat.div_le_self _ _) hw) (by omega), Nat.and_two_pow_sub_one_eq_mod, hat, Int.toNat_of_nonneg hc0]
 congr 1
 have := hl _ (pg_mem ht)
 unfold wrap64
 omega
end Go.Proofs.Yteflolamihhmdaa.Pure.Pg

namespace Go.Proofs.Yteflolamihhmdaa.Q
open Go.RowKit Go.Proofs.YteflolamihhmdaaW.PrintWords Go.Proofs.YteflolamihhmdaaW.PrintLast Go.Proofs.YteflolamihhmdaaW.PrintMore
attribute [local go_sem] max2_int min2_int max_two min_two max_three min_three max_four min_four
def fix_Mul.f (a0 : Int) (a1 : Int) : Option (Int) := (fix_Half.f (wrap64 ((wrap64 (a0)) * (wrap64 (a1)))) 16).bind fun t115 => ((fix_Wide.f t115).bind fun t116 => (some t116))
theorem fix_Mul.calls (a0 : Int) (a1 : Int) (r : Int) (w : World) (h : fix_Mul.f a0 a1 = some r) :
  Calls Try.prog 46 #[.int .i32 a0, .int .i32 a1] w fun e w' => e = .returned (.int .i32 r) ∧ Below w.heap.size w w' := by
 have HB := A_ (Below.refl w.heap.size w)
 have H := h
 unfold fix_Mul.f at H
 clear h
 replace H := ob_ H
 obtain ⟨t115, A3, H⟩ := H
 try dsimp only at H
 replace H := ob_ H
 obtain ⟨t116, A4, H⟩ := H
 try dsimp only at H
 obtain rfl := Option.some.inj H
 go_enter Try.func46, Try.ntmps46
 go_wp2_with (first | (refine goesL_ (some 10) rfl rfl Try.func48 (by kernel_rfl) rfl #[.int .i64 (wrap64 ((wrap64 (a0)) * (wrap64 (a1)))), .int .i64 16] rfl ar_ ?_; (with_reducible refine (fix_Half.calls (wrap64 ((wrap64 (a0)) * (wrap64 (a1)))) 16 t115 _ A3.out).mono ?_); rintro e w5 ⟨rfl, hb⟩; refine ⟨_, rfl, ?_⟩; replace HB := A_ (below_step bl_ hb)) | (refine goesL_ (some 11) rfl rfl Try.func47 (by kernel_rfl) rfl #[.int .i64 t115] rfl ar_ ?_; (with_reducible refine (fix_Wide.calls t115 t116 _ A4.out).mono ?_); rintro e w6 ⟨rfl, hb⟩; refine ⟨_, rfl, ?_⟩; replace HB := A_ (below_step bl_ hb)))
 go_ret
 exact ⟨ew_, bl_⟩
def credenzaref01_Mul.f (a0 : Int) (a1 : Int) : Option (Int) := (credenzaref01_Ratio.f (wrap64 ((wrap64 (a0)) * (wrap64 (a1)))) 65536).bind fun t203 => ((credenzaref01_Wide.f t203).bind fun t204 => (some t204))
theorem credenzaref01_Mul.calls (a0 : Int) (a1 : Int) (r : Int) (w : World) (h : credenzaref01_Mul.f a0 a1 = some r) :
  Calls Try.prog 30 #[.int .i32 a0, .int .i32 a1] w fun e w' => e = .returned (.int .i32 r) ∧ Drawn0 w w' := by
 have H := h
 unfold credenzaref01_Mul.f at H
 clear h
 replace H := ob_ H
 obtain ⟨t203, A3, H⟩ := H
 try dsimp only at H
 replace H := ob_ H
 obtain ⟨t204, A4, H⟩ := H
 try dsimp only at H
 obtain rfl := Option.some.inj H
 go_enter Try.func30, Try.ntmps30
 go_wp2_with (first | (refine goesL_ (some 10) rfl rfl Try.func29 (by kernel_rfl) rfl #[.int .i64 (wrap64 ((wrap64 (a0)) * (wrap64 (a1)))), .int .i64 65536] rfl ar_ ?_; (with_reducible refine (credenzaref01_Ratio.calls (wrap64 ((wrap64 (a0)) * (wrap64 (a1)))) 65536 t203 _ A3.out).mono ?_); rintro e w' ⟨rfl, ⟨nd, rfl⟩⟩; refine ⟨_, rfl, ?_⟩) | (refine goesL_ (some 11) rfl rfl Try.func28 (by kernel_rfl) rfl #[.int .i64 t203] rfl ar_ ?_; (with_reducible refine (credenzaref01_Wide.calls t203 t204 _ A4.out).mono ?_); rintro e w' ⟨rfl, ⟨nd, rfl⟩⟩; refine ⟨_, rfl, ?_⟩))
 go_ret
 exact ⟨rs_, d0_⟩
def fix_Narrow.f (a0 : Int) : Option (Int) := (fix_cut.f a0 (-8388608) 8388608).bind fun t106 => (some t106)
theorem fix_Narrow.calls (a0 : Int) (r : Int) (w : World) (h : fix_Narrow.f a0 = some r) :
  Calls Try.prog 66 #[.int .i64 a0] w fun e w' => e = .returned (.int .i32 r) ∧ Below w.heap.size w w' := by
 have HB := A_ (Below.refl w.heap.size w)
 have H := h
 unfold fix_Narrow.f at H
 clear h
 replace H := ob_ H
 obtain ⟨t106, A2, H⟩ := H
 try dsimp only at H
 obtain rfl := Option.some.inj H
 go_enter Try.func66, Try.ntmps66
 go_wp2_with (first | (refine goesL_ (some 4) rfl rfl Try.func71 (by kernel_rfl) rfl #[.int .i64 a0, .int .i64 (-8388608), .int .i64 8388608] rfl ar_ ?_; (with_reducible refine (fix_cut.calls a0 (-8388608) 8388608 t106 _ A2.out).mono ?_); rintro e w3 ⟨rfl, hb⟩; refine ⟨_, rfl, ?_⟩; replace HB := A_ (below_step bl_ hb)))
 go_ret
 exact ⟨ew_, bl_⟩
end Go.Proofs.Yteflolamihhmdaa.Q
