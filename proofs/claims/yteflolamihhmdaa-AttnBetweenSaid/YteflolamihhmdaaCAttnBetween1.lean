/- AttnBetween: for every input the Go function returns true and leaves its arguments as they were. (part 1: functions of the program as plain functions, and what is shown of them.) Conditions: as each theorem states; the last one has none. -/
import Derived.Test.YteflolamihhmdaaWMore
import Derived.Test.YteflolamihhmdaaWSized
import Derived.ProofKit
import Derived.OpenShut
import Derived.ChangeOld
import Derived.Deep.Matrix
import Derived.Test.YteflolamihhmdaaProg
import Derived.Below
import Derived.Deep.Draws
import Derived.Deep.AppendLies
import Derived.Maps.AppendAt
import Derived.OwnWalk
import Derived.Laws.BytesArg
import Derived.Laws.MakeOwn
import Derived.Laws.OwnMore
import Derived.Deep.OwnRows
import Derived.Tactics
import Derived.Lib.ConvBytes
import Derived.Laws.Slices
import Derived.WalkKit
import Derived.KernelRfl
import Derived.RowKit3
import Derived.Deep.LoopGhost
import Derived.Deep.QuietTactic
import Derived.BigQuiet
import Derived.WideLaws
import Derived.Deep.DeepCutAuto
import Derived.Deep.CutBlock
import Derived.Deep.RegionHeld3
import Derived.Laws.Rows
import Derived.Lib.AppendStr
import Derived.ArgAppend
import Derived.Laws.IdiomCopy
import Derived.OrdersHeld
import Derived.Laws.BitsLemmas
import Derived.RowKit
import Derived.Test.YteflolamihhmdaaWWords
import Derived.Test.YteflolamihhmdaaWLast
import Derived.Test.YteflolamihhmdaaWTab
import Derived.Test.YteflolamihhmdaaWFour
import Derived.Test.YteflolamihhmdaaWQPut
import Derived.Test.YteflolamihhmdaaWApart
import Derived.Test.YteflolamihhmdaaWArr
import Derived.Test.YteflolamihhmdaaWZeros
import Derived.Test.YteflolamihhmdaaWFoot
import Derived.Test.YteflolamihhmdaaWKept
import Derived.Test.YteflolamihhmdaaWShare
import Derived.Test.YteflolamihhmdaaWN
import Derived.Test.YteflolamihhmdaaWFootNe
import Derived.Test.YteflolamihhmdaaWAt
import Derived.Test.YteflolamihhmdaaWEqStruct
import Derived.Test.YteflolamihhmdaaWRepsOne
import Derived.Test.YteflolamihhmdaaWInv
import Derived.Test.YteflolamihhmdaaWInvWords
import Derived.Test.YteflolamihhmdaaWGuard
import Derived.Test.YteflolamihhmdaaWNEv
import Derived.Test.YteflolamihhmdaaShelf
namespace Go.Proofs.Yteflolamihhmdaa
open Go.RowKit Go.ChangeShapes Go.WideShapes Go.Deep Go.Proofs.YteflolamihhmdaaW.PrintWords Go.Proofs.YteflolamihhmdaaW.PrintLast

section
variable {H : Type} {enc : TypeId × Value → H} {P : Program} {w : World} {base : Nat} {held : Bool}
theorem open_rows {t e q : TypeId} {k : IntKind} {fuel : Nat} {A : Option Addr} {len cap : Nat} {x : DataW H × List MemPlace} (s : Nat) (ht : P.underlying t = some (.slice e)) (he : P.underlying e = some (.slice q)) (hq : P.underlying q = some (.int k))
    (ce : P.cellsOf e = 1) (cq : P.cellsOf q = 1) (h : DataW.trod enc P w base (fun _ => true) held fuel t [.slice A len cap] = some x) :
    ∃ xs : List (List Int), xs.length = len ∧ len ≤ cap ∧ Kd.C (Kd.slice s (Kd.int k)) w A len xs ∧ ∀ r ∈ xs, ∀ n ∈ r, (Lit.int k n).wf = true := by
  rcases open_int_rows ht he hq ce cq h with ⟨hcs, _⟩ | ⟨a, l, c, A', L, C, Z, hcs, _, hlc, hcm, _, hr⟩
  · simp at hcs
    obtain ⟨rfl, rfl, rfl⟩ := hcs
    exact ⟨[], rfl, Nat.le_refl _, ⟨rfl, by omega, fun h0 => absurd h0 (by omega)⟩, by simp⟩
  · simp at hcs
    obtain ⟨rfl, rfl, rfl⟩ := hcs
    unfold maxLen at hcm
    have hlen : ∀ j, j < cap → ((Z j).take (L j)).length = L j := fun j hj => by
      obtain ⟨_, h1, _, h2, _⟩ := hr j hj
      rw [List.length_take]
      omega
    refine ⟨(List.range len).map fun r => (Z r).take (L r), by simp, hlc, ⟨by simp, by omega, fun h0 => ⟨a, rfl, fun j p hj => ?_⟩⟩, ?_⟩
    · have hjl : j < len := by
        have := (List.getElem?_eq_some_iff.1 hj).1
        simpa using this
      have hp : p = (Z j).take (L j) := by
        have := hj
        simp [hjl] at this
        exact this.symm
      subst hp
      obtain ⟨h1, h2, h3, h4, h5, h6, h7⟩ := hr j (by omega)
      have hl := hlen j (by omega)
      unfold maxLen at h3
      refine ⟨[.slice (A' j) (L j) (C j)], rfl, ⟨A' j, C j, by rw [hl], by omega, ?_⟩, fun i u hi => ?_⟩
      · rw [hl]
        refine ⟨hl, by omega, fun h0 => ?_⟩
        cases hA : A' j with
        | none => have := h6 hA; omega
        | some a' =>
          obtain ⟨_, hc⟩ := h7 a' hA
          refine ⟨a', rfl, fun i p hi => ?_⟩
          have hil : i < L j := by
            have := (List.getElem?_eq_some_iff.1 hi).1
            omega
          refine ⟨[.int k p], rfl, rfl, fun m u hm => ?_⟩
          obtain rfl : m = 0 := by
            cases m with
            | zero => rfl
            | succ m => simp at hm
          have hu : u = .int k p := by simpa using hm.symm
          have := hc i (by omega)
          rw [hu, show i * (Kd.int k).sz + 0 = i by simp [Kd.int, Kd.scalar], this]
          have h8 : (Z j)[i]? = some p := by
            rw [List.getElem?_take, if_pos hil] at hi
            exact hi
          rw [List.getD_eq_getElem?_getD, h8]
          rfl
      · obtain rfl : i = 0 := by
          cases i with
          | zero => rfl
          | succ i => simp at hi
        have hu : u = .slice (A' j) (L j) (C j) := by simpa using hi.symm
        rw [hu, show j * (Kd.slice s (Kd.int k)).sz + 0 = j by simp [Kd.slice]]
        exact h1
    · intro r hrm n hn
      obtain ⟨j, hj, rfl⟩ := List.mem_map.1 hrm
      have hjl : j < len := by simpa using hj
      exact (hr j (by omega)).2.2.2.2.1 n (List.mem_of_mem_take hn)
end
/-- what came in may be shared -/
theorem V_of_C {α : Type} {d : Kd α} (hd : Kd.Heap d) {e base n c : Nat} {W : World} {A : Option Addr} {xs : List α} (hn : xs.length = n) (hl : n ≤ c) (h : Kd.C d W A n xs) : Kd.V d e W base (fun _ => True) (.slice A n c) xs := by
  subst hn
  exact Kd.V_mk hl (fun W' hW' => hd.C (fun k hk => hW' k trivial hk) h)
end Go.Proofs.Yteflolamihhmdaa

namespace Go.Proofs.Yteflolamihhmdaa.Q
open Go.RowKit Go.Proofs.YteflolamihhmdaaW.PrintWords Go.Proofs.YteflolamihhmdaaW.PrintLast Go.Proofs.YteflolamihhmdaaW.PrintMore
attribute [local go_sem] max2_int min2_int max_two min_two max_three min_three max_four min_four   -- for this text's walks alone
set_option linter.unusedVariables false
set_option linter.unusedSimpArgs false



def errW : Option Int → Value
  | none => .nilIface
  | some c => .iface 0 (.int .i64 c)
theorem errW_none : errW none = .nilIface := rfl
theorem errW_some (c : Int) : errW (some c) = .iface 0 (.int .i64 c) := rfl

theorem info3 : (Try.prog.info? 3).map (fun i => (i.zero, i.size, i.bytes)) = some (some (.int .i64 0), 1, 8) := by kernel_rfl
theorem info21 : (Try.prog.info? 21).map (fun i => (i.zero, i.size, i.bytes)) = some (some (.int .i32 0), 1, 4) := by kernel_rfl
theorem info22 : (Try.prog.info? 22).map (fun i => (i.zero, i.size, i.bytes)) = some (some (.slice none 0 0), 1, 24) := by kernel_rfl
theorem info29 : (Try.prog.info? 29).map (fun i => (i.zero, i.size, i.bytes)) = some (some (.slice none 0 0), 1, 24) := by kernel_rfl
-- the values' own types
def rd_L3 (xs : List (List Int)) (i : Int) : (List Int) := xs.getD i.toNat ([] : List Int)
theorem at_L3 {w : World} {A : Option Addr} {n : Nat} {xs : List (List Int)} (h : Kd.C (Kd.slice 3 (Kd.int .i64)) w A n xs) (i : Int) (h0 : 0 ≤ i) (h1 : i < n) : ∃ ad A0 c0, A = some ad ∧ w.cell? (ad.add i.toNat) = some (.slice A0 (rd_L3 xs i).length c0) ∧ (rd_L3 xs i).length ≤ c0 ∧ (Kd.int .i64).C w A0 (rd_L3 xs i).length (rd_L3 xs i) := by
  obtain ⟨ad, c, e, _, hK, hc0⟩ := Kd.C_get h ([] : List Int) i h0 h1
  have hc : ∀ j u, c[j]? = some u → w.cell? (ad.add (i.toNat * 1 + j)) = some u := hc0
  obtain ⟨A0, c0, rfl, l0, g0⟩ := hK
  exact ⟨ad, A0, c0, e, by have hq := hc 0 _ rfl; rwa [Nat.mul_one, Nat.add_zero] at hq, l0, g0⟩

/-! #### struct type 100 -/
structure S100 where
  f0 : Int
  f1 : Int
  f2 : (List Int)
def z100 : S100 := ⟨(0 : Int), (0 : Int), ([] : List Int)⟩
def k100 : Kd S100 := Kd.iso (Kd.pair (Kd.int .i32) (Kd.pair (Kd.int .u32) (Kd.slice 3 (Kd.int .i64)))) (fun x : S100 => (x.f0, x.f1, x.f2))
theorem k100_open {w : World} {x : S100} {cs : List Value} (h : k100.K w x cs) : ∃ A2 c2, cs = [.int .i32 x.f0, .int .u32 x.f1, .slice A2 x.f2.length c2] ∧ x.f2.length ≤ c2 ∧ (Kd.int .i64).C w A2 x.f2.length x.f2 := by
  obtain ⟨_, _, rfl, rfl, ⟨_, _, rfl, rfl, ⟨A2, c2, rfl, l2, g2⟩⟩⟩ := h
  exact ⟨A2, c2, rfl, l2, g2⟩
theorem k100_openM {w : World} {base : Nat} {ok : Nat → Prop} {x : S100} {cs : List Value} (h : k100.M w base ok x cs) : ∃ v2, cs = [.int .i32 x.f0, .int .u32 x.f1, v2] ∧ (Kd.int .i64).R 3 w base ok v2 x.f2 := by
  obtain ⟨_, _, rfl, rfl, ⟨_, _, rfl, rfl, ⟨v2, rfl, g2⟩⟩⟩ := h
  exact ⟨v2, rfl, g2⟩
theorem k100_mk (w : World) (x : S100) {A2 : Option Addr} {c2 : Nat} (l2 : x.f2.length ≤ c2) (g2 : (Kd.int .i64).C w A2 x.f2.length x.f2) : k100.K w x [.int .i32 x.f0, .int .u32 x.f1, .slice A2 x.f2.length c2] := ⟨[.int .i32 x.f0], [.int .u32 x.f1, .slice A2 x.f2.length c2], rfl, rfl, ⟨[.int .u32 x.f1], [.slice A2 x.f2.length c2], rfl, rfl, ⟨A2, c2, rfl, l2, g2⟩⟩⟩
theorem k100_mkM (w : World) (base : Nat) (ok : Nat → Prop) (x : S100) {v2 : Value} (g2 : (Kd.int .i64).R 3 w base ok v2 x.f2) : k100.M w base ok x [.int .i32 x.f0, .int .u32 x.f1, v2] := ⟨[.int .i32 x.f0], [.int .u32 x.f1, v2], rfl, rfl, ⟨[.int .u32 x.f1], [v2], rfl, rfl, ⟨v2, rfl, g2⟩⟩⟩
theorem k100_openF {W : World} {ok : Nat → Prop} {x : S100} {cs : List Value} (h : Kd.FK k100 W ok x cs) : ∃ A2 c2, cs = [.int .i32 x.f0, .int .u32 x.f1, .slice A2 x.f2.length c2] ∧ x.f2.length ≤ c2 ∧ Kd.F (Kd.int .i64) W ok A2 x.f2.length x.f2 := by
  obtain ⟨A2, c2, rfl, l2, _⟩ := k100_open (Kd.FK_now h)
  exact ⟨A2, c2, rfl, l2, (fun W' hW => by obtain ⟨A2_, c2_, he, l2_, g2_⟩ := k100_open (h W' hW); injection (Option.some.inj (show some (Value.slice A2 x.f2.length c2) = some (Value.slice A2_ x.f2.length c2_) from congrArg (fun l => l[2]?) he)) with ha_ _ _; rw [ha_]; exact g2_)⟩
theorem k100_mkF (W : World) (ok : Nat → Prop) (x : S100) {A2 : Option Addr} {c2 : Nat} (l2 : x.f2.length ≤ c2) (g2 : Kd.F (Kd.int .i64) W ok A2 x.f2.length x.f2) : Kd.FK k100 W ok x [.int .i32 x.f0, .int .u32 x.f1, .slice A2 x.f2.length c2] := fun W2 hW => k100_mk W2 x l2 (g2 W2 hW)
def rd_T100 (xs : List S100) (i : Int) : S100 := xs.getD i.toNat z100
theorem at_T100 {w : World} {A : Option Addr} {n : Nat} {xs : List S100} (h : Kd.C k100 w A n xs) (i : Int) (h0 : 0 ≤ i) (h1 : i < n) : ∃ ad A2 c2, A = some ad ∧ w.cell? (ad.add (i.toNat * 3)) = some (.int .i32 (rd_T100 xs i).f0) ∧ w.cell? ⟨(ad.add (i.toNat * 3)).block, (ad.add (i.toNat * 3)).off + 1, none⟩ = some (.int .u32 (rd_T100 xs i).f1) ∧ w.cell? ⟨(ad.add (i.toNat * 3)).block, (ad.add (i.toNat * 3)).off + 2, none⟩ = some (.slice A2 (rd_T100 xs i).f2.length c2) ∧ (rd_T100 xs i).f2.length ≤ c2 ∧ (Kd.int .i64).C w A2 (rd_T100 xs i).f2.length (rd_T100 xs i).f2 := by
  obtain ⟨ad, c, e, _, hK, hc0⟩ := Kd.C_get h z100 i h0 h1
  have hc : ∀ j u, c[j]? = some u → w.cell? (ad.add (i.toNat * 3 + j)) = some u := hc0
  obtain ⟨A2, c2, rfl, l2, g2⟩ := k100_open hK
  exact ⟨ad, A2, c2, e, hc 0 _ rfl, by rw [← add_field _ _ 1 (by omega)]; exact hc 1 _ rfl, by rw [← add_field _ _ 2 (by omega)]; exact hc 2 _ rfl, l2, g2⟩

def rd_L6 (xs : List (List Int)) (i : Int) : (List Int) := xs.getD i.toNat ([] : List Int)
theorem at_L6 {w : World} {A : Option Addr} {n : Nat} {xs : List (List Int)} (h : Kd.C (Kd.slice 92 (Kd.int .u64)) w A n xs) (i : Int) (h0 : 0 ≤ i) (h1 : i < n) : ∃ ad A0 c0, A = some ad ∧ w.cell? (ad.add i.toNat) = some (.slice A0 (rd_L6 xs i).length c0) ∧ (rd_L6 xs i).length ≤ c0 ∧ (Kd.int .u64).C w A0 (rd_L6 xs i).length (rd_L6 xs i) := by
  obtain ⟨ad, c, e, _, hK, hc0⟩ := Kd.C_get h ([] : List Int) i h0 h1
  have hc : ∀ j u, c[j]? = some u → w.cell? (ad.add (i.toNat * 1 + j)) = some u := hc0
  obtain ⟨A0, c0, rfl, l0, g0⟩ := hK
  exact ⟨ad, A0, c0, e, by have hq := hc 0 _ rfl; rwa [Nat.mul_one, Nat.add_zero] at hq, l0, g0⟩

/-! #### struct type 135 -/
structure S135 where
  f0 : S100
  f1 : (List Int)
def z135 : S135 := ⟨z100, ([] : List Int)⟩
def k135 : Kd S135 := Kd.iso (Kd.pair k100 (Kd.slice 92 (Kd.int .u64))) (fun x : S135 => (x.f0, x.f1))
theorem k135_open {w : World} {x : S135} {cs : List Value} (h : k135.K w x cs) : ∃ A2 c2 A3 c3, cs = [.int .i32 x.f0.f0, .int .u32 x.f0.f1, .slice A2 x.f0.f2.length c2, .slice A3 x.f1.length c3] ∧ x.f0.f2.length ≤ c2 ∧ (Kd.int .i64).C w A2 x.f0.f2.length x.f0.f2 ∧ x.f1.length ≤ c3 ∧ (Kd.int .u64).C w A3 x.f1.length x.f1 := by
  obtain ⟨_, _, rfl, s0, ⟨A3, c3, rfl, l3, g3⟩⟩ := h
  obtain ⟨A2, c2, rfl, l2, g2⟩ := k100_open s0
  exact ⟨A2, c2, A3, c3, rfl, l2, g2, l3, g3⟩
theorem k135_openM {w : World} {base : Nat} {ok : Nat → Prop} {x : S135} {cs : List Value} (h : k135.M w base ok x cs) : ∃ v2 v3, cs = [.int .i32 x.f0.f0, .int .u32 x.f0.f1, v2, v3] ∧ (Kd.int .i64).R 3 w base ok v2 x.f0.f2 ∧ (Kd.int .u64).R 92 w base ok v3 x.f1 := by
  obtain ⟨_, _, rfl, s0, ⟨v3, rfl, g3⟩⟩ := h
  obtain ⟨v2, rfl, g2⟩ := k100_openM s0
  exact ⟨v2, v3, rfl, g2, g3⟩
theorem k135_mk (w : World) (x : S135) {A2 : Option Addr} {c2 : Nat} (l2 : x.f0.f2.length ≤ c2) (g2 : (Kd.int .i64).C w A2 x.f0.f2.length x.f0.f2) {A3 : Option Addr} {c3 : Nat} (l3 : x.f1.length ≤ c3) (g3 : (Kd.int .u64).C w A3 x.f1.length x.f1) : k135.K w x [.int .i32 x.f0.f0, .int .u32 x.f0.f1, .slice A2 x.f0.f2.length c2, .slice A3 x.f1.length c3] := ⟨[.int .i32 x.f0.f0, .int .u32 x.f0.f1, .slice A2 x.f0.f2.length c2], [.slice A3 x.f1.length c3], rfl, (k100_mk w x.f0 l2 g2), ⟨A3, c3, rfl, l3, g3⟩⟩
theorem k135_mkM (w : World) (base : Nat) (ok : Nat → Prop) (x : S135) {v2 : Value} (g2 : (Kd.int .i64).R 3 w base ok v2 x.f0.f2) {v3 : Value} (g3 : (Kd.int .u64).R 92 w base ok v3 x.f1) : k135.M w base ok x [.int .i32 x.f0.f0, .int .u32 x.f0.f1, v2, v3] := ⟨[.int .i32 x.f0.f0, .int .u32 x.f0.f1, v2], [v3], rfl, (k100_mkM w base ok x.f0 g2), ⟨v3, rfl, g3⟩⟩
theorem k135_openF {W : World} {ok : Nat → Prop} {x : S135} {cs : List Value} (h : Kd.FK k135 W ok x cs) : ∃ A2 c2 A3 c3, cs = [.int .i32 x.f0.f0, .int .u32 x.f0.f1, .slice A2 x.f0.f2.length c2, .slice A3 x.f1.length c3] ∧ x.f0.f2.length ≤ c2 ∧ Kd.F (Kd.int .i64) W ok A2 x.f0.f2.length x.f0.f2 ∧ x.f1.length ≤ c3 ∧ Kd.F (Kd.int .u64) W ok A3 x.f1.length x.f1 := by
  obtain ⟨A2, c2, A3, c3, rfl, l2, _, l3, _⟩ := k135_open (Kd.FK_now h)
  exact ⟨A2, c2, A3, c3, rfl, l2, (fun W' hW => by obtain ⟨A2_, c2_, A3_, c3_, he, l2_, g2_, l3_, g3_⟩ := k135_open (h W' hW); injection (Option.some.inj (show some (Value.slice A2 x.f0.f2.length c2) = some (Value.slice A2_ x.f0.f2.length c2_) from congrArg (fun l => l[2]?) he)) with ha_ _ _; rw [ha_]; exact g2_), l3, (fun W' hW => by obtain ⟨A2_, c2_, A3_, c3_, he, l2_, g2_, l3_, g3_⟩ := k135_open (h W' hW); injection (Option.some.inj (show some (Value.slice A3 x.f1.length c3) = some (Value.slice A3_ x.f1.length c3_) from congrArg (fun l => l[3]?) he)) with ha_ _ _; rw [ha_]; exact g3_)⟩
theorem k135_mkF (W : World) (ok : Nat → Prop) (x : S135) {A2 : Option Addr} {c2 : Nat} (l2 : x.f0.f2.length ≤ c2) (g2 : Kd.F (Kd.int .i64) W ok A2 x.f0.f2.length x.f0.f2) {A3 : Option Addr} {c3 : Nat} (l3 : x.f1.length ≤ c3) (g3 : Kd.F (Kd.int .u64) W ok A3 x.f1.length x.f1) : Kd.FK k135 W ok x [.int .i32 x.f0.f0, .int .u32 x.f0.f1, .slice A2 x.f0.f2.length c2, .slice A3 x.f1.length c3] := fun W2 hW => k135_mk W2 x l2 (g2 W2 hW) l3 (g3 W2 hW)
def rd_T135 (xs : List S135) (i : Int) : S135 := xs.getD i.toNat z135
theorem at_T135 {w : World} {A : Option Addr} {n : Nat} {xs : List S135} (h : Kd.C k135 w A n xs) (i : Int) (h0 : 0 ≤ i) (h1 : i < n) : ∃ ad A2 c2 A3 c3, A = some ad ∧ w.cell? (ad.add (i.toNat * 4)) = some (.int .i32 (rd_T135 xs i).f0.f0) ∧ w.cell? ⟨(ad.add (i.toNat * 4)).block, (ad.add (i.toNat * 4)).off + 1, none⟩ = some (.int .u32 (rd_T135 xs i).f0.f1) ∧ w.cell? ⟨(ad.add (i.toNat * 4)).block, (ad.add (i.toNat * 4)).off + 2, none⟩ = some (.slice A2 (rd_T135 xs i).f0.f2.length c2) ∧ w.cell? ⟨(ad.add (i.toNat * 4)).block, (ad.add (i.toNat * 4)).off + 3, none⟩ = some (.slice A3 (rd_T135 xs i).f1.length c3) ∧ (rd_T135 xs i).f0.f2.length ≤ c2 ∧ (Kd.int .i64).C w A2 (rd_T135 xs i).f0.f2.length (rd_T135 xs i).f0.f2 ∧ (rd_T135 xs i).f1.length ≤ c3 ∧ (Kd.int .u64).C w A3 (rd_T135 xs i).f1.length (rd_T135 xs i).f1 := by
  obtain ⟨ad, c, e, _, hK, hc0⟩ := Kd.C_get h z135 i h0 h1
  have hc : ∀ j u, c[j]? = some u → w.cell? (ad.add (i.toNat * 4 + j)) = some u := hc0
  obtain ⟨A2, c2, A3, c3, rfl, l2, g2, l3, g3⟩ := k135_open hK
  exact ⟨ad, A2, c2, A3, c3, e, hc 0 _ rfl, by rw [← add_field _ _ 1 (by omega)]; exact hc 1 _ rfl, by rw [← add_field _ _ 2 (by omega)]; exact hc 2 _ rfl, by rw [← add_field _ _ 3 (by omega)]; exact hc 3 _ rfl, l2, g2, l3, g3⟩

def rd_L8 (xs : List (List Int)) (i : Int) : (List Int) := xs.getD i.toNat ([] : List Int)
theorem at_L8 {w : World} {A : Option Addr} {n : Nat} {xs : List (List Int)} (h : Kd.C (Kd.slice 21 (Kd.int .i32)) w A n xs) (i : Int) (h0 : 0 ≤ i) (h1 : i < n) : ∃ ad A0 c0, A = some ad ∧ w.cell? (ad.add i.toNat) = some (.slice A0 (rd_L8 xs i).length c0) ∧ (rd_L8 xs i).length ≤ c0 ∧ (Kd.int .i32).C w A0 (rd_L8 xs i).length (rd_L8 xs i) := by
  obtain ⟨ad, c, e, _, hK, hc0⟩ := Kd.C_get h ([] : List Int) i h0 h1
  have hc : ∀ j u, c[j]? = some u → w.cell? (ad.add (i.toNat * 1 + j)) = some u := hc0
  obtain ⟨A0, c0, rfl, l0, g0⟩ := hK
  exact ⟨ad, A0, c0, e, by have hq := hc 0 _ rfl; rwa [Nat.mul_one, Nat.add_zero] at hq, l0, g0⟩

def rd_L9 (xs : List (List (List Int))) (i : Int) : (List (List Int)) := xs.getD i.toNat ([] : List (List Int))
theorem at_L9 {w : World} {A : Option Addr} {n : Nat} {xs : List (List (List Int))} (h : Kd.C (Kd.slice 22 (Kd.slice 21 (Kd.int .i32))) w A n xs) (i : Int) (h0 : 0 ≤ i) (h1 : i < n) : ∃ ad A0 c0, A = some ad ∧ w.cell? (ad.add i.toNat) = some (.slice A0 (rd_L9 xs i).length c0) ∧ (rd_L9 xs i).length ≤ c0 ∧ (Kd.slice 21 (Kd.int .i32)).C w A0 (rd_L9 xs i).length (rd_L9 xs i) := by
  obtain ⟨ad, c, e, _, hK, hc0⟩ := Kd.C_get h ([] : List (List Int)) i h0 h1
  have hc : ∀ j u, c[j]? = some u → w.cell? (ad.add (i.toNat * 1 + j)) = some u := hc0
  obtain ⟨A0, c0, rfl, l0, g0⟩ := hK
  exact ⟨ad, A0, c0, e, by have hq := hc 0 _ rfl; rwa [Nat.mul_one, Nat.add_zero] at hq, l0, g0⟩

end Go.Proofs.Yteflolamihhmdaa.Q

namespace Go.Proofs.Yteflolamihhmdaa.Q
open Go.RowKit Go.Proofs.YteflolamihhmdaaW.PrintWords Go.Proofs.YteflolamihhmdaaW.PrintLast Go.Proofs.YteflolamihhmdaaW.PrintMore
attribute [local go_sem] max2_int min2_int max_two min_two max_three min_three max_four min_four   -- for this text's walks alone
set_option linter.unusedVariables false
set_option linter.unusedSimpArgs false

/-! ### fix_cut: function 71 -/
def fix_cut.f (a0 : Int) (a1 : Int) (a2 : Int) : Option (Int) := some (wrap32 (mn (mx a0 a1) a2))
set_option maxHeartbeats 8000000 in
set_option maxRecDepth 100000 in
theorem fix_cut.calls (a0 : Int) (a1 : Int) (a2 : Int) (r : Int) (w : World) (h : fix_cut.f a0 a1 a2 = some r) :
    Calls Try.prog 71 #[.int .i64 a0, .int .i64 a1, .int .i64 a2] w fun e w' => e = .returned (.int .i32 r) ∧ Below w.heap.size w w' := by
  have HB := Aside0.mk (Below.refl w.heap.size w)
  have H : (some (wrap32 (mn (mx a0 a1) a2))) = some r := h
  clear h
  obtain ⟨ji4, hji4⟩ : ∃ j_ : Int, (mx a0 a1) = j_ := ⟨_, rfl⟩
  replace H : (some (wrap32 (mn (ji4) a2))) = some r := by first | (rw [hji4] at H; exact H) | (simp only [hji4] at H ⊢; exact H)
  have hji4_ : (if a0 < a1 then a1 else a0) = ji4 := hji4
  obtain ⟨ji5, hji5⟩ : ∃ j_ : Int, (mn (ji4) a2) = j_ := ⟨_, rfl⟩
  replace H : (some (wrap32 (ji5))) = some r := by first | (rw [hji5] at H; exact H) | (simp only [hji5] at H ⊢; exact H)
  have hji5_ : (if a2 < (ji4) then a2 else (ji4)) = ji5 := hji5
  obtain rfl := Option.some.inj H
  go_enter Try.func71, Try.ntmps71
  go_wp2
  go_ret
  exact ⟨by first | rfl | (simp [errW_none, errW_some] <;> rfl) | (simp only [← hji4, ← hji5]; first | rfl | (simp [errW_none, errW_some] <;> rfl)) | (simp [*, errW_none, errW_some] <;> rfl), by repeat (first | (with_reducible first | exact HB.out | apply below_alloc | apply pw_below_drewN | apply below_drew1) | exact HB.out)⟩

end Go.Proofs.Yteflolamihhmdaa.Q

namespace Go.Proofs.Yteflolamihhmdaa.Q
open Go.RowKit Go.Proofs.YteflolamihhmdaaW.PrintWords Go.Proofs.YteflolamihhmdaaW.PrintLast Go.Proofs.YteflolamihhmdaaW.PrintMore
attribute [local go_sem] max2_int min2_int max_two min_two max_three min_three max_four min_four   -- for this text's walks alone
set_option linter.unusedVariables false
set_option linter.unusedSimpArgs false

/-! ### fix_Wide: function 47 -/
def fix_Wide.f (a0 : Int) : Option (Int) := (fix_cut.f a0 (-2147483648) 2147483647).bind fun t114 => (some t114)
set_option maxHeartbeats 8000000 in
set_option maxRecDepth 100000 in
theorem fix_Wide.calls (a0 : Int) (r : Int) (w : World) (h : fix_Wide.f a0 = some r) :
    Calls Try.prog 47 #[.int .i64 a0] w fun e w' => e = .returned (.int .i32 r) ∧ Below w.heap.size w w' := by
  have HB := Aside0.mk (Below.refl w.heap.size w)
  have H : ((fix_cut.f a0 (-2147483648) 2147483647).bind fun t114 => (some t114)) = some r := h
  clear h
  replace H := Option.bind_eq_some_iff.mp H
  obtain ⟨t114, A20, H⟩ := H
  replace H : (some t114) = some r := H
  have A2 := Aside0.mk A20
  clear A20
  obtain rfl := Option.some.inj H
  go_enter Try.func47, Try.ntmps47
  go_wp2_with (first | ((with_reducible refine gate_callee (f := 71) rfl ?_); refine goesL_ (some 4) rfl rfl Try.func71 (by kernel_rfl) rfl #[.int .i64 a0, .int .i64 (-2147483648), .int .i64 2147483647] rfl (by (try simp only [List.map_toArray, List.map_cons, List.map_nil]); first | done | rfl | (simp only [List.length_drop, List.length_take]; rfl)) ?_; (with_reducible refine (fix_cut.calls a0 (-2147483648) 2147483647 t114 _ A2.out).mono ?_); rintro e w3 ⟨rfl, hb⟩; refine ⟨_, rfl, ?_⟩; have n0_ := Aside0.mk (below_step (by repeat (first | (with_reducible first | exact HB.out | apply below_alloc | apply pw_below_drewN | apply below_drew1) | exact HB.out)) hb); clear HB; have HB := n0_; clear n0_; (try clear hb); (try clear hb2); (try clear hk); (try clear hi)))
  go_ret
  exact ⟨by first | rfl | (simp [errW_none, errW_some] <;> rfl) | (simp [*, errW_none, errW_some] <;> rfl), by repeat (first | (with_reducible first | exact HB.out | apply below_alloc | apply pw_below_drewN | apply below_drew1) | exact HB.out)⟩

end Go.Proofs.Yteflolamihhmdaa.Q

namespace Go.Proofs.Yteflolamihhmdaa.Q
open Go.RowKit Go.Proofs.YteflolamihhmdaaW.PrintWords Go.Proofs.YteflolamihhmdaaW.PrintLast Go.Proofs.YteflolamihhmdaaW.PrintMore
attribute [local go_sem] max2_int min2_int max_two min_two max_three min_three max_four min_four   -- for this text's walks alone
set_option linter.unusedVariables false
set_option linter.unusedSimpArgs false

/-! ### fix_Half: function 48 -/
def fix_Half.f (a0 : Int) (a1 : Int) : Option (Int) := if (wrap64 (a0 - (wrap64 ((a0 / 2 ^ (mn (mx a1 0) 62).toNat) * 2 ^ (mn (mx a1 0) 62).toNat)))) > ((wrap64 (2 ^ (mn (mx a1 0) 62).toNat)) / 2) then (some (wrap64 ((a0 / 2 ^ (mn (mx a1 0) 62).toNat) + 1))) else (if (wrap64 (a0 - (wrap64 ((a0 / 2 ^ (mn (mx a1 0) 62).toNat) * 2 ^ (mn (mx a1 0) 62).toNat)))) = ((wrap64 (2 ^ (mn (mx a1 0) 62).toNat)) / 2) then (if (mn (mx a1 0) 62) > 0 then (if (Go.bits .and .i64 (a0 / 2 ^ (mn (mx a1 0) 62).toNat) 1) = 1 then (some (wrap64 ((a0 / 2 ^ (mn (mx a1 0) 62).toNat) + 1))) else (some (a0 / 2 ^ (mn (mx a1 0) 62).toNat))) else (some (a0 / 2 ^ (mn (mx a1 0) 62).toNat))) else (some (a0 / 2 ^ (mn (mx a1 0) 62).toNat)))
set_option maxHeartbeats 8000000 in
set_option maxRecDepth 100000 in
theorem fix_Half.calls (a0 : Int) (a1 : Int) (r : Int) (w : World) (h : fix_Half.f a0 a1 = some r) :
    Calls Try.prog 48 #[.int .i64 a0, .int .i64 a1] w fun e w' => e = .returned (.int .i64 r) ∧ Below w.heap.size w w' := by
  have HB := Aside0.mk (Below.refl w.heap.size w)
  have H : (if (wrap64 (a0 - (wrap64 ((a0 / 2 ^ (mn (mx a1 0) 62).toNat) * 2 ^ (mn (mx a1 0) 62).toNat)))) > ((wrap64 (2 ^ (mn (mx a1 0) 62).toNat)) / 2) then (some (wrap64 ((a0 / 2 ^ (mn (mx a1 0) 62).toNat) + 1))) else (if (wrap64 (a0 - (wrap64 ((a0 / 2 ^ (mn (mx a1 0) 62).toNat) * 2 ^ (mn (mx a1 0) 62).toNat)))) = ((wrap64 (2 ^ (mn (mx a1 0) 62).toNat)) / 2) then (if (mn (mx a1 0) 62) > 0 then (if (Go.bits .and .i64 (a0 / 2 ^ (mn (mx a1 0) 62).toNat) 1) = 1 then (some (wrap64 ((a0 / 2 ^ (mn (mx a1 0) 62).toNat) + 1))) else (some (a0 / 2 ^ (mn (mx a1 0) 62).toNat))) else (some (a0 / 2 ^ (mn (mx a1 0) 62).toNat))) else (some (a0 / 2 ^ (mn (mx a1 0) 62).toNat)))) = some r := h
  clear h
  obtain ⟨ji3, hji3⟩ : ∃ j_ : Int, (mx a1 0) = j_ := ⟨_, rfl⟩
  replace H : (if (wrap64 (a0 - (wrap64 ((a0 / 2 ^ (mn (ji3) 62).toNat) * 2 ^ (mn (ji3) 62).toNat)))) > ((wrap64 (2 ^ (mn (ji3) 62).toNat)) / 2) then (some (wrap64 ((a0 / 2 ^ (mn (ji3) 62).toNat) + 1))) else (if (wrap64 (a0 - (wrap64 ((a0 / 2 ^ (mn (ji3) 62).toNat) * 2 ^ (mn (ji3) 62).toNat)))) = ((wrap64 (2 ^ (mn (ji3) 62).toNat)) / 2) then (if (mn (ji3) 62) > 0 then (if (Go.bits .and .i64 (a0 / 2 ^ (mn (ji3) 62).toNat) 1) = 1 then (some (wrap64 ((a0 / 2 ^ (mn (ji3) 62).toNat) + 1))) else (some (a0 / 2 ^ (mn (ji3) 62).toNat))) else (some (a0 / 2 ^ (mn (ji3) 62).toNat))) else (some (a0 / 2 ^ (mn (ji3) 62).toNat)))) = some r := by first | (rw [hji3] at H; exact H) | (simp only [hji3] at H ⊢; exact H)
  (try (have hji3l : 0 ≤ ji3 := by (rw [← hji3]; unfold mx; (repeat' split) <;> omega)))
  (try (have hji3m : 0 ≤ ji3 := by omega))
  have hji3_ : (if a1 < 0 then 0 else a1) = ji3 := hji3
  obtain ⟨ji4, hji4⟩ : ∃ j_ : Int, (mn (ji3) 62) = j_ := ⟨_, rfl⟩
  replace H : (if (wrap64 (a0 - (wrap64 ((a0 / 2 ^ (ji4).toNat) * 2 ^ (ji4).toNat)))) > ((wrap64 (2 ^ (ji4).toNat)) / 2) then (some (wrap64 ((a0 / 2 ^ (ji4).toNat) + 1))) else (if (wrap64 (a0 - (wrap64 ((a0 / 2 ^ (ji4).toNat) * 2 ^ (ji4).toNat)))) = ((wrap64 (2 ^ (ji4).toNat)) / 2) then (if (ji4) > 0 then (if (Go.bits .and .i64 (a0 / 2 ^ (ji4).toNat) 1) = 1 then (some (wrap64 ((a0 / 2 ^ (ji4).toNat) + 1))) else (some (a0 / 2 ^ (ji4).toNat))) else (some (a0 / 2 ^ (ji4).toNat))) else (some (a0 / 2 ^ (ji4).toNat)))) = some r := by first | (rw [hji4] at H; exact H) | (simp only [hji4] at H ⊢; exact H)
  have hji4_ : (if 62 < (ji3) then 62 else (ji3)) = ji4 := hji4
  by_cases c5 : (wrap64 (a0 - (wrap64 ((a0 / 2 ^ (ji4).toNat) * 2 ^ (ji4).toNat)))) > ((wrap64 (2 ^ (ji4).toNat)) / 2)
  · rw [if_pos c5] at H
    have c5b0 : decide (((wrap64 (2 ^ (ji4).toNat)) / 2) < (wrap64 (a0 - (wrap64 ((a0 / 2 ^ (ji4).toNat) * 2 ^ (ji4).toNat))))) = true := decide_eq_true c5
    clear c5
    obtain rfl := Option.some.inj H
    go_enter Try.func48, Try.ntmps48
    go_wp2
    repeat (go_quiet (fail); try go_wp2)
    go_ret
    exact ⟨by first | rfl | (simp [errW_none, errW_some] <;> rfl) | (simp only [← hji3, ← hji4]; first | rfl | (simp [errW_none, errW_some] <;> rfl)) | (simp [*, errW_none, errW_some] <;> rfl), by repeat (first | (with_reducible first | exact HB.out | apply below_alloc | apply pw_below_drewN | apply below_drew1) | exact HB.out)⟩
  · rw [if_neg c5] at H
    have c5b0 : decide (((wrap64 (2 ^ (ji4).toNat)) / 2) < (wrap64 (a0 - (wrap64 ((a0 / 2 ^ (ji4).toNat) * 2 ^ (ji4).toNat))))) = false := decide_eq_false c5
    clear c5
    by_cases c6 : (wrap64 (a0 - (wrap64 ((a0 / 2 ^ (ji4).toNat) * 2 ^ (ji4).toNat)))) = ((wrap64 (2 ^ (ji4).toNat)) / 2)
    · rw [if_pos c6] at H
      have c6b0 : ((wrap64 (a0 - (wrap64 ((a0 / 2 ^ (ji4).toNat) * 2 ^ (ji4).toNat)))) == ((wrap64 (2 ^ (ji4).toNat)) / 2)) = true := beq_iff_eq.mpr c6
      have c6b1 : ((wrap64 (a0 - (wrap64 ((a0 / 2 ^ (ji4).toNat) * 2 ^ (ji4).toNat)))) != ((wrap64 (2 ^ (ji4).toNat)) / 2)) = false := bne_eq_false_iff_eq.mpr c6
      clear c6
      by_cases c7 : (ji4) > 0
      · rw [if_pos c7] at H
        have c7b0 : decide (0 < (ji4)) = true := decide_eq_true c7
        clear c7
        by_cases c8 : (Go.bits .and .i64 (a0 / 2 ^ (ji4).toNat) 1) = 1
        · rw [if_pos c8] at H
          have c8b0 : ((Go.bits .and .i64 (a0 / 2 ^ (ji4).toNat) 1) == 1) = true := beq_iff_eq.mpr c8
          have c8b1 : ((Go.bits .and .i64 (a0 / 2 ^ (ji4).toNat) 1) != 1) = false := bne_eq_false_iff_eq.mpr c8
          clear c8
          obtain rfl := Option.some.inj H
          go_enter Try.func48, Try.ntmps48
          go_wp2
          repeat (go_quiet (fail); try go_wp2)
          go_ret
          exact ⟨by first | rfl | (simp [errW_none, errW_some] <;> rfl) | (simp only [← hji3, ← hji4]; first | rfl | (simp [errW_none, errW_some] <;> rfl)) | (simp [*, errW_none, errW_some] <;> rfl), by repeat (first | (with_reducible first | exact HB.out | apply below_alloc | apply pw_below_drewN | apply below_drew1) | exact HB.out)⟩
        · rw [if_neg c8] at H
          have c8b0 : ((Go.bits .and .i64 (a0 / 2 ^ (ji4).toNat) 1) == 1) = false := beq_eq_false_iff_ne.mpr c8
          have c8b1 : ((Go.bits .and .i64 (a0 / 2 ^ (ji4).toNat) 1) != 1) = true := bne_iff_ne.mpr c8
          obtain rfl := Option.some.inj H
          go_enter Try.func48, Try.ntmps48
          go_wp2
          repeat (go_quiet (fail); try go_wp2)
          go_ret
          exact ⟨by first | rfl | (simp [errW_none, errW_some] <;> rfl) | (simp only [← hji3, ← hji4]; first | rfl | (simp [errW_none, errW_some] <;> rfl)) | (simp [*, errW_none, errW_some] <;> rfl), by repeat (first | (with_reducible first | exact HB.out | apply below_alloc | apply pw_below_drewN | apply below_drew1) | exact HB.out)⟩
      · rw [if_neg c7] at H
        have c7b0 : decide (0 < (ji4)) = false := decide_eq_false c7
        clear c7
        obtain rfl := Option.some.inj H
        go_enter Try.func48, Try.ntmps48
        go_wp2
        repeat (go_quiet (fail); try go_wp2)
        go_ret
        exact ⟨by first | rfl | (simp [errW_none, errW_some] <;> rfl) | (simp only [← hji3, ← hji4]; first | rfl | (simp [errW_none, errW_some] <;> rfl)) | (simp [*, errW_none, errW_some] <;> rfl), by repeat (first | (with_reducible first | exact HB.out | apply below_alloc | apply pw_below_drewN | apply below_drew1) | exact HB.out)⟩
    · rw [if_neg c6] at H
      have c6b0 : ((wrap64 (a0 - (wrap64 ((a0 / 2 ^ (ji4).toNat) * 2 ^ (ji4).toNat)))) == ((wrap64 (2 ^ (ji4).toNat)) / 2)) = false := beq_eq_false_iff_ne.mpr c6
      have c6b1 : ((wrap64 (a0 - (wrap64 ((a0 / 2 ^ (ji4).toNat) * 2 ^ (ji4).toNat)))) != ((wrap64 (2 ^ (ji4).toNat)) / 2)) = true := bne_iff_ne.mpr c6
      obtain rfl := Option.some.inj H
      go_enter Try.func48, Try.ntmps48
      go_wp2
      repeat (go_quiet (fail); try go_wp2)
      go_ret
      exact ⟨by first | rfl | (simp [errW_none, errW_some] <;> rfl) | (simp only [← hji3, ← hji4]; first | rfl | (simp [errW_none, errW_some] <;> rfl)) | (simp [*, errW_none, errW_some] <;> rfl), by repeat (first | (with_reducible first | exact HB.out | apply below_alloc | apply pw_below_drewN | apply below_drew1) | exact HB.out)⟩

end Go.Proofs.Yteflolamihhmdaa.Q

namespace Go.Proofs.Yteflolamihhmdaa.Q
open Go.RowKit Go.Proofs.YteflolamihhmdaaW.PrintWords Go.Proofs.YteflolamihhmdaaW.PrintLast Go.Proofs.YteflolamihhmdaaW.PrintMore
attribute [local go_sem] max2_int min2_int max_two min_two max_three min_three max_four min_four   -- for this text's walks alone
set_option linter.unusedVariables false
set_option linter.unusedSimpArgs false

/-! ### fix_Mul: function 46 -/
def fix_Mul.f (a0 : Int) (a1 : Int) : Option (Int) := (fix_Half.f (wrap64 ((wrap64 (a0)) * (wrap64 (a1)))) 16).bind fun t115 => ((fix_Wide.f t115).bind fun t116 => (some t116))
set_option maxHeartbeats 8000000 in
set_option maxRecDepth 100000 in
theorem fix_Mul.calls (a0 : Int) (a1 : Int) (r : Int) (w : World) (h : fix_Mul.f a0 a1 = some r) :
    Calls Try.prog 46 #[.int .i32 a0, .int .i32 a1] w fun e w' => e = .returned (.int .i32 r) ∧ Below w.heap.size w w' := by
  have HB := Aside0.mk (Below.refl w.heap.size w)
  have H : ((fix_Half.f (wrap64 ((wrap64 (a0)) * (wrap64 (a1)))) 16).bind fun t115 => ((fix_Wide.f t115).bind fun t116 => (some t116))) = some r := h
  clear h
  replace H := Option.bind_eq_some_iff.mp H
  obtain ⟨t115, A30, H⟩ := H
  replace H : ((fix_Wide.f t115).bind fun t116 => (some t116)) = some r := H
  have A3 := Aside0.mk A30
  clear A30
  replace H := Option.bind_eq_some_iff.mp H
  obtain ⟨t116, A40, H⟩ := H
  replace H : (some t116) = some r := H
  have A4 := Aside0.mk A40
  clear A40
  obtain rfl := Option.some.inj H
  go_enter Try.func46, Try.ntmps46
  go_wp2_with (first | ((with_reducible refine gate_callee (f := 48) rfl ?_); refine goesL_ (some 10) rfl rfl Try.func48 (by kernel_rfl) rfl #[.int .i64 (wrap64 ((wrap64 (a0)) * (wrap64 (a1)))), .int .i64 16] rfl (by (try simp only [List.map_toArray, List.map_cons, List.map_nil]); first | done | rfl | (simp only [List.length_drop, List.length_take]; rfl)) ?_; (with_reducible refine (fix_Half.calls (wrap64 ((wrap64 (a0)) * (wrap64 (a1)))) 16 t115 _ A3.out).mono ?_); rintro e w5 ⟨rfl, hb⟩; refine ⟨_, rfl, ?_⟩; have n0_ := Aside0.mk (below_step (by repeat (first | (with_reducible first | exact HB.out | apply below_alloc | apply pw_below_drewN | apply below_drew1) | exact HB.out)) hb); clear HB; have HB := n0_; clear n0_; (try clear hb); (try clear hb2); (try clear hk); (try clear hi)) | ((with_reducible refine gate_callee (f := 47) rfl ?_); refine goesL_ (some 11) rfl rfl Try.func47 (by kernel_rfl) rfl #[.int .i64 t115] rfl (by (try simp only [List.map_toArray, List.map_cons, List.map_nil]); first | done | rfl | (simp only [List.length_drop, List.length_take]; rfl)) ?_; (with_reducible refine (fix_Wide.calls t115 t116 _ A4.out).mono ?_); rintro e w6 ⟨rfl, hb⟩; refine ⟨_, rfl, ?_⟩; have n0_ := Aside0.mk (below_step (by repeat (first | (with_reducible first | exact HB.out | apply below_alloc | apply pw_below_drewN | apply below_drew1) | exact HB.out)) hb); clear HB; have HB := n0_; clear n0_; (try clear hb); (try clear hb2); (try clear hk); (try clear hi)))
  go_ret
  exact ⟨by first | rfl | (simp [errW_none, errW_some] <;> rfl) | (simp [*, errW_none, errW_some] <;> rfl), by repeat (first | (with_reducible first | exact HB.out | apply below_alloc | apply pw_below_drewN | apply below_drew1) | exact HB.out)⟩

end Go.Proofs.Yteflolamihhmdaa.Q

namespace Go.Proofs.Yteflolamihhmdaa.Q
open Go.RowKit Go.Proofs.YteflolamihhmdaaW.PrintWords Go.Proofs.YteflolamihhmdaaW.PrintLast Go.Proofs.YteflolamihhmdaaW.PrintMore
attribute [local go_sem] max2_int min2_int max_two min_two max_three min_three max_four min_four   -- for this text's walks alone
set_option linter.unusedVariables false
set_option linter.unusedSimpArgs false

/-! ### credenzaref01_Cut: function 50 -/
def credenzaref01_Cut.f (a0 : Int) (a1 : Int) (a2 : Int) : Option (Int) := if a0 < a1 then (some a1) else (if a0 > a2 then (some a2) else (some a0))
set_option maxHeartbeats 8000000 in
set_option maxRecDepth 100000 in
theorem credenzaref01_Cut.calls (a0 : Int) (a1 : Int) (a2 : Int) (r : Int) (w : World) (h : credenzaref01_Cut.f a0 a1 a2 = some r) :
    Calls Try.prog 50 #[.int .i64 a0, .int .i64 a1, .int .i64 a2] w fun e w' => e = .returned (.int .i64 r) ∧ Drawn0 w w' := by
  have H : (if a0 < a1 then (some a1) else (if a0 > a2 then (some a2) else (some a0))) = some r := h
  clear h
  by_cases c4 : a0 < a1
  · rw [if_pos c4] at H
    have c4b0 : decide (a0 < a1) = true := decide_eq_true c4
    clear c4
    obtain rfl := Option.some.inj H
    go_enter Try.func50, Try.ntmps50
    go_wp2
    go_ret
    exact ⟨by first | rfl | (simp; done) | (simp [*]; done), by repeat (first | exact Drawn0.refl _ | apply Drawn0.step)⟩
  · rw [if_neg c4] at H
    have c4b0 : decide (a0 < a1) = false := decide_eq_false c4
    clear c4
    by_cases c5 : a0 > a2
    · rw [if_pos c5] at H
      have c5b0 : decide (a2 < a0) = true := decide_eq_true c5
      clear c5
      obtain rfl := Option.some.inj H
      go_enter Try.func50, Try.ntmps50
      go_wp2
      go_ret
      exact ⟨by first | rfl | (simp; done) | (simp [*]; done), by repeat (first | exact Drawn0.refl _ | apply Drawn0.step)⟩
    · rw [if_neg c5] at H
      have c5b0 : decide (a2 < a0) = false := decide_eq_false c5
      clear c5
      obtain rfl := Option.some.inj H
      go_enter Try.func50, Try.ntmps50
      go_wp2
      go_ret
      exact ⟨by first | rfl | (simp; done) | (simp [*]; done), by repeat (first | exact Drawn0.refl _ | apply Drawn0.step)⟩

end Go.Proofs.Yteflolamihhmdaa.Q

namespace Go.Proofs.Yteflolamihhmdaa.Q
open Go.RowKit Go.Proofs.YteflolamihhmdaaW.PrintWords Go.Proofs.YteflolamihhmdaaW.PrintLast Go.Proofs.YteflolamihhmdaaW.PrintMore
attribute [local go_sem] max2_int min2_int max_two min_two max_three min_three max_four min_four   -- for this text's walks alone
set_option linter.unusedVariables false
set_option linter.unusedSimpArgs false

/-! ### credenzaref01_Wide: function 28 -/
def credenzaref01_Wide.f (a0 : Int) : Option (Int) := (credenzaref01_Cut.f a0 (-2147483648) 2147483647).bind fun t201 => (some (wrap32 (t201)))
set_option maxHeartbeats 8000000 in
set_option maxRecDepth 100000 in
theorem credenzaref01_Wide.calls (a0 : Int) (r : Int) (w : World) (h : credenzaref01_Wide.f a0 = some r) :
    Calls Try.prog 28 #[.int .i64 a0] w fun e w' => e = .returned (.int .i32 r) ∧ Drawn0 w w' := by
  have H : ((credenzaref01_Cut.f a0 (-2147483648) 2147483647).bind fun t201 => (some (wrap32 (t201)))) = some r := h
  clear h
  replace H := Option.bind_eq_some_iff.mp H
  obtain ⟨t201, A20, H⟩ := H
  replace H : (some (wrap32 (t201))) = some r := H
  have A2 := Aside0.mk A20
  clear A20
  obtain rfl := Option.some.inj H
  go_enter Try.func28, Try.ntmps28
  go_wp2_with (first | ((with_reducible refine gate_callee (f := 50) rfl ?_); refine goesL_ (some 4) rfl rfl Try.func50 (by kernel_rfl) rfl #[.int .i64 a0, .int .i64 (-2147483648), .int .i64 2147483647] rfl (by (try simp only [List.map_toArray, List.map_cons, List.map_nil]); first | done | rfl | (simp only [List.length_drop, List.length_take]; rfl)) ?_; (with_reducible refine (credenzaref01_Cut.calls a0 (-2147483648) 2147483647 t201 _ A2.out).mono ?_); rintro e w' ⟨rfl, ⟨nd, rfl⟩⟩; refine ⟨_, rfl, ?_⟩))
  go_ret
  exact ⟨by first | rfl | (simp; done) | (simp [*]; done), by repeat (first | exact Drawn0.refl _ | apply Drawn0.step)⟩

end Go.Proofs.Yteflolamihhmdaa.Q

namespace Go.Proofs.Yteflolamihhmdaa.Q
open Go.RowKit Go.Proofs.YteflolamihhmdaaW.PrintWords Go.Proofs.YteflolamihhmdaaW.PrintLast Go.Proofs.YteflolamihhmdaaW.PrintMore
attribute [local go_sem] max2_int min2_int max_two min_two max_three min_three max_four min_four   -- for this text's walks alone
set_option linter.unusedVariables false
set_option linter.unusedSimpArgs false

/-! ### credenzaref01_Floor: function 51 -/
def credenzaref01_Floor.f (a0 : Int) (a1 : Int) : Option (Int) := if a1 = 0 then (none) else (if (wrap64 ((wrap64 (Int.tdiv a0 a1)) * a1)) > a0 then (some (wrap64 ((wrap64 (Int.tdiv a0 a1)) - 1))) else (some (wrap64 (Int.tdiv a0 a1))))
set_option maxHeartbeats 8000000 in
set_option maxRecDepth 100000 in
theorem credenzaref01_Floor.calls (a0 : Int) (a1 : Int) (r : Int) (w : World) (h : credenzaref01_Floor.f a0 a1 = some r) :
    Calls Try.prog 51 #[.int .i64 a0, .int .i64 a1] w fun e w' => e = .returned (.int .i64 r) ∧ Drawn0 w w' := by
  have H : (if a1 = 0 then (none) else (if (wrap64 ((wrap64 (Int.tdiv a0 a1)) * a1)) > a0 then (some (wrap64 ((wrap64 (Int.tdiv a0 a1)) - 1))) else (some (wrap64 (Int.tdiv a0 a1))))) = some r := h
  clear h
  by_cases c3 : a1 = 0
  · rw [if_pos c3] at H
    exact absurd H (by simp)
  · rw [if_neg c3] at H
    have c3b0 : (a1 == 0) = false := beq_eq_false_iff_ne.mpr c3
    have c3b1 : (a1 != 0) = true := bne_iff_ne.mpr c3
    by_cases c4 : (wrap64 ((wrap64 (Int.tdiv a0 a1)) * a1)) > a0
    · rw [if_pos c4] at H
      have c4b0 : decide (a0 < (wrap64 ((wrap64 (Int.tdiv a0 a1)) * a1))) = true := decide_eq_true c4
      clear c4
      obtain rfl := Option.some.inj H
      go_enter Try.func51, Try.ntmps51
      go_wp2
      go_ret
      exact ⟨by first | rfl | (simp; done) | (simp [*]; done), by repeat (first | exact Drawn0.refl _ | apply Drawn0.step)⟩
    · rw [if_neg c4] at H
      have c4b0 : decide (a0 < (wrap64 ((wrap64 (Int.tdiv a0 a1)) * a1))) = false := decide_eq_false c4
      clear c4
      obtain rfl := Option.some.inj H
      go_enter Try.func51, Try.ntmps51
      go_wp2
      go_ret
      exact ⟨by first | rfl | (simp; done) | (simp [*]; done), by repeat (first | exact Drawn0.refl _ | apply Drawn0.step)⟩

end Go.Proofs.Yteflolamihhmdaa.Q

namespace Go.Proofs.Yteflolamihhmdaa.Q
open Go.RowKit Go.Proofs.YteflolamihhmdaaW.PrintWords Go.Proofs.YteflolamihhmdaaW.PrintLast Go.Proofs.YteflolamihhmdaaW.PrintMore
attribute [local go_sem] max2_int min2_int max_two min_two max_three min_three max_four min_four   -- for this text's walks alone
set_option linter.unusedVariables false
set_option linter.unusedSimpArgs false

/-! ### credenzaref01_Ratio: function 29 -/
def credenzaref01_Ratio.f (a0 : Int) (a1 : Int) : Option (Int) := (credenzaref01_Floor.f a0 a1).bind fun t202 => (if (wrap64 (a0 - (wrap64 (t202 * a1)))) > (wrap64 (a1 - (wrap64 (a0 - (wrap64 (t202 * a1)))))) then (some (wrap64 (t202 + 1))) else (if (wrap64 (a0 - (wrap64 (t202 * a1)))) = (wrap64 (a1 - (wrap64 (a0 - (wrap64 (t202 * a1)))))) then (if (Int.tmod t202 2) = 0 then (some t202) else (some (wrap64 (t202 + 1)))) else (some t202)))
set_option maxHeartbeats 8000000 in
set_option maxRecDepth 100000 in
theorem credenzaref01_Ratio.calls (a0 : Int) (a1 : Int) (r : Int) (w : World) (h : credenzaref01_Ratio.f a0 a1 = some r) :
    Calls Try.prog 29 #[.int .i64 a0, .int .i64 a1] w fun e w' => e = .returned (.int .i64 r) ∧ Drawn0 w w' := by
  have H : ((credenzaref01_Floor.f a0 a1).bind fun t202 => (if (wrap64 (a0 - (wrap64 (t202 * a1)))) > (wrap64 (a1 - (wrap64 (a0 - (wrap64 (t202 * a1)))))) then (some (wrap64 (t202 + 1))) else (if (wrap64 (a0 - (wrap64 (t202 * a1)))) = (wrap64 (a1 - (wrap64 (a0 - (wrap64 (t202 * a1)))))) then (if (Int.tmod t202 2) = 0 then (some t202) else (some (wrap64 (t202 + 1)))) else (some t202)))) = some r := h
  clear h
  replace H := Option.bind_eq_some_iff.mp H
  obtain ⟨t202, A30, H⟩ := H
  replace H : (if (wrap64 (a0 - (wrap64 (t202 * a1)))) > (wrap64 (a1 - (wrap64 (a0 - (wrap64 (t202 * a1)))))) then (some (wrap64 (t202 + 1))) else (if (wrap64 (a0 - (wrap64 (t202 * a1)))) = (wrap64 (a1 - (wrap64 (a0 - (wrap64 (t202 * a1)))))) then (if (Int.tmod t202 2) = 0 then (some t202) else (some (wrap64 (t202 + 1)))) else (some t202))) = some r := H
  have A3 := Aside0.mk A30
  clear A30
  by_cases c4 : (wrap64 (a0 - (wrap64 (t202 * a1)))) > (wrap64 (a1 - (wrap64 (a0 - (wrap64 (t202 * a1))))))
  · rw [if_pos c4] at H
    have c4b0 : decide ((wrap64 (a1 - (wrap64 (a0 - (wrap64 (t202 * a1)))))) < (wrap64 (a0 - (wrap64 (t202 * a1))))) = true := decide_eq_true c4
    clear c4
    obtain rfl := Option.some.inj H
    go_enter Try.func29, Try.ntmps29
    go_wp2_with (first | ((with_reducible refine gate_callee (f := 51) rfl ?_); refine goesL_ (some 10) rfl rfl Try.func51 (by kernel_rfl) rfl #[.int .i64 a0, .int .i64 a1] rfl (by (try simp only [List.map_toArray, List.map_cons, List.map_nil]); first | done | rfl | (simp only [List.length_drop, List.length_take]; rfl)) ?_; (with_reducible refine (credenzaref01_Floor.calls a0 a1 t202 _ A3.out).mono ?_); rintro e w' ⟨rfl, ⟨nd, rfl⟩⟩; refine ⟨_, rfl, ?_⟩))
    go_ret
    exact ⟨by first | rfl | (simp; done) | (simp [*]; done), by repeat (first | exact Drawn0.refl _ | apply Drawn0.step)⟩
  · rw [if_neg c4] at H
    have c4b0 : decide ((wrap64 (a1 - (wrap64 (a0 - (wrap64 (t202 * a1)))))) < (wrap64 (a0 - (wrap64 (t202 * a1))))) = false := decide_eq_false c4
    clear c4
    by_cases c5 : (wrap64 (a0 - (wrap64 (t202 * a1)))) = (wrap64 (a1 - (wrap64 (a0 - (wrap64 (t202 * a1))))))
    · rw [if_pos c5] at H
      have c5b0 : ((wrap64 (a0 - (wrap64 (t202 * a1)))) == (wrap64 (a1 - (wrap64 (a0 - (wrap64 (t202 * a1))))))) = true := beq_iff_eq.mpr c5
      have c5b1 : ((wrap64 (a0 - (wrap64 (t202 * a1)))) != (wrap64 (a1 - (wrap64 (a0 - (wrap64 (t202 * a1))))))) = false := bne_eq_false_iff_eq.mpr c5
      clear c5
      by_cases c6 : (Int.tmod t202 2) = 0
      · rw [if_pos c6] at H
        have c6b0 : ((Int.tmod t202 2) == 0) = true := beq_iff_eq.mpr c6
        have c6b1 : ((Int.tmod t202 2) != 0) = false := bne_eq_false_iff_eq.mpr c6
        clear c6
        obtain rfl := Option.some.inj H
        go_enter Try.func29, Try.ntmps29
        go_wp2_with (first | ((with_reducible refine gate_callee (f := 51) rfl ?_); refine goesL_ (some 10) rfl rfl Try.func51 (by kernel_rfl) rfl #[.int .i64 a0, .int .i64 a1] rfl (by (try simp only [List.map_toArray, List.map_cons, List.map_nil]); first | done | rfl | (simp only [List.length_drop, List.length_take]; rfl)) ?_; (with_reducible refine (credenzaref01_Floor.calls a0 a1 t202 _ A3.out).mono ?_); rintro e w' ⟨rfl, ⟨nd, rfl⟩⟩; refine ⟨_, rfl, ?_⟩))
        go_ret
        exact ⟨by first | rfl | (simp; done) | (simp [*]; done), by repeat (first | exact Drawn0.refl _ | apply Drawn0.step)⟩
      · rw [if_neg c6] at H
        have c6b0 : ((Int.tmod t202 2) == 0) = false := beq_eq_false_iff_ne.mpr c6
        have c6b1 : ((Int.tmod t202 2) != 0) = true := bne_iff_ne.mpr c6
        obtain rfl := Option.some.inj H
        go_enter Try.func29, Try.ntmps29
        go_wp2_with (first | ((with_reducible refine gate_callee (f := 51) rfl ?_); refine goesL_ (some 10) rfl rfl Try.func51 (by kernel_rfl) rfl #[.int .i64 a0, .int .i64 a1] rfl (by (try simp only [List.map_toArray, List.map_cons, List.map_nil]); first | done | rfl | (simp only [List.length_drop, List.length_take]; rfl)) ?_; (with_reducible refine (credenzaref01_Floor.calls a0 a1 t202 _ A3.out).mono ?_); rintro e w' ⟨rfl, ⟨nd, rfl⟩⟩; refine ⟨_, rfl, ?_⟩))
        go_ret
        exact ⟨by first | rfl | (simp; done) | (simp [*]; done), by repeat (first | exact Drawn0.refl _ | apply Drawn0.step)⟩
    · rw [if_neg c5] at H
      have c5b0 : ((wrap64 (a0 - (wrap64 (t202 * a1)))) == (wrap64 (a1 - (wrap64 (a0 - (wrap64 (t202 * a1))))))) = false := beq_eq_false_iff_ne.mpr c5
      have c5b1 : ((wrap64 (a0 - (wrap64 (t202 * a1)))) != (wrap64 (a1 - (wrap64 (a0 - (wrap64 (t202 * a1))))))) = true := bne_iff_ne.mpr c5
      obtain rfl := Option.some.inj H
      go_enter Try.func29, Try.ntmps29
      go_wp2_with (first | ((with_reducible refine gate_callee (f := 51) rfl ?_); refine goesL_ (some 10) rfl rfl Try.func51 (by kernel_rfl) rfl #[.int .i64 a0, .int .i64 a1] rfl (by (try simp only [List.map_toArray, List.map_cons, List.map_nil]); first | done | rfl | (simp only [List.length_drop, List.length_take]; rfl)) ?_; (with_reducible refine (credenzaref01_Floor.calls a0 a1 t202 _ A3.out).mono ?_); rintro e w' ⟨rfl, ⟨nd, rfl⟩⟩; refine ⟨_, rfl, ?_⟩))
      go_ret
      exact ⟨by first | rfl | (simp; done) | (simp [*]; done), by repeat (first | exact Drawn0.refl _ | apply Drawn0.step)⟩

end Go.Proofs.Yteflolamihhmdaa.Q

namespace Go.Proofs.Yteflolamihhmdaa.Q
open Go.RowKit Go.Proofs.YteflolamihhmdaaW.PrintWords Go.Proofs.YteflolamihhmdaaW.PrintLast Go.Proofs.YteflolamihhmdaaW.PrintMore
attribute [local go_sem] max2_int min2_int max_two min_two max_three min_three max_four min_four   -- for this text's walks alone
set_option linter.unusedVariables false
set_option linter.unusedSimpArgs false

/-! ### credenzaref01_Mul: function 30 -/
def credenzaref01_Mul.f (a0 : Int) (a1 : Int) : Option (Int) := (credenzaref01_Ratio.f (wrap64 ((wrap64 (a0)) * (wrap64 (a1)))) 65536).bind fun t203 => ((credenzaref01_Wide.f t203).bind fun t204 => (some t204))
set_option maxHeartbeats 8000000 in
set_option maxRecDepth 100000 in
theorem credenzaref01_Mul.calls (a0 : Int) (a1 : Int) (r : Int) (w : World) (h : credenzaref01_Mul.f a0 a1 = some r) :
    Calls Try.prog 30 #[.int .i32 a0, .int .i32 a1] w fun e w' => e = .returned (.int .i32 r) ∧ Drawn0 w w' := by
  have H : ((credenzaref01_Ratio.f (wrap64 ((wrap64 (a0)) * (wrap64 (a1)))) 65536).bind fun t203 => ((credenzaref01_Wide.f t203).bind fun t204 => (some t204))) = some r := h
  clear h
  replace H := Option.bind_eq_some_iff.mp H
  obtain ⟨t203, A30, H⟩ := H
  replace H : ((credenzaref01_Wide.f t203).bind fun t204 => (some t204)) = some r := H
  have A3 := Aside0.mk A30
  clear A30
  replace H := Option.bind_eq_some_iff.mp H
  obtain ⟨t204, A40, H⟩ := H
  replace H : (some t204) = some r := H
  have A4 := Aside0.mk A40
  clear A40
  obtain rfl := Option.some.inj H
  go_enter Try.func30, Try.ntmps30
  go_wp2_with (first | ((with_reducible refine gate_callee (f := 29) rfl ?_); refine goesL_ (some 10) rfl rfl Try.func29 (by kernel_rfl) rfl #[.int .i64 (wrap64 ((wrap64 (a0)) * (wrap64 (a1)))), .int .i64 65536] rfl (by (try simp only [List.map_toArray, List.map_cons, List.map_nil]); first | done | rfl | (simp only [List.length_drop, List.length_take]; rfl)) ?_; (with_reducible refine (credenzaref01_Ratio.calls (wrap64 ((wrap64 (a0)) * (wrap64 (a1)))) 65536 t203 _ A3.out).mono ?_); rintro e w' ⟨rfl, ⟨nd, rfl⟩⟩; refine ⟨_, rfl, ?_⟩) | ((with_reducible refine gate_callee (f := 28) rfl ?_); refine goesL_ (some 11) rfl rfl Try.func28 (by kernel_rfl) rfl #[.int .i64 t203] rfl (by (try simp only [List.map_toArray, List.map_cons, List.map_nil]); first | done | rfl | (simp only [List.length_drop, List.length_take]; rfl)) ?_; (with_reducible refine (credenzaref01_Wide.calls t203 t204 _ A4.out).mono ?_); rintro e w' ⟨rfl, ⟨nd, rfl⟩⟩; refine ⟨_, rfl, ?_⟩))
  go_ret
  exact ⟨by first | rfl | (simp; done) | (simp [*]; done), by repeat (first | exact Drawn0.refl _ | apply Drawn0.step)⟩

end Go.Proofs.Yteflolamihhmdaa.Q

namespace Go.Proofs.Yteflolamihhmdaa.Q
open Go.RowKit Go.Proofs.YteflolamihhmdaaW.PrintWords Go.Proofs.YteflolamihhmdaaW.PrintLast Go.Proofs.YteflolamihhmdaaW.PrintMore
attribute [local go_sem] max2_int min2_int max_two min_two max_three min_three max_four min_four   -- for this text's walks alone
set_option linter.unusedVariables false
set_option linter.unusedSimpArgs false

/-! ### fix_Ratio: function 67 -/
def fix_Ratio.f (a0 : Int) (a1 : Int) : Option (Int) := if a1 ≤ 0 then (some 0) else (if a1 = 0 then (none) else (if (Int.tmod a0 a1) < 0 then (if (wrap64 ((Int.tmod a0 a1) + a1)) > (wrap64 (a1 - (wrap64 ((Int.tmod a0 a1) + a1)))) then (some (wrap64 ((wrap64 ((wrap64 (Int.tdiv a0 a1)) - 1)) + 1))) else (if (wrap64 ((Int.tmod a0 a1) + a1)) = (wrap64 (a1 - (wrap64 ((Int.tmod a0 a1) + a1)))) then (if (Go.bits .and .i64 (wrap64 ((wrap64 (Int.tdiv a0 a1)) - 1)) 1) = 0 then (some (wrap64 ((wrap64 (Int.tdiv a0 a1)) - 1))) else (some (wrap64 ((wrap64 ((wrap64 (Int.tdiv a0 a1)) - 1)) + 1)))) else (some (wrap64 ((wrap64 (Int.tdiv a0 a1)) - 1))))) else (if (Int.tmod a0 a1) > (wrap64 (a1 - (Int.tmod a0 a1))) then (some (wrap64 ((wrap64 (Int.tdiv a0 a1)) + 1))) else (if (Int.tmod a0 a1) = (wrap64 (a1 - (Int.tmod a0 a1))) then (if (Go.bits .and .i64 (wrap64 (Int.tdiv a0 a1)) 1) = 0 then (some (wrap64 (Int.tdiv a0 a1))) else (some (wrap64 ((wrap64 (Int.tdiv a0 a1)) + 1)))) else (some (wrap64 (Int.tdiv a0 a1)))))))
set_option maxHeartbeats 8000000 in
set_option maxRecDepth 100000 in
theorem fix_Ratio.calls (a0 : Int) (a1 : Int) (r : Int) (w : World) (h : fix_Ratio.f a0 a1 = some r) :
    Calls Try.prog 67 #[.int .i64 a0, .int .i64 a1] w fun e w' => e = .returned (.int .i64 r) ∧ Drawn0 w w' := by
  have H : (if a1 ≤ 0 then (some 0) else (if a1 = 0 then (none) else (if (Int.tmod a0 a1) < 0 then (if (wrap64 ((Int.tmod a0 a1) + a1)) > (wrap64 (a1 - (wrap64 ((Int.tmod a0 a1) + a1)))) then (some (wrap64 ((wrap64 ((wrap64 (Int.tdiv a0 a1)) - 1)) + 1))) else (if (wrap64 ((Int.tmod a0 a1) + a1)) = (wrap64 (a1 - (wrap64 ((Int.tmod a0 a1) + a1)))) then (if (Go.bits .and .i64 (wrap64 ((wrap64 (Int.tdiv a0 a1)) - 1)) 1) = 0 then (some (wrap64 ((wrap64 (Int.tdiv a0 a1)) - 1))) else (some (wrap64 ((wrap64 ((wrap64 (Int.tdiv a0 a1)) - 1)) + 1)))) else (some (wrap64 ((wrap64 (Int.tdiv a0 a1)) - 1))))) else (if (Int.tmod a0 a1) > (wrap64 (a1 - (Int.tmod a0 a1))) then (some (wrap64 ((wrap64 (Int.tdiv a0 a1)) + 1))) else (if (Int.tmod a0 a1) = (wrap64 (a1 - (Int.tmod a0 a1))) then (if (Go.bits .and .i64 (wrap64 (Int.tdiv a0 a1)) 1) = 0 then (some (wrap64 (Int.tdiv a0 a1))) else (some (wrap64 ((wrap64 (Int.tdiv a0 a1)) + 1)))) else (some (wrap64 (Int.tdiv a0 a1)))))))) = some r := h
  clear h
  by_cases c3 : a1 ≤ 0
  · rw [if_pos c3] at H
    have c3b0 : decide (a1 ≤ 0) = true := decide_eq_true c3
    clear c3
    obtain rfl := Option.some.inj H
    go_enter Try.func67, Try.ntmps67
    go_wp2
    repeat (go_quiet (fail); try go_wp2)
    go_ret
    exact ⟨by first | rfl | (simp; done) | (simp [*]; done), by repeat (first | exact Drawn0.refl _ | apply Drawn0.step)⟩
  · rw [if_neg c3] at H
    have c3b0 : decide (a1 ≤ 0) = false := decide_eq_false c3
    clear c3
    by_cases c4 : a1 = 0
    · rw [if_pos c4] at H
      exact absurd H (by simp)
    · rw [if_neg c4] at H
      have c4b0 : (a1 == 0) = false := beq_eq_false_iff_ne.mpr c4
      have c4b1 : (a1 != 0) = true := bne_iff_ne.mpr c4
      by_cases c5 : (Int.tmod a0 a1) < 0
      · rw [if_pos c5] at H
        have c5b0 : decide ((Int.tmod a0 a1) < 0) = true := decide_eq_true c5
        clear c5
        by_cases c6 : (wrap64 ((Int.tmod a0 a1) + a1)) > (wrap64 (a1 - (wrap64 ((Int.tmod a0 a1) + a1))))
        · rw [if_pos c6] at H
          have c6b0 : decide ((wrap64 (a1 - (wrap64 ((Int.tmod a0 a1) + a1)))) < (wrap64 ((Int.tmod a0 a1) + a1))) = true := decide_eq_true c6
          clear c6
          obtain rfl := Option.some.inj H
          go_enter Try.func67, Try.ntmps67
          go_wp2
          repeat (go_quiet (fail); try go_wp2)
          go_ret
          exact ⟨by first | rfl | (simp; done) | (simp [*]; done), by repeat (first | exact Drawn0.refl _ | apply Drawn0.step)⟩
        · rw [if_neg c6] at H
          have c6b0 : decide ((wrap64 (a1 - (wrap64 ((Int.tmod a0 a1) + a1)))) < (wrap64 ((Int.tmod a0 a1) + a1))) = false := decide_eq_false c6
          clear c6
          by_cases c7 : (wrap64 ((Int.tmod a0 a1) + a1)) = (wrap64 (a1 - (wrap64 ((Int.tmod a0 a1) + a1))))
          · rw [if_pos c7] at H
            have c7b0 : ((wrap64 ((Int.tmod a0 a1) + a1)) == (wrap64 (a1 - (wrap64 ((Int.tmod a0 a1) + a1))))) = true := beq_iff_eq.mpr c7
            have c7b1 : ((wrap64 ((Int.tmod a0 a1) + a1)) != (wrap64 (a1 - (wrap64 ((Int.tmod a0 a1) + a1))))) = false := bne_eq_false_iff_eq.mpr c7
            clear c7
            by_cases c8 : (Go.bits .and .i64 (wrap64 ((wrap64 (Int.tdiv a0 a1)) - 1)) 1) = 0
            · rw [if_pos c8] at H
              have c8b0 : ((Go.bits .and .i64 (wrap64 ((wrap64 (Int.tdiv a0 a1)) - 1)) 1) == 0) = true := beq_iff_eq.mpr c8
              have c8b1 : ((Go.bits .and .i64 (wrap64 ((wrap64 (Int.tdiv a0 a1)) - 1)) 1) != 0) = false := bne_eq_false_iff_eq.mpr c8
              clear c8
              obtain rfl := Option.some.inj H
              go_enter Try.func67, Try.ntmps67
              go_wp2
              repeat (go_quiet (fail); try go_wp2)
              go_ret
              exact ⟨by first | rfl | (simp; done) | (simp [*]; done), by repeat (first | exact Drawn0.refl _ | apply Drawn0.step)⟩
            · rw [if_neg c8] at H
              have c8b0 : ((Go.bits .and .i64 (wrap64 ((wrap64 (Int.tdiv a0 a1)) - 1)) 1) == 0) = false := beq_eq_false_iff_ne.mpr c8
              have c8b1 : ((Go.bits .and .i64 (wrap64 ((wrap64 (Int.tdiv a0 a1)) - 1)) 1) != 0) = true := bne_iff_ne.mpr c8
              obtain rfl := Option.some.inj H
              go_enter Try.func67, Try.ntmps67
              go_wp2
              repeat (go_quiet (fail); try go_wp2)
              go_ret
              exact ⟨by first | rfl | (simp; done) | (simp [*]; done), by repeat (first | exact Drawn0.refl _ | apply Drawn0.step)⟩
          · rw [if_neg c7] at H
            have c7b0 : ((wrap64 ((Int.tmod a0 a1) + a1)) == (wrap64 (a1 - (wrap64 ((Int.tmod a0 a1) + a1))))) = false := beq_eq_false_iff_ne.mpr c7
            have c7b1 : ((wrap64 ((Int.tmod a0 a1) + a1)) != (wrap64 (a1 - (wrap64 ((Int.tmod a0 a1) + a1))))) = true := bne_iff_ne.mpr c7
            obtain rfl := Option.some.inj H
            go_enter Try.func67, Try.ntmps67
            go_wp2
            repeat (go_quiet (fail); try go_wp2)
            go_ret
            exact ⟨by first | rfl | (simp; done) | (simp [*]; done), by repeat (first | exact Drawn0.refl _ | apply Drawn0.step)⟩
      · rw [if_neg c5] at H
        have c5b0 : decide ((Int.tmod a0 a1) < 0) = false := decide_eq_false c5
        clear c5
        by_cases c9 : (Int.tmod a0 a1) > (wrap64 (a1 - (Int.tmod a0 a1)))
        · rw [if_pos c9] at H
          have c9b0 : decide ((wrap64 (a1 - (Int.tmod a0 a1))) < (Int.tmod a0 a1)) = true := decide_eq_true c9
          clear c9
          obtain rfl := Option.some.inj H
          go_enter Try.func67, Try.ntmps67
          go_wp2
          repeat (go_quiet (fail); try go_wp2)
          go_ret
          exact ⟨by first | rfl | (simp; done) | (simp [*]; done), by repeat (first | exact Drawn0.refl _ | apply Drawn0.step)⟩
        · rw [if_neg c9] at H
          have c9b0 : decide ((wrap64 (a1 - (Int.tmod a0 a1))) < (Int.tmod a0 a1)) = false := decide_eq_false c9
          clear c9
          by_cases c10 : (Int.tmod a0 a1) = (wrap64 (a1 - (Int.tmod a0 a1)))
          · rw [if_pos c10] at H
            have c10b0 : ((Int.tmod a0 a1) == (wrap64 (a1 - (Int.tmod a0 a1)))) = true := beq_iff_eq.mpr c10
            have c10b1 : ((Int.tmod a0 a1) != (wrap64 (a1 - (Int.tmod a0 a1)))) = false := bne_eq_false_iff_eq.mpr c10
            clear c10
            by_cases c11 : (Go.bits .and .i64 (wrap64 (Int.tdiv a0 a1)) 1) = 0
            · rw [if_pos c11] at H
              have c11b0 : ((Go.bits .and .i64 (wrap64 (Int.tdiv a0 a1)) 1) == 0) = true := beq_iff_eq.mpr c11
              have c11b1 : ((Go.bits .and .i64 (wrap64 (Int.tdiv a0 a1)) 1) != 0) = false := bne_eq_false_iff_eq.mpr c11
              clear c11
              obtain rfl := Option.some.inj H
              go_enter Try.func67, Try.ntmps67
              go_wp2
              repeat (go_quiet (fail); try go_wp2)
              go_ret
              exact ⟨by first | rfl | (simp; done) | (simp [*]; done), by repeat (first | exact Drawn0.refl _ | apply Drawn0.step)⟩
            · rw [if_neg c11] at H
              have c11b0 : ((Go.bits .and .i64 (wrap64 (Int.tdiv a0 a1)) 1) == 0) = false := beq_eq_false_iff_ne.mpr c11
              have c11b1 : ((Go.bits .and .i64 (wrap64 (Int.tdiv a0 a1)) 1) != 0) = true := bne_iff_ne.mpr c11
              obtain rfl := Option.some.inj H
              go_enter Try.func67, Try.ntmps67
              go_wp2
              repeat (go_quiet (fail); try go_wp2)
              go_ret
              exact ⟨by first | rfl | (simp; done) | (simp [*]; done), by repeat (first | exact Drawn0.refl _ | apply Drawn0.step)⟩
          · rw [if_neg c10] at H
            have c10b0 : ((Int.tmod a0 a1) == (wrap64 (a1 - (Int.tmod a0 a1)))) = false := beq_eq_false_iff_ne.mpr c10
            have c10b1 : ((Int.tmod a0 a1) != (wrap64 (a1 - (Int.tmod a0 a1)))) = true := bne_iff_ne.mpr c10
            obtain rfl := Option.some.inj H
            go_enter Try.func67, Try.ntmps67
            go_wp2
            repeat (go_quiet (fail); try go_wp2)
            go_ret
            exact ⟨by first | rfl | (simp; done) | (simp [*]; done), by repeat (first | exact Drawn0.refl _ | apply Drawn0.step)⟩

end Go.Proofs.Yteflolamihhmdaa.Q

namespace Go.Proofs.Yteflolamihhmdaa.Q
open Go.RowKit Go.Proofs.YteflolamihhmdaaW.PrintWords Go.Proofs.YteflolamihhmdaaW.PrintLast Go.Proofs.YteflolamihhmdaaW.PrintMore
attribute [local go_sem] max2_int min2_int max_two min_two max_three min_three max_four min_four   -- for this text's walks alone
set_option linter.unusedVariables false
set_option linter.unusedSimpArgs false

/-! ### fix_Narrow: function 66 -/
def fix_Narrow.f (a0 : Int) : Option (Int) := (fix_cut.f a0 (-8388608) 8388608).bind fun t106 => (some t106)
set_option maxHeartbeats 8000000 in
set_option maxRecDepth 100000 in
theorem fix_Narrow.calls (a0 : Int) (r : Int) (w : World) (h : fix_Narrow.f a0 = some r) :
    Calls Try.prog 66 #[.int .i64 a0] w fun e w' => e = .returned (.int .i32 r) ∧ Below w.heap.size w w' := by
  have HB := Aside0.mk (Below.refl w.heap.size w)
  have H : ((fix_cut.f a0 (-8388608) 8388608).bind fun t106 => (some t106)) = some r := h
  clear h
  replace H := Option.bind_eq_some_iff.mp H
  obtain ⟨t106, A20, H⟩ := H
  replace H : (some t106) = some r := H
  have A2 := Aside0.mk A20
  clear A20
  obtain rfl := Option.some.inj H
  go_enter Try.func66, Try.ntmps66
  go_wp2_with (first | ((with_reducible refine gate_callee (f := 71) rfl ?_); refine goesL_ (some 4) rfl rfl Try.func71 (by kernel_rfl) rfl #[.int .i64 a0, .int .i64 (-8388608), .int .i64 8388608] rfl (by (try simp only [List.map_toArray, List.map_cons, List.map_nil]); first | done | rfl | (simp only [List.length_drop, List.length_take]; rfl)) ?_; (with_reducible refine (fix_cut.calls a0 (-8388608) 8388608 t106 _ A2.out).mono ?_); rintro e w3 ⟨rfl, hb⟩; refine ⟨_, rfl, ?_⟩; have n0_ := Aside0.mk (below_step (by repeat (first | (with_reducible first | exact HB.out | apply below_alloc | apply pw_below_drewN | apply below_drew1) | exact HB.out)) hb); clear HB; have HB := n0_; clear n0_; (try clear hb); (try clear hb2); (try clear hk); (try clear hi)))
  go_ret
  exact ⟨by first | rfl | (simp [errW_none, errW_some] <;> rfl) | (simp [*, errW_none, errW_some] <;> rfl), by repeat (first | (with_reducible first | exact HB.out | apply below_alloc | apply pw_below_drewN | apply below_drew1) | exact HB.out)⟩

end Go.Proofs.Yteflolamihhmdaa.Q

namespace Go.Proofs.Yteflolamihhmdaa.Q
open Go.RowKit Go.Proofs.YteflolamihhmdaaW.PrintWords Go.Proofs.YteflolamihhmdaaW.PrintLast Go.Proofs.YteflolamihhmdaaW.PrintMore
attribute [local go_sem] max2_int min2_int max_two min_two max_three min_three max_four min_four   -- for this text's walks alone
set_option linter.unusedVariables false
set_option linter.unusedSimpArgs false

/-! ### credenzaref01_Narrow: function 34 -/
def credenzaref01_Narrow.f (a0 : Int) : Option (Int) := (credenzaref01_Cut.f a0 (-8388608) 8388608).bind fun t193 => (some (wrap32 (t193)))
set_option maxHeartbeats 8000000 in
set_option maxRecDepth 100000 in
theorem credenzaref01_Narrow.calls (a0 : Int) (r : Int) (w : World) (h : credenzaref01_Narrow.f a0 = some r) :
    Calls Try.prog 34 #[.int .i64 a0] w fun e w' => e = .returned (.int .i32 r) ∧ Drawn0 w w' := by
  have H : ((credenzaref01_Cut.f a0 (-8388608) 8388608).bind fun t193 => (some (wrap32 (t193)))) = some r := h
  clear h
  replace H := Option.bind_eq_some_iff.mp H
  obtain ⟨t193, A20, H⟩ := H
  replace H : (some (wrap32 (t193))) = some r := H
  have A2 := Aside0.mk A20
  clear A20
  obtain rfl := Option.some.inj H
  go_enter Try.func34, Try.ntmps34
  go_wp2_with (first | ((with_reducible refine gate_callee (f := 50) rfl ?_); refine goesL_ (some 4) rfl rfl Try.func50 (by kernel_rfl) rfl #[.int .i64 a0, .int .i64 (-8388608), .int .i64 8388608] rfl (by (try simp only [List.map_toArray, List.map_cons, List.map_nil]); first | done | rfl | (simp only [List.length_drop, List.length_take]; rfl)) ?_; (with_reducible refine (credenzaref01_Cut.calls a0 (-8388608) 8388608 t193 _ A2.out).mono ?_); rintro e w' ⟨rfl, ⟨nd, rfl⟩⟩; refine ⟨_, rfl, ?_⟩))
  go_ret
  exact ⟨by first | rfl | (simp; done) | (simp [*]; done), by repeat (first | exact Drawn0.refl _ | apply Drawn0.step)⟩

end Go.Proofs.Yteflolamihhmdaa.Q

namespace Go.Proofs.Yteflolamihhmdaa.Q
open Go.RowKit Go.Proofs.YteflolamihhmdaaW.PrintWords Go.Proofs.YteflolamihhmdaaW.PrintLast Go.Proofs.YteflolamihhmdaaW.PrintMore
attribute [local go_sem] max2_int min2_int max_two min_two max_three min_three max_four min_four   -- for this text's walks alone
set_option linter.unusedVariables false
set_option linter.unusedSimpArgs false

/-! ### fix_Sub: function 65 -/
def fix_Sub.f (a0 : Int) (a1 : Int) : Option (Int) := (fix_Wide.f (wrap64 ((wrap64 (a0)) - (wrap64 (a1))))).bind fun t142 => (some t142)
set_option maxHeartbeats 8000000 in
set_option maxRecDepth 100000 in
theorem fix_Sub.calls (a0 : Int) (a1 : Int) (r : Int) (w : World) (h : fix_Sub.f a0 a1 = some r) :
    Calls Try.prog 65 #[.int .i32 a0, .int .i32 a1] w fun e w' => e = .returned (.int .i32 r) ∧ Below w.heap.size w w' := by
  have HB := Aside0.mk (Below.refl w.heap.size w)
  have H : ((fix_Wide.f (wrap64 ((wrap64 (a0)) - (wrap64 (a1))))).bind fun t142 => (some t142)) = some r := h
  clear h
  replace H := Option.bind_eq_some_iff.mp H
  obtain ⟨t142, A30, H⟩ := H
  replace H : (some t142) = some r := H
  have A3 := Aside0.mk A30
  clear A30
  obtain rfl := Option.some.inj H
  go_enter Try.func65, Try.ntmps65
  go_wp2_with (first | ((with_reducible refine gate_callee (f := 47) rfl ?_); refine goesL_ (some 10) rfl rfl Try.func47 (by kernel_rfl) rfl #[.int .i64 (wrap64 ((wrap64 (a0)) - (wrap64 (a1))))] rfl (by (try simp only [List.map_toArray, List.map_cons, List.map_nil]); first | done | rfl | (simp only [List.length_drop, List.length_take]; rfl)) ?_; (with_reducible refine (fix_Wide.calls (wrap64 ((wrap64 (a0)) - (wrap64 (a1)))) t142 _ A3.out).mono ?_); rintro e w4 ⟨rfl, hb⟩; refine ⟨_, rfl, ?_⟩; have n0_ := Aside0.mk (below_step (by repeat (first | (with_reducible first | exact HB.out | apply below_alloc | apply pw_below_drewN | apply below_drew1) | exact HB.out)) hb); clear HB; have HB := n0_; clear n0_; (try clear hb); (try clear hb2); (try clear hk); (try clear hi)))
  go_ret
  exact ⟨by first | rfl | (simp [errW_none, errW_some] <;> rfl) | (simp [*, errW_none, errW_some] <;> rfl), by repeat (first | (with_reducible first | exact HB.out | apply below_alloc | apply pw_below_drewN | apply below_drew1) | exact HB.out)⟩

end Go.Proofs.Yteflolamihhmdaa.Q

namespace Go.Proofs.Yteflolamihhmdaa.Q
open Go.RowKit Go.Proofs.YteflolamihhmdaaW.PrintWords Go.Proofs.YteflolamihhmdaaW.PrintLast Go.Proofs.YteflolamihhmdaaW.PrintMore
attribute [local go_sem] max2_int min2_int max_two min_two max_three min_three max_four min_four   -- for this text's walks alone
set_option linter.unusedVariables false
set_option linter.unusedSimpArgs false

/-! ### credenzaref01_Power: function 81 -/
def credenzaref01_Power.l0 : Nat → Int → Int → Int → Option (Int)
  | 0, _, _, _ => none
  | k + 1, x0, x3, x4 => if x4 < x0 then (credenzaref01_Power.l0 k x0 (wrap64 (x3 * 2)) (wrap64 (x4 + 1))) else (some x3)
def credenzaref01_Power.f (k : Nat) (a0 : Int) : Option (Int) := credenzaref01_Power.l0 k a0 1 0
theorem credenzaref01_Power.mono_l : ∀ k, (∀ y0 y1 y2, LeO (credenzaref01_Power.l0 k y0 y1 y2) (credenzaref01_Power.l0 (k + 1) y0 y1 y2))
  | 0 => fun _ _ _ r h => by simp [credenzaref01_Power.l0] at h
  | k + 1 => by
    have ih0 := credenzaref01_Power.mono_l k
    · intro y0 y1 y2
      unfold credenzaref01_Power.l0
      repeat' first
      | (with_reducible exact ih0 _ _ _)
      | (with_reducible exact LeO.refl _)
      | (with_reducible exact LeO.none _)
      | (with_reducible refine LeO.ite ?_ ?_)
      | (with_reducible refine LeO.bind ?_ (fun _ => ?_))
      | exact ih0 _ _ _
      | exact LeO.none _
      | refine LeO.ite ?_ ?_
      | refine LeO.bind ?_ (fun _ => ?_)
theorem credenzaref01_Power.mono : ∀ a0 k, LeO (credenzaref01_Power.f k a0) (credenzaref01_Power.f (k + 1) a0) := by
  intro a0 k
  have ih0 := credenzaref01_Power.mono_l k
  unfold credenzaref01_Power.f
  repeat' first
      | (with_reducible exact ih0 _ _ _)
      | (with_reducible exact LeO.refl _)
      | (with_reducible exact LeO.none _)
      | (with_reducible refine LeO.ite ?_ ?_)
      | (with_reducible refine LeO.bind ?_ (fun _ => ?_))
      | exact ih0 _ _ _
      | exact LeO.none _
      | refine LeO.ite ?_ ?_
      | refine LeO.bind ?_ (fun _ => ?_)
set_option maxHeartbeats 8000000 in
set_option maxRecDepth 100000 in
theorem credenzaref01_Power.calls (k : Nat) (a0 : Int) (r : Int) (w : World) (h : credenzaref01_Power.f k a0 = some r) :
    Calls Try.prog 81 #[.int .i64 a0] w fun e w' => e = .returned (.int .i64 r) ∧ Drawn0 w w' := by
  have H : (credenzaref01_Power.l0 k a0 1 0) = some r := h
  clear h
  have H' := Aside0.mk H
  clear H
  go_enter Try.func81, Try.ntmps81
  go_wp2
  go_loopg [3, 4] k (fun kq v3 v4 w' => ∃ (x3_1 : Int) (x4_1 : Int), v3 = .int .i64 x3_1 ∧ v4 = .int .i64 x4_1 ∧ Aside0 (credenzaref01_Power.l0 kq a0 x3_1 x4_1 = some r) ∧ Aside0 (kq ≤ k) ∧ Drawn0 w w')
  case atStart => exact ⟨(1), (0), (by first | rfl | (simp; done) | (simp [*]; done)), (by first | rfl | (simp; done) | (simp [*]; done)), H', ⟨Nat.le_refl _⟩, by repeat (first | exact Drawn0.refl _ | apply Drawn0.step)⟩
  case round =>
    clear H'
    obtain ⟨x3_1, x4_1, rfl, rfl, HA, HK1, ⟨m1, rfl⟩⟩ := hrel
    cases gk with
    | zero => exact absurd HA.out (by simp [credenzaref01_Power.l0])
    | succ k1 =>
      have H := HA.out
      clear HA
      simp only [credenzaref01_Power.l0] at H
      by_cases c2 : x4_1 < a0
      · rw [if_pos c2] at H
        have c2b0 : decide (x4_1 < a0) = true := decide_eq_true c2
        clear c2
        have H' := Aside0.mk H
        clear H
        go_wp2
        go_roundg k1
        case measure => have := HK1.out; omega
        case rel => exact ⟨(wrap64 (x3_1 * 2)), (wrap64 (x4_1 + 1)), (by first | rfl | (simp; done) | (simp [*]; done)), (by first | rfl | (simp; done) | (simp [*]; done)), H', ⟨by have := HK1.out; omega⟩, by repeat (first | exact Drawn0.refl _ | apply Drawn0.step)⟩
      · rw [if_neg c2] at H
        have c2b0 : decide (x4_1 < a0) = false := decide_eq_false c2
        clear c2
        obtain rfl := Option.some.inj H
        go_wp2
        go_ret
        exact ⟨by first | rfl | (simp; done) | (simp [*]; done), by repeat (first | exact Drawn0.refl _ | apply Drawn0.step)⟩

end Go.Proofs.Yteflolamihhmdaa.Q

namespace Go.Proofs.Yteflolamihhmdaa.Q
open Go.RowKit Go.Proofs.YteflolamihhmdaaW.PrintWords Go.Proofs.YteflolamihhmdaaW.PrintLast Go.Proofs.YteflolamihhmdaaW.PrintMore
attribute [local go_sem] max2_int min2_int max_two min_two max_three min_three max_four min_four   -- for this text's walks alone
set_option linter.unusedVariables false
set_option linter.unusedSimpArgs false

/-! ### credenzaref01_Half: function 73 -/
def credenzaref01_Half.f (k : Nat) (a0 : Int) (a1 : Int) : Option (Int) := (credenzaref01_Cut.f a1 0 62).bind fun t244 => ((credenzaref01_Power.f k t244).bind fun t245 => ((credenzaref01_Ratio.f a0 t245).bind fun t246 => (some t246)))
theorem credenzaref01_Half.mono : ∀ a0 a1 k, LeO (credenzaref01_Half.f k a0 a1) (credenzaref01_Half.f (k + 1) a0 a1) := by
  intro a0 a1 k
  unfold credenzaref01_Half.f
  repeat' first
      | (with_reducible exact credenzaref01_Power.mono _ _)
      | (with_reducible exact LeO.refl _)
      | (with_reducible exact LeO.none _)
      | (with_reducible refine LeO.ite ?_ ?_)
      | (with_reducible refine LeO.bind ?_ (fun _ => ?_))
      | exact credenzaref01_Power.mono _ _
      | exact LeO.none _
      | refine LeO.ite ?_ ?_
      | refine LeO.bind ?_ (fun _ => ?_)
set_option maxHeartbeats 8000000 in
set_option maxRecDepth 100000 in
theorem credenzaref01_Half.calls (k : Nat) (a0 : Int) (a1 : Int) (r : Int) (w : World) (h : credenzaref01_Half.f k a0 a1 = some r) :
    Calls Try.prog 73 #[.int .i64 a0, .int .i64 a1] w fun e w' => e = .returned (.int .i64 r) ∧ Drawn0 w w' := by
  have H : ((credenzaref01_Cut.f a1 0 62).bind fun t244 => ((credenzaref01_Power.f k t244).bind fun t245 => ((credenzaref01_Ratio.f a0 t245).bind fun t246 => (some t246)))) = some r := h
  clear h
  replace H := Option.bind_eq_some_iff.mp H
  obtain ⟨t244, A30, H⟩ := H
  replace H : ((credenzaref01_Power.f k t244).bind fun t245 => ((credenzaref01_Ratio.f a0 t245).bind fun t246 => (some t246))) = some r := H
  have A3 := Aside0.mk A30
  clear A30
  replace H := Option.bind_eq_some_iff.mp H
  obtain ⟨t245, A40, H⟩ := H
  replace H : ((credenzaref01_Ratio.f a0 t245).bind fun t246 => (some t246)) = some r := H
  have A4 := Aside0.mk A40
  clear A40
  replace H := Option.bind_eq_some_iff.mp H
  obtain ⟨t246, A50, H⟩ := H
  replace H : (some t246) = some r := H
  have A5 := Aside0.mk A50
  clear A50
  obtain rfl := Option.some.inj H
  go_enter Try.func73, Try.ntmps73
  go_wp2_with (first | ((with_reducible refine gate_callee (f := 50) rfl ?_); refine goesL_ (some 7) rfl rfl Try.func50 (by kernel_rfl) rfl #[.int .i64 a1, .int .i64 0, .int .i64 62] rfl (by (try simp only [List.map_toArray, List.map_cons, List.map_nil]); first | done | rfl | (simp only [List.length_drop, List.length_take]; rfl)) ?_; (with_reducible refine (credenzaref01_Cut.calls a1 0 62 t244 _ A3.out).mono ?_); rintro e w' ⟨rfl, ⟨nd, rfl⟩⟩; refine ⟨_, rfl, ?_⟩) | ((with_reducible refine gate_callee (f := 81) rfl ?_); refine goesL_ (some 8) rfl rfl Try.func81 (by kernel_rfl) rfl #[.int .i64 t244] rfl (by (try simp only [List.map_toArray, List.map_cons, List.map_nil]); first | done | rfl | (simp only [List.length_drop, List.length_take]; rfl)) ?_; (with_reducible refine (credenzaref01_Power.calls k t244 t245 _ A4.out).mono ?_); rintro e w' ⟨rfl, ⟨nd, rfl⟩⟩; refine ⟨_, rfl, ?_⟩) | ((with_reducible refine gate_callee (f := 29) rfl ?_); refine goesL_ (some 9) rfl rfl Try.func29 (by kernel_rfl) rfl #[.int .i64 a0, .int .i64 t245] rfl (by (try simp only [List.map_toArray, List.map_cons, List.map_nil]); first | done | rfl | (simp only [List.length_drop, List.length_take]; rfl)) ?_; (with_reducible refine (credenzaref01_Ratio.calls a0 t245 t246 _ A5.out).mono ?_); rintro e w' ⟨rfl, ⟨nd, rfl⟩⟩; refine ⟨_, rfl, ?_⟩))
  go_ret
  exact ⟨by first | rfl | (simp; done) | (simp [*]; done), by repeat (first | exact Drawn0.refl _ | apply Drawn0.step)⟩

end Go.Proofs.Yteflolamihhmdaa.Q

namespace Go.Proofs.Yteflolamihhmdaa.Pure
open Go.RowKit Go.Proofs.Yteflolamihhmdaa.Q Go.Proofs.YteflolamihhmdaaW.PrintWords Go.Proofs.YteflolamihhmdaaW.PrintLast

theorem bits_and1 (q : Int) : Go.bits .and .i64 q 1 = q % 2 := by
  have h1 : (BitVec.ofInt 64 1).toNat = 1 := by decide
  have h2 : ((BitVec.ofInt 64 q) &&& (BitVec.ofInt 64 1)).toNat = ((BitVec.ofInt 64 q).toNat % 2) := by
    rw [BitVec.toNat_and, h1, Nat.and_one_is_mod]
  have h3 : (BitVec.ofInt 64 q).toNat = (q % 18446744073709551616).toNat := by rw [BitVec.toNat_ofInt]; rfl
  have hb : IntKind.i64.bits = 64 := rfl
  unfold bits
  show IntKind.i64.wrap (((BitVec.ofInt 64 q) &&& (BitVec.ofInt 64 1)).toNat : Int) = q % 2
  rw [h2, h3, IntWalk.i64_in _ (by omega)]
  omega

/-- cut to a range -/
def cutR (v lo hi : Int) : Int := if v < lo then lo else if hi < v then hi else v
def wideR (v : Int) : Int := cutR v (-2147483648) 2147483647
def narR (v : Int) : Int := cutR v (-8388608) 8388608
theorem cutR_bd {v lo hi : Int} (h : lo ≤ hi) : lo ≤ cutR v lo hi ∧ cutR v lo hi ≤ hi := by unfold cutR; split <;> (try split) <;> omega
theorem narR_bd (v : Int) : -8388608 ≤ narR v ∧ narR v ≤ 8388608 := cutR_bd (by omega)
theorem wideR_bd (v : Int) : -2147483648 ≤ wideR v ∧ wideR v ≤ 2147483647 := cutR_bd (by omega)
theorem w64 {x : Int} (h1 : -9223372036854775808 ≤ x) (h2 : x ≤ 9223372036854775807) : wrap64 x = x := IntWalk.wrap64_in x ⟨h1, h2⟩
theorem w32 {x : Int} (h1 : -2147483648 ≤ x) (h2 : x ≤ 2147483647) : wrap32 x = x := IntWalk.wrap32_in x ⟨h1, h2⟩
theorem fix_cut_some (v lo hi : Int) (h : lo ≤ hi) (h1 : -2147483648 ≤ lo) (h2 : hi ≤ 2147483647) : fix_cut.f v lo hi = some (cutR v lo hi) := by
  have hb := cutR_bd (v := v) h
  have e : mn (mx v lo) hi = cutR v lo hi := by unfold mn mx cutR; omega
  unfold fix_cut.f
  rw [e, w32 (by omega) (by omega)]
theorem fix_Wide_some (v : Int) : fix_Wide.f v = some (wideR v) := by
  unfold fix_Wide.f
  rw [fix_cut_some v _ _ (by omega) (by omega) (by omega)]
  rfl
theorem fix_Narrow_some (v : Int) : fix_Narrow.f v = some (narR v) := by
  unfold fix_Narrow.f
  rw [fix_cut_some v _ _ (by omega) (by omega) (by omega)]
  rfl
theorem ref_Cut_some (v lo hi : Int) : credenzaref01_Cut.f v lo hi = some (cutR v lo hi) := by
  unfold credenzaref01_Cut.f cutR
  by_cases h1 : v < lo
  · rw [if_pos h1, if_pos h1]
  · rw [if_neg h1, if_neg h1]
    by_cases h2 : v > hi
    · rw [if_pos h2, if_pos h2]
    · rw [if_neg h2, if_neg h2]
theorem ref_Wide_some (v : Int) : credenzaref01_Wide.f v = some (wideR v) := by
  have hb := wideR_bd v
  unfold credenzaref01_Wide.f
  rw [ref_Cut_some]
  show some (wrap32 (wideR v)) = _
  rw [w32 hb.1 hb.2]
theorem ref_Narrow_some (v : Int) : credenzaref01_Narrow.f v = some (narR v) := by
  have hb := narR_bd v
  unfold credenzaref01_Narrow.f
  rw [ref_Cut_some]
  show some (wrap32 (narR v)) = _
  rw [w32 (by omega) (by omega)]

/-- a by b (above 0), to the nearest; from the middle to the even one -/
def rnd (a b : Int) : Int := if b - a % b < a % b ∨ (a % b = b - a % b ∧ (a / b) % 2 ≠ 0) then a / b + 1 else a / b
theorem divmod {a b : Int} (hb : 0 < b) : b * (a / b) + a % b = a ∧ 0 ≤ a % b ∧ a % b < b := ⟨Int.mul_ediv_add_emod a b, Int.emod_nonneg _ (by omega), Int.emod_lt_of_pos _ hb⟩
theorem div_bd {a b : Int} (hb : 0 < b) (B : Int) (h1 : -B ≤ a) (h2 : a ≤ B) : -B ≤ a / b ∧ a / b ≤ B := by
  have hB : 0 ≤ B := by omega
  constructor
  · apply Int.le_ediv_of_mul_le hb
    have : -B * b ≤ -B * 1 := Int.mul_le_mul_of_nonpos_left (by omega) (by omega)
    omega
  · have : a / b < B + 1 := by
      apply Int.ediv_lt_of_lt_mul hb
      have : (B + 1) * 1 ≤ (B + 1) * b := Int.mul_le_mul_of_nonneg_left (by omega) (by omega)
      omega
    omega
theorem tdiv_cases {a b : Int} (hb : 0 < b) : (Int.tdiv a b = a / b ∧ (0 ≤ a ∨ a % b = 0)) ∨ (Int.tdiv a b = a / b + 1 ∧ a < 0 ∧ a % b ≠ 0) := by
  rw [Int.tdiv_eq_ediv]
  by_cases h : 0 ≤ a ∨ b ∣ a
  · rw [if_pos h]
    refine .inl ⟨by omega, h.imp_right (fun h => Int.emod_eq_zero_of_dvd h)⟩
  · rw [if_neg h]
    refine .inr ⟨by rw [Int.sign_eq_one_of_pos hb], by omega, fun h2 => h (.inr (Int.dvd_of_emod_eq_zero h2))⟩
theorem rnd_bd {a b : Int} (hb : 0 < b) (B : Int) (h1 : -B ≤ a) (h2 : a ≤ B) : -B ≤ rnd a b ∧ rnd a b ≤ B + 1 := by
  have := div_bd hb B h1 h2
  unfold rnd
  split <;> omega
theorem ref_Floor_some {a b : Int} (hb : 0 < b) (ha1 : -4611686018427387904 ≤ a) (ha2 : a ≤ 4611686018427387904) (hb2 : b ≤ 4611686018427387904) : credenzaref01_Floor.f a b = some (a / b) := by
  obtain ⟨h1, h2, h3⟩ := divmod (a := a) hb
  have h4 := div_bd hb 4611686018427387904 ha1 ha2
  have h5 : (a / b + 1) * b = b * (a / b) + b := by rw [Int.add_mul, Int.mul_comm]; omega
  have h6 : (a / b) * b = b * (a / b) := Int.mul_comm _ _
  unfold credenzaref01_Floor.f
  rw [if_neg (by omega)]
  rcases tdiv_cases (a := a) hb with ⟨e, h⟩ | ⟨e, h, h'⟩
  · rw [e, w64 (x := a / b) (by omega) (by omega), h6, w64 (x := b * (a / b)) (by omega) (by omega), if_neg (by omega)]
  · rw [e, w64 (x := a / b + 1) (by omega) (by omega), h5, w64 (x := b * (a / b) + b) (by omega) (by omega), if_pos (by omega), show a / b + 1 - 1 = a / b by omega, w64 (x := a / b) (by omega) (by omega)]
theorem ref_Ratio_some {a b : Int} (hb : 0 < b) (ha1 : -4611686018427387904 ≤ a) (ha2 : a ≤ 4611686018427387904) (hb2 : b ≤ 4611686018427387904) : credenzaref01_Ratio.f a b = some (rnd a b) := by
  obtain ⟨h1, h2, h3⟩ := divmod (a := a) hb
  have h4 := div_bd hb 4611686018427387904 ha1 ha2
  have h6 : (a / b) * b = b * (a / b) := Int.mul_comm _ _
  unfold credenzaref01_Ratio.f
  rw [ref_Floor_some hb ha1 ha2 hb2]
  simp only [Option.bind_some]
  rw [h6, w64 (x := b * (a / b)) (by omega) (by omega), show a - b * (a / b) = a % b by omega, w64 (x := a % b) (by omega) (by omega), w64 (x := b - a % b) (by omega) (by omega), w64 (x := a / b + 1) (by omega) (by omega)]
  have ht : Int.tmod (a / b) 2 = 0 ↔ (a / b) % 2 = 0 := by rw [Int.tmod_eq_emod]; split <;> omega
  unfold rnd
  by_cases c1 : a % b > b - a % b
  · rw [if_pos c1, if_pos (.inl c1)]
  · rw [if_neg c1]
    by_cases c2 : a % b = b - a % b
    · rw [if_pos c2]
      by_cases c3 : (a / b) % 2 = 0
      · rw [if_pos (ht.2 c3), if_neg (by omega)]
      · rw [if_neg (fun h => c3 (ht.1 h)), if_pos (.inr ⟨c2, c3⟩)]
    · rw [if_neg c2, if_neg (by omega)]
theorem fix_Ratio_some {a b : Int} (hb : 0 < b) (ha1 : -4611686018427387904 ≤ a) (ha2 : a ≤ 4611686018427387904) (hb2 : b ≤ 4611686018427387904) : fix_Ratio.f a b = some (rnd a b) := by
  obtain ⟨h1, h2, h3⟩ := divmod (a := a) hb
  have h4 := div_bd hb 4611686018427387904 ha1 ha2
  have hm : Int.tmod a b = a - b * Int.tdiv a b := by have := Int.mul_tdiv_add_tmod a b; omega
  unfold fix_Ratio.f
  rw [if_neg (by omega), if_neg (by omega)]
  rcases tdiv_cases (a := a) hb with ⟨e, h⟩ | ⟨e, h, h'⟩
  · have hm2 : Int.tmod a b = a % b := by rw [hm, e]; omega
    rw [e, hm2, if_neg (by omega), w64 (x := b - a % b) (by omega) (by omega), w64 (x := a / b) (by omega) (by omega), w64 (x := a / b + 1) (by omega) (by omega), bits_and1]
    unfold rnd
    by_cases c1 : a % b > b - a % b
    · rw [if_pos c1, if_pos (.inl c1)]
    · rw [if_neg c1]
      by_cases c2 : a % b = b - a % b
      · rw [if_pos c2]
        by_cases c3 : (a / b) % 2 = 0
        · rw [if_pos c3, if_neg (by omega)]
        · rw [if_neg c3, if_pos (.inr ⟨c2, c3⟩)]
      · rw [if_neg c2, if_neg (by omega)]
  · have h5 : b * (a / b + 1) = b * (a / b) + b := by rw [Int.mul_add]; omega
    have hm2 : Int.tmod a b = a % b - b := by rw [hm, e, h5]; omega
    rw [e, hm2, if_pos (by omega), w64 (x := a % b - b + b) (by omega) (by omega), show a % b - b + b = a % b by omega, w64 (x := b - a % b) (by omega) (by omega), w64 (x := a / b + 1) (by omega) (by omega), show a / b + 1 - 1 = a / b by omega, w64 (x := a / b) (by omega) (by omega), w64 (x := a / b + 1) (by omega) (by omega), bits_and1]
    unfold rnd
    by_cases c1 : a % b > b - a % b
    · rw [if_pos c1, if_pos (.inl c1)]
    · rw [if_neg c1]
      by_cases c2 : a % b = b - a % b
      · rw [if_pos c2]
        by_cases c3 : (a / b) % 2 = 0
        · rw [if_pos c3, if_neg (by omega)]
        · rw [if_neg c3, if_pos (.inr ⟨c2, c3⟩)]
      · rw [if_neg c2, if_neg (by omega)]
theorem pow2_bd {n : Nat} (hn : n ≤ 62) : 1 ≤ (2 : Int) ^ n ∧ (2 : Int) ^ n ≤ 4611686018427387904 := by
  have h1 : (2 : Nat) ^ n ≤ 2 ^ 62 := Nat.pow_le_pow_right (by decide) hn
  have h2 : 1 ≤ (2 : Nat) ^ n := Nat.one_le_two_pow
  have h3 : (2 : Int) ^ n = ((2 ^ n : Nat) : Int) := by simp
  rw [h3]
  have h4 : (2 : Nat) ^ 62 = 4611686018427387904 := by decide
  omega
theorem fix_Half_some {a : Int} {n : Nat} (hn : n ≤ 62) (ha1 : -4611686018427387904 ≤ a) (ha2 : a ≤ 4611686018427387904) : fix_Half.f a (n : Int) = some (rnd a (2 ^ n)) := by
  obtain ⟨hp1, hp2⟩ := pow2_bd hn
  have e : (mn (mx (n : Int) 0) 62) = (n : Int) := by unfold mn mx; omega
  have heven : n = 0 ∧ (2 : Int) ^ n = 1 ∨ 0 < n ∧ (2 : Int) ^ n % 2 = 0 := by
    cases n with
    | zero => exact .inl ⟨rfl, rfl⟩
    | succ m => exact .inr ⟨by omega, by rw [Int.pow_succ]; omega⟩
  unfold fix_Half.f
  rw [e, Int.toNat_natCast]
  generalize (2 : Int) ^ n = b at *
  obtain ⟨h1, h2, h3⟩ := divmod (a := a) (b := b) (by omega)
  have h4 := div_bd (b := b) (by omega) 4611686018427387904 ha1 ha2
  have h6 : (a / b) * b = b * (a / b) := Int.mul_comm _ _
  rw [h6, w64 (x := b * (a / b)) (by omega) (by omega), show a - b * (a / b) = a % b by omega, w64 (x := a % b) (by omega) (by omega), w64 (x := b) (by omega) (by omega), w64 (x := a / b + 1) (by omega) (by omega), bits_and1]
  unfold rnd
  by_cases c1 : a % b > b / 2
  · rw [if_pos c1, if_pos (.inl (by omega))]
  · rw [if_neg c1]
    by_cases c2 : a % b = b / 2
    · rw [if_pos c2]
      rcases heven with ⟨h0, h0'⟩ | ⟨h0, h0'⟩
      · rw [if_neg (by omega), if_neg (by omega)]
      · rw [if_pos (by omega)]
        by_cases c3 : (a / b) % 2 = 1
        · rw [if_pos c3, if_pos (.inr (by omega))]
        · rw [if_neg c3, if_neg (by omega)]
    · rw [if_neg c2, if_neg (by omega)]
theorem fix_Half_16 {a : Int} (ha1 : -4611686018427387904 ≤ a) (ha2 : a ≤ 4611686018427387904) : fix_Half.f a 16 = some (rnd a 65536) := fix_Half_some (n := 16) (by omega) ha1 ha2
/-- the product of two numbers with 16 bits behind the point -/
def mulR (a b : Int) : Int := wideR (rnd (a * b) 65536)
theorem mul_bd {a b A B : Int} (h1 : -A ≤ a) (h2 : a ≤ A) (h3 : -B ≤ b) (h4 : b ≤ B) : -(A * B) ≤ a * b ∧ a * b ≤ A * B := by
  have hA : 0 ≤ A := by omega
  have hB : 0 ≤ B := by omega
  have e : (a * b).natAbs ≤ A.natAbs * B.natAbs := by rw [Int.natAbs_mul]; exact Nat.mul_le_mul (by omega) (by omega)
  have e2 : (A * B).natAbs = A.natAbs * B.natAbs := Int.natAbs_mul _ _
  have e3 : 0 ≤ A * B := Int.mul_nonneg hA hB
  rw [← e2] at e
  generalize a * b = p at *
  generalize A * B = q at *
  omega
theorem mul32_bd {a b : Int} (h1 : -2147483648 ≤ a) (h2 : a ≤ 2147483648) (h3 : -2147483648 ≤ b) (h4 : b ≤ 2147483648) : -4611686018427387904 ≤ a * b ∧ a * b ≤ 4611686018427387904 := mul_bd (A := 2147483648) (B := 2147483648) h1 h2 h3 h4
theorem fix_Mul_some {a b : Int} (h1 : -2147483648 ≤ a) (h2 : a ≤ 2147483647) (h3 : -2147483648 ≤ b) (h4 : b ≤ 2147483647) : fix_Mul.f a b = some (mulR a b) := by
  have h := mul32_bd (a := a) (b := b) (by omega) (by omega) (by omega) (by omega)
  unfold fix_Mul.f
  rw [w64 (x := a) (by omega) (by omega), w64 (x := b) (by omega) (by omega), w64 (x := a * b) (by omega) (by omega), fix_Half_16 h.1 h.2]
  simp only [Option.bind_some]
  rw [fix_Wide_some]
  rfl
theorem ref_Mul_some {a b : Int} (h1 : -2147483648 ≤ a) (h2 : a ≤ 2147483647) (h3 : -2147483648 ≤ b) (h4 : b ≤ 2147483647) : credenzaref01_Mul.f a b = some (mulR a b) := by
  have h := mul32_bd (a := a) (b := b) (by omega) (by omega) (by omega) (by omega)
  unfold credenzaref01_Mul.f
  rw [w64 (x := a) (by omega) (by omega), w64 (x := b) (by omega) (by omega), w64 (x := a * b) (by omega) (by omega), ref_Ratio_some (by omega) h.1 h.2 (by omega)]
  simp only [Option.bind_some]
  rw [ref_Wide_some]
  rfl
end Go.Proofs.Yteflolamihhmdaa.Pure

namespace Go.Proofs.Yteflolamihhmdaa.Q
open Go.RowKit Go.Proofs.YteflolamihhmdaaW.PrintWords Go.Proofs.YteflolamihhmdaaW.PrintLast Go.Proofs.YteflolamihhmdaaW.PrintMore
attribute [local go_sem] max2_int min2_int max_two min_two max_three min_three max_four min_four   -- for this text's walks alone
set_option linter.unusedVariables false
set_option linter.unusedSimpArgs false

/-! ### attn_plain_count: function 119 -/
def attn_plain_count.f (l0_0 : List (List Int)) (l0_1 : List (List Int)) : Option (Int) := some (l0_0.length : Int)
set_option maxHeartbeats 8000000 in
set_option maxRecDepth 100000 in
theorem attn_plain_count.calls (A0_0 : Option Addr) (c0_0 : Nat) (l0_0 : List (List Int)) (A0_1 : Option Addr) (c0_1 : Nat) (l0_1 : List (List Int)) (r : Int) (w : World) (hr0_0 : Kd.C (Kd.slice 21 (Kd.int .i32)) w A0_0 l0_0.length l0_0) (hc0_0 : l0_0.length ≤ c0_0) (hr0_1 : Kd.C (Kd.slice 21 (Kd.int .i32)) w A0_1 l0_1.length l0_1) (hc0_1 : l0_1.length ≤ c0_1) (h : attn_plain_count.f l0_0 l0_1 = some r) :
    Calls Try.prog 119 #[.agg #[.slice A0_0 l0_0.length c0_0, .slice A0_1 l0_1.length c0_1]] w fun e w' => e = .returned (.int .i64 r) ∧ Below w.heap.size w w' := by
  have hu81 := Try.underlying81
  have HR0_0 := Aside0.mk hr0_0
  have HC0_0 := Aside0.mk hc0_0
  clear hr0_0 hc0_0
  have HR0_1 := Aside0.mk hr0_1
  have HC0_1 := Aside0.mk hc0_1
  clear hr0_1 hc0_1
  have HB := Aside0.mk (Below.refl w.heap.size w)
  have H : (some (l0_0.length : Int)) = some r := h
  clear h
  obtain rfl := Option.some.inj H
  go_enter Try.func119, Try.ntmps119
  go_wp2_with (first | ((with_reducible refine gate_dst (N := 1) rfl ?_); refine box_event ?hg (N := 1) ?hd (cs := #[.slice A0_0 l0_0.length c0_0, .slice A0_1 l0_1.length c0_1]) (t := 81) ?hr ?_; (case hd => rfl); (case hg => rfl); (case hr => first | (go_simp; done) | (go_simp; rfl)); intro gb404 hg w2 hbox hb; have n0_ := Aside0.mk (below_step (by repeat (first | (with_reducible first | exact HB.out | apply below_alloc | apply pw_below_drewN | apply below_drew1) | exact HB.out)) hb); have n1_ := Aside0.mk (hbox); have n2_ := Aside0.mk ((by rw [hg]; exact (below_size (by repeat (first | (with_reducible first | exact HB.out | apply below_alloc | apply pw_below_drewN | apply below_drew1) | exact HB.out))) : w.heap.size ≤ gb404)); have n3_ := Aside0.mk ((by rw [hg]; exact (below_size (by repeat (first | (with_reducible first | exact HB.out | apply below_alloc | apply pw_below_drewN | apply below_drew1) | exact HB.out))) : w.heap.size ≤ gb404)); clear HB; have HB := n0_; have BK404 := n1_; have GW404 := n2_; have GE404 := n3_; clear n0_ n1_ n2_ n3_; clear hb hbox hg; have hcz3_0 : w2.cell? ⟨gb404, 0, none⟩ = some (.slice A0_0 l0_0.length c0_0) := (blk_cell BK404.out 0).trans rfl; have hcz3_1 : w2.cell? ⟨gb404, 1, none⟩ = some (.slice A0_1 l0_1.length c0_1) := (blk_cell BK404.out 1).trans rfl; have hfz3_0 := blk_frozen BK404.out 0; have hfz3_1 := blk_frozen BK404.out 1))
  go_ret
  exact ⟨by first | rfl | (simp [errW_none, errW_some] <;> rfl) | (simp [*, errW_none, errW_some] <;> rfl), by repeat (first | (with_reducible first | exact HB.out | apply below_alloc | apply pw_below_drewN | apply below_drew1 | refine below_set ?_ GE404.out) | exact HB.out)⟩

end Go.Proofs.Yteflolamihhmdaa.Q

namespace Go.Proofs.Yteflolamihhmdaa.Q
open Go.RowKit Go.Proofs.YteflolamihhmdaaW.PrintWords Go.Proofs.YteflolamihhmdaaW.PrintLast Go.Proofs.YteflolamihhmdaaW.PrintMore
attribute [local go_sem] max2_int min2_int max_two min_two max_three min_three max_four min_four   -- for this text's walks alone
set_option linter.unusedVariables false
set_option linter.unusedSimpArgs false

/-! ### attn_plain_key: function 120 -/
def attn_plain_key.f (l0_0 : List (List Int)) (l0_1 : List (List Int)) (a1 : Int) (a2 : Int) : Option (Int) := if 0 ≤ a1 then (if a1 < (l0_0.length : Int) then (if 0 ≤ a2 then (if a2 < ((rd_L8 l0_0 a1).length : Int) then (some (rd (rd_L8 l0_0 a1) a2)) else (none)) else (none)) else (none)) else (none)
set_option maxHeartbeats 8000000 in
set_option maxRecDepth 100000 in
theorem attn_plain_key.calls (A0_0 : Option Addr) (c0_0 : Nat) (l0_0 : List (List Int)) (A0_1 : Option Addr) (c0_1 : Nat) (l0_1 : List (List Int)) (a1 : Int) (a2 : Int) (r : Int) (w : World) (hr0_0 : Kd.C (Kd.slice 21 (Kd.int .i32)) w A0_0 l0_0.length l0_0) (hc0_0 : l0_0.length ≤ c0_0) (hr0_1 : Kd.C (Kd.slice 21 (Kd.int .i32)) w A0_1 l0_1.length l0_1) (hc0_1 : l0_1.length ≤ c0_1) (h : attn_plain_key.f l0_0 l0_1 a1 a2 = some r) :
    Calls Try.prog 120 #[.agg #[.slice A0_0 l0_0.length c0_0, .slice A0_1 l0_1.length c0_1], .int .i64 a1, .int .i64 a2] w fun e w' => e = .returned (.int .i32 r) ∧ Below w.heap.size w w' := by
  have hu81 := Try.underlying81
  have HR0_0 := Aside0.mk hr0_0
  have HC0_0 := Aside0.mk hc0_0
  clear hr0_0 hc0_0
  have HR0_1 := Aside0.mk hr0_1
  have HC0_1 := Aside0.mk hc0_1
  clear hr0_1 hc0_1
  have HB := Aside0.mk (Below.refl w.heap.size w)
  have H : (if 0 ≤ a1 then (if a1 < (l0_0.length : Int) then (if 0 ≤ a2 then (if a2 < ((rd_L8 l0_0 a1).length : Int) then (some (rd (rd_L8 l0_0 a1) a2)) else (none)) else (none)) else (none)) else (none)) = some r := h
  clear h
  by_cases c4 : 0 ≤ a1
  · rw [if_pos c4] at H
    have c4b0 : decide (0 ≤ a1) = true := decide_eq_true c4
    clear c4
    by_cases c5 : a1 < (l0_0.length : Int)
    · rw [if_pos c5] at H
      have c5b0 : decide (a1 < (l0_0.length : Int)) = true := decide_eq_true c5
      clear c5
      by_cases c6 : 0 ≤ a2
      · rw [if_pos c6] at H
        have c6b0 : decide (0 ≤ a2) = true := decide_eq_true c6
        clear c6
        by_cases c7 : a2 < ((rd_L8 l0_0 a1).length : Int)
        · rw [if_pos c7] at H
          have c7b0 : decide (a2 < ((rd_L8 l0_0 a1).length : Int)) = true := decide_eq_true c7
          clear c7
          obtain rfl := Option.some.inj H
          go_enter Try.func120, Try.ntmps120
          go_wp2_with (first | ((with_reducible refine gate_dst (N := 3) rfl ?_); refine box_event ?hg (N := 3) ?hd (cs := #[.slice A0_0 l0_0.length c0_0, .slice A0_1 l0_1.length c0_1]) (t := 81) ?hr ?_; (case hd => rfl); (case hg => rfl); (case hr => first | (go_simp; done) | (go_simp; rfl)); intro gb405 hg w8 hbox hb; have n0_ := Aside0.mk (below_step (by repeat (first | (with_reducible first | exact HB.out | apply below_alloc | apply pw_below_drewN | apply below_drew1) | exact HB.out)) hb); have n1_ := Aside0.mk (hbox); have n2_ := Aside0.mk ((by rw [hg]; exact (below_size (by repeat (first | (with_reducible first | exact HB.out | apply below_alloc | apply pw_below_drewN | apply below_drew1) | exact HB.out))) : w.heap.size ≤ gb405)); have n3_ := Aside0.mk ((by rw [hg]; exact (below_size (by repeat (first | (with_reducible first | exact HB.out | apply below_alloc | apply pw_below_drewN | apply below_drew1) | exact HB.out))) : w.heap.size ≤ gb405)); clear HB; have HB := n0_; have BK405 := n1_; have GW405 := n2_; have GE405 := n3_; clear n0_ n1_ n2_ n3_; clear hb hbox hg; have hcz9_0 : w8.cell? ⟨gb405, 0, none⟩ = some (.slice A0_0 l0_0.length c0_0) := (blk_cell BK405.out 0).trans rfl; have hcz9_1 : w8.cell? ⟨gb405, 1, none⟩ = some (.slice A0_1 l0_1.length c0_1) := (blk_cell BK405.out 1).trans rfl; have hfz9_0 := blk_frozen BK405.out 0; have hfz9_1 := blk_frozen BK405.out 1; have p406 : 0 ≤ (a1 : Int) := of_decide_eq_true (by first | (with_reducible assumption) | assumption); have q406 : a1 < (l0_0.length : Int) := of_decide_eq_true (by first | (with_reducible assumption) | assumption); obtain ⟨ad406, A406_0, c406_0, e406, hx406_0, hl406_0, hi406_0⟩ := at_L8 HR0_0.out a1 p406 q406; cases e406; replace hx406_0 := (HB.out.cell (World.block_lt_of_cell? w _ hx406_0)).trans hx406_0; have HR406_0 := Aside0.mk hi406_0; have HC406_0 := Aside0.mk hl406_0; clear hi406_0 hl406_0; replace p406 := eq_true p406; replace q406 := eq_true q406; have p407 : 0 ≤ (a2 : Int) := of_decide_eq_true (by first | (with_reducible assumption) | assumption); have q407 : a2 < ((rd_L8 l0_0 a1).length : Int) := of_decide_eq_true (by first | (with_reducible assumption) | assumption); obtain ⟨ad407, e407, hx407_0⟩ := Kd.at_int HR406_0.out a2 p407 q407; cases e407; replace hx407_0 := (HB.out.cell (World.block_lt_of_cell? w _ hx407_0)).trans hx407_0; replace p407 := eq_true p407; replace q407 := eq_true q407))
          go_ret
          exact ⟨by first | rfl | (simp [errW_none, errW_some] <;> rfl) | (simp [*, errW_none, errW_some] <;> rfl), by repeat (first | (with_reducible first | exact HB.out | apply below_alloc | apply pw_below_drewN | apply below_drew1 | refine below_set ?_ GE405.out) | exact HB.out)⟩
        · rw [if_neg c7] at H
          exact absurd H (by simp)
      · rw [if_neg c6] at H
        exact absurd H (by simp)
    · rw [if_neg c5] at H
      exact absurd H (by simp)
  · rw [if_neg c4] at H
    exact absurd H (by simp)

end Go.Proofs.Yteflolamihhmdaa.Q

namespace Go.Proofs.Yteflolamihhmdaa.Q
open Go.RowKit Go.Proofs.YteflolamihhmdaaW.PrintWords Go.Proofs.YteflolamihhmdaaW.PrintLast Go.Proofs.YteflolamihhmdaaW.PrintMore
attribute [local go_sem] max2_int min2_int max_two min_two max_three min_three max_four min_four   -- for this text's walks alone
set_option linter.unusedVariables false
set_option linter.unusedSimpArgs false

/-! ### bits_Len64: function 85 -/
def bits_Len64.f (a0 : Int) : Option Int := if 0 ≤ a0 then (if a0 ≤ 18446744073709551615 then some (Lib.bitLen a0.toNat : Int) else none) else none
theorem bits_Len64.calls (a0 : Int) (r : Int) (w : World) (h : bits_Len64.f a0 = some r) :
    Calls Try.prog 85 #[.int .u64 a0] w fun e w' => e = .returned (.int .i64 r) ∧ Drawn0 w w' := by
  unfold bits_Len64.f at h
  by_cases h0 : 0 ≤ a0
  · by_cases h1 : a0 ≤ 18446744073709551615
    · rw [if_pos h0, if_pos h1] at h
      obtain rfl := Option.some.inj h
      refine (Go.Proofs.Try.bits_Len64 a0 w h0 h1).mono ?_
      rintro e w' ⟨rfl, rfl⟩
      exact ⟨rfl, Drawn0.refl _⟩
    · rw [if_pos h0, if_neg h1] at h
      exact absurd h (by simp)
  · rw [if_neg h0] at h
    exact absurd h (by simp)

end Go.Proofs.Yteflolamihhmdaa.Q

namespace Go.Proofs.Yteflolamihhmdaa.Q
open Go.RowKit Go.Proofs.YteflolamihhmdaaW.PrintWords Go.Proofs.YteflolamihhmdaaW.PrintLast Go.Proofs.YteflolamihhmdaaW.PrintMore
attribute [local go_sem] max2_int min2_int max_two min_two max_three min_three max_four min_four   -- for this text's walks alone
set_option linter.unusedVariables false
set_option linter.unusedSimpArgs false

/-! ### expo_Root: function 72 -/
def expo_Root.l0 : Nat → Int → Int → Int → Option (Int)
  | 0, _, _, _ => none
  | k + 1, x0, x3, x4 => if x4 ≥ 0 then (if 0 ≤ x4 then (if (IntKind.u64.wrap ((Go.bits .or .u64 x3 (shl .u64 1 x4)) * (Go.bits .or .u64 x3 (shl .u64 1 x4)))) ≤ x0 then (expo_Root.l0 k x0 (Go.bits .or .u64 x3 (shl .u64 1 x4)) (wrap64 (x4 - 1))) else (expo_Root.l0 k x0 x3 (wrap64 (x4 - 1)))) else (none)) else (some x3)
def expo_Root.f (k : Nat) (a0 : Int) : Option (Int) := (bits_Len64.f a0).bind fun t117 => (expo_Root.l0 k a0 0 (wrap64 (Int.tdiv (wrap64 (t117 - 1)) 2)))
theorem expo_Root.mono_l : ∀ k, (∀ y0 y1 y2, LeO (expo_Root.l0 k y0 y1 y2) (expo_Root.l0 (k + 1) y0 y1 y2))
  | 0 => fun _ _ _ r h => by simp [expo_Root.l0] at h
  | k + 1 => by
    have ih0 := expo_Root.mono_l k
    · intro y0 y1 y2
      unfold expo_Root.l0
      repeat' first
      | (with_reducible exact ih0 _ _ _)
      | (with_reducible exact LeO.refl _)
      | (with_reducible exact LeO.none _)
      | (with_reducible refine LeO.ite ?_ ?_)
      | (with_reducible refine LeO.bind ?_ (fun _ => ?_))
      | exact ih0 _ _ _
      | exact LeO.none _
      | refine LeO.ite ?_ ?_
      | refine LeO.bind ?_ (fun _ => ?_)
theorem expo_Root.mono : ∀ a0 k, LeO (expo_Root.f k a0) (expo_Root.f (k + 1) a0) := by
  intro a0 k
  have ih0 := expo_Root.mono_l k
  unfold expo_Root.f
  repeat' first
      | (with_reducible exact ih0 _ _ _)
      | (with_reducible exact LeO.refl _)
      | (with_reducible exact LeO.none _)
      | (with_reducible refine LeO.ite ?_ ?_)
      | (with_reducible refine LeO.bind ?_ (fun _ => ?_))
      | exact ih0 _ _ _
      | exact LeO.none _
      | refine LeO.ite ?_ ?_
      | refine LeO.bind ?_ (fun _ => ?_)
set_option maxHeartbeats 8000000 in
set_option maxRecDepth 100000 in
theorem expo_Root.calls (k : Nat) (a0 : Int) (r : Int) (w : World) (h : expo_Root.f k a0 = some r) :
    Calls Try.prog 72 #[.int .u64 a0] w fun e w' => e = .returned (.int .u64 r) ∧ Drawn0 w w' := by
  have H : ((bits_Len64.f a0).bind fun t117 => (expo_Root.l0 k a0 0 (wrap64 (Int.tdiv (wrap64 (t117 - 1)) 2)))) = some r := h
  clear h
  replace H := Option.bind_eq_some_iff.mp H
  obtain ⟨t117, A20, H⟩ := H
  replace H : (expo_Root.l0 k a0 0 (wrap64 (Int.tdiv (wrap64 (t117 - 1)) 2))) = some r := H
  have A2 := Aside0.mk A20
  clear A20
  have H' := Aside0.mk H
  clear H
  go_enter Try.func72, Try.ntmps72
  go_wp2_with (first | ((with_reducible refine gate_callee (f := 85) rfl ?_); refine goesL_ (some 7) rfl rfl Try.func85 (by kernel_rfl) rfl #[.int .u64 a0] rfl (by (try simp only [List.map_toArray, List.map_cons, List.map_nil]); first | done | rfl | (simp only [List.length_drop, List.length_take]; rfl)) ?_; (with_reducible refine (bits_Len64.calls a0 t117 _ A2.out).mono ?_); rintro e w' ⟨rfl, ⟨nd, rfl⟩⟩; refine ⟨_, rfl, ?_⟩))
  go_loopg [3, 4] k (fun kq v3 v4 w' => ∃ (x3_1 : Int) (x4_1 : Int), v3 = .int .u64 x3_1 ∧ v4 = .int .i64 x4_1 ∧ Aside0 (expo_Root.l0 kq a0 x3_1 x4_1 = some r) ∧ Aside0 (kq ≤ k) ∧ Drawn0 w w')
  case atStart => exact ⟨(0), (wrap64 (Int.tdiv (wrap64 (t117 - 1)) 2)), (by first | rfl | (simp; done) | (simp [*]; done)), (by first | rfl | (simp; done) | (simp [*]; done)), H', ⟨Nat.le_refl _⟩, by repeat (first | exact Drawn0.refl _ | apply Drawn0.step)⟩
  case round =>
    clear H'
    try clear p2
    obtain ⟨x3_1, x4_1, rfl, rfl, HA, HK1, ⟨m1, rfl⟩⟩ := hrel
    cases gk with
    | zero => exact absurd HA.out (by simp [expo_Root.l0])
    | succ k1 =>
      have H := HA.out
      clear HA
      simp only [expo_Root.l0] at H
      by_cases c3 : x4_1 ≥ 0
      · rw [if_pos c3] at H
        have c3b0 : decide (0 ≤ x4_1) = true := decide_eq_true c3
        clear c3
        by_cases c4 : 0 ≤ x4_1
        · rw [if_pos c4] at H
          have c4b0 := eq_true c4
          have c4b1 : decide (0 ≤ x4_1) = true := decide_eq_true c4
          clear c4
          obtain ⟨ji5, hji5⟩ : ∃ j_ : Int, (shl .u64 1 x4_1) = j_ := ⟨_, rfl⟩
          replace H : (if (IntKind.u64.wrap ((Go.bits .or .u64 x3_1 (ji5)) * (Go.bits .or .u64 x3_1 (ji5)))) ≤ a0 then (expo_Root.l0 k1 a0 (Go.bits .or .u64 x3_1 (ji5)) (wrap64 (x4_1 - 1))) else (expo_Root.l0 k1 a0 x3_1 (wrap64 (x4_1 - 1)))) = some r := by first | (rw [hji5] at H; exact H) | (simp only [hji5] at H ⊢; exact H)
          have hji5_ : (IntKind.u64.wrap (1 * 2 ^ min x4_1.toNat 64)) = ji5 := hji5
          have hji5z : x4_1 ≤ 64 → (IntKind.u64.wrap (1 * 2 ^ x4_1.toNat)) = ji5 := shl_small hji5
          have hji5u : (IntKind.u64.wrap (2 ^ min x4_1.toNat 64)) = ji5 := by have h_ := hji5_; rw [Int.one_mul] at h_; exact h_
          have hji5v : x4_1 ≤ 64 → (IntKind.u64.wrap (2 ^ x4_1.toNat)) = ji5 := fun hle_ => by have h_ := hji5z hle_; rw [Int.one_mul] at h_; exact h_
          by_cases c6 : (IntKind.u64.wrap ((Go.bits .or .u64 x3_1 (ji5)) * (Go.bits .or .u64 x3_1 (ji5)))) ≤ a0
          · rw [if_pos c6] at H
            have c6b0 : decide ((IntKind.u64.wrap ((Go.bits .or .u64 x3_1 (ji5)) * (Go.bits .or .u64 x3_1 (ji5)))) ≤ a0) = true := decide_eq_true c6
            clear c6
            have H' := Aside0.mk H
            clear H
            go_wp2
            go_roundg k1
            case measure => have := HK1.out; omega
            case rel => exact ⟨(Go.bits .or .u64 x3_1 (ji5)), (wrap64 (x4_1 - 1)), (by first | rfl | (simp; done) | (simp only [← hji5] <;> (first | rfl | simp)) | (simp [*]; done)), (by first | rfl | (simp; done) | (simp [*]; done)), H', ⟨by have := HK1.out; omega⟩, by repeat (first | exact Drawn0.refl _ | apply Drawn0.step)⟩
          · rw [if_neg c6] at H
            have c6b0 : decide ((IntKind.u64.wrap ((Go.bits .or .u64 x3_1 (ji5)) * (Go.bits .or .u64 x3_1 (ji5)))) ≤ a0) = false := decide_eq_false c6
            clear c6
            have H' := Aside0.mk H
            clear H
            go_wp2
            go_roundg k1
            case measure => have := HK1.out; omega
            case rel => exact ⟨(x3_1), (wrap64 (x4_1 - 1)), (by first | rfl | (simp; done) | (simp [*]; done)), (by first | rfl | (simp; done) | (simp [*]; done)), H', ⟨by have := HK1.out; omega⟩, by repeat (first | exact Drawn0.refl _ | apply Drawn0.step)⟩
        · rw [if_neg c4] at H
          exact absurd H (by simp)
      · rw [if_neg c3] at H
        have c3b0 : decide (0 ≤ x4_1) = false := decide_eq_false c3
        clear c3
        obtain rfl := Option.some.inj H
        go_wp2
        go_ret
        exact ⟨by first | rfl | (simp; done) | (simp [*]; done), by repeat (first | exact Drawn0.refl _ | apply Drawn0.step)⟩

end Go.Proofs.Yteflolamihhmdaa.Q

namespace Go.Proofs.Yteflolamihhmdaa.Q
open Go.RowKit Go.Proofs.YteflolamihhmdaaW.PrintWords Go.Proofs.YteflolamihhmdaaW.PrintLast Go.Proofs.YteflolamihhmdaaW.PrintMore
attribute [local go_sem] max2_int min2_int max_two min_two max_three min_three max_four min_four   -- for this text's walks alone
set_option linter.unusedVariables false
set_option linter.unusedSimpArgs false

/-! ### expo_Rsqrt: function 49 -/
def expo_Rsqrt.f (k : Nat) (a0 : Int) : Option (Int) := if a0 ≤ 9223372036854775807 then ((expo_Root.f k (281474976710656 / (if a0 < 1 then 1 else a0))).bind fun t => (some (wrap32 (t)))) else none
theorem expo_Rsqrt.mono : ∀ a0 k, LeO (expo_Rsqrt.f k a0) (expo_Rsqrt.f (k + 1) a0) := by
  intro a0 k
  unfold expo_Rsqrt.f
  repeat' first
      | (with_reducible exact expo_Root.mono _ _)
      | (with_reducible exact LeO.refl _)
      | (with_reducible exact LeO.none _)
      | (with_reducible refine LeO.ite ?_ ?_)
      | (with_reducible refine LeO.bind ?_ (fun _ => ?_))
theorem expo_Rsqrt.mx_lo {a : Int} (h : a < 1) : (if a < 1 then (1 : Int) else a) = 1 := if_pos h
theorem expo_Rsqrt.mx_hi {a : Int} (h : ¬ a < 1) : (if a < 1 then (1 : Int) else a) = a := if_neg h
set_option maxHeartbeats 2000000 in
theorem expo_Rsqrt.calls (k : Nat) (a0 : Int) (r : Int) (w : World) (h : expo_Rsqrt.f k a0 = some r) :
    Calls Try.prog 49 #[.int .i64 a0] w fun e w' => e = .returned (.int .i32 r) ∧ Below w.heap.size w w' := by
  unfold expo_Rsqrt.f at h
  by_cases h1 : a0 ≤ 9223372036854775807
  · rw [if_pos h1] at h
    by_cases h0 : a0 < 1
    · rw [if_pos h0] at h
      obtain ⟨t, ht, h⟩ := Option.bind_eq_some_iff.1 h
      obtain rfl := Option.some.inj h
      have HT := Aside0.mk ht
      clear ht h
      have hm : mx a0 1 = 1 := by unfold mx; omega
      go_enter Try.func49, Try.ntmps49
      go_wp2_with ((with_reducible refine (expo_Root.calls k 281474976710656 t _ (by simpa using HT.out)).mono ?_); rintro e w' ⟨rfl, ⟨nd, rfl⟩⟩)
      go_ret
      exact ⟨rfl, by repeat (first | exact Below.refl _ _ | apply below_alloc | apply pw_below_drewN | apply below_drew1)⟩
    · rw [if_neg h0] at h
      obtain ⟨t, ht, h⟩ := Option.bind_eq_some_iff.1 h
      obtain rfl := Option.some.inj h
      have HT := Aside0.mk ht
      clear ht h
      have h2 : 1 ≤ a0 := by omega
      have hm : mx a0 1 = a0 := by unfold mx; omega
      clear h0
      go_enter Try.func49, Try.ntmps49
      go_wp2_with ((with_reducible refine (expo_Root.calls k (281474976710656 / a0) t _ HT.out).mono ?_); rintro e w' ⟨rfl, ⟨nd, rfl⟩⟩)
      go_ret
      exact ⟨rfl, by repeat (first | exact Below.refl _ _ | apply below_alloc | apply pw_below_drewN | apply below_drew1)⟩
  · rw [if_neg h1] at h
    exact absurd h (by simp)

end Go.Proofs.Yteflolamihhmdaa.Q

namespace Go.Proofs.Yteflolamihhmdaa.Q
open Go.RowKit Go.Proofs.YteflolamihhmdaaW.PrintWords Go.Proofs.YteflolamihhmdaaW.PrintLast Go.Proofs.YteflolamihhmdaaW.PrintMore
attribute [local go_sem] max2_int min2_int max_two min_two max_three min_three max_four min_four   -- for this text's walks alone
set_option linter.unusedVariables false
set_option linter.unusedSimpArgs false

/-! ### attn_scaled: function 26 -/
def attn_scaled.f (k : Nat) (a0 : Int) (a1 : Int) : Option (Int) := (fix_Half.f a0 16).bind fun t118 => ((fix_Wide.f t118).bind fun t119 => ((expo_Rsqrt.f k (wrap64 (a1 * 65536))).bind fun t120 => ((fix_Mul.f t119 t120).bind fun t121 => (some t121))))
theorem attn_scaled.mono : ∀ a0 a1 k, LeO (attn_scaled.f k a0 a1) (attn_scaled.f (k + 1) a0 a1) := by
  intro a0 a1 k
  unfold attn_scaled.f
  repeat' first
      | (with_reducible exact expo_Rsqrt.mono _ _)
      | (with_reducible exact LeO.refl _)
      | (with_reducible exact LeO.none _)
      | (with_reducible refine LeO.ite ?_ ?_)
      | (with_reducible refine LeO.bind ?_ (fun _ => ?_))
      | exact expo_Rsqrt.mono _ _
      | exact LeO.none _
      | refine LeO.ite ?_ ?_
      | refine LeO.bind ?_ (fun _ => ?_)
set_option maxHeartbeats 8000000 in
set_option maxRecDepth 100000 in
theorem attn_scaled.calls (k : Nat) (a0 : Int) (a1 : Int) (r : Int) (w : World) (h : attn_scaled.f k a0 a1 = some r) :
    Calls Try.prog 26 #[.int .i64 a0, .int .i64 a1] w fun e w' => e = .returned (.int .i32 r) ∧ Below w.heap.size w w' := by
  have HB := Aside0.mk (Below.refl w.heap.size w)
  have H : ((fix_Half.f a0 16).bind fun t118 => ((fix_Wide.f t118).bind fun t119 => ((expo_Rsqrt.f k (wrap64 (a1 * 65536))).bind fun t120 => ((fix_Mul.f t119 t120).bind fun t121 => (some t121))))) = some r := h
  clear h
  replace H := Option.bind_eq_some_iff.mp H
  obtain ⟨t118, A30, H⟩ := H
  replace H : ((fix_Wide.f t118).bind fun t119 => ((expo_Rsqrt.f k (wrap64 (a1 * 65536))).bind fun t120 => ((fix_Mul.f t119 t120).bind fun t121 => (some t121)))) = some r := H
  have A3 := Aside0.mk A30
  clear A30
  replace H := Option.bind_eq_some_iff.mp H
  obtain ⟨t119, A40, H⟩ := H
  replace H : ((expo_Rsqrt.f k (wrap64 (a1 * 65536))).bind fun t120 => ((fix_Mul.f t119 t120).bind fun t121 => (some t121))) = some r := H
  have A4 := Aside0.mk A40
  clear A40
  replace H := Option.bind_eq_some_iff.mp H
  obtain ⟨t120, A50, H⟩ := H
  replace H : ((fix_Mul.f t119 t120).bind fun t121 => (some t121)) = some r := H
  have A5 := Aside0.mk A50
  clear A50
  replace H := Option.bind_eq_some_iff.mp H
  obtain ⟨t121, A60, H⟩ := H
  replace H : (some t121) = some r := H
  have A6 := Aside0.mk A60
  clear A60
  obtain rfl := Option.some.inj H
  go_enter Try.func26, Try.ntmps26
  go_wp2_with (first | ((with_reducible refine gate_callee (f := 48) rfl ?_); refine goesL_ (some 6) rfl rfl Try.func48 (by kernel_rfl) rfl #[.int .i64 a0, .int .i64 16] rfl (by (try simp only [List.map_toArray, List.map_cons, List.map_nil]); first | done | rfl | (simp only [List.length_drop, List.length_take]; rfl)) ?_; (with_reducible refine (fix_Half.calls a0 16 t118 _ A3.out).mono ?_); rintro e w7 ⟨rfl, hb⟩; refine ⟨_, rfl, ?_⟩; have n0_ := Aside0.mk (below_step (by repeat (first | (with_reducible first | exact HB.out | apply below_alloc | apply pw_below_drewN | apply below_drew1) | exact HB.out)) hb); clear HB; have HB := n0_; clear n0_; (try clear hb); (try clear hb2); (try clear hk); (try clear hi)) | ((with_reducible refine gate_callee (f := 47) rfl ?_); refine goesL_ (some 7) rfl rfl Try.func47 (by kernel_rfl) rfl #[.int .i64 t118] rfl (by (try simp only [List.map_toArray, List.map_cons, List.map_nil]); first | done | rfl | (simp only [List.length_drop, List.length_take]; rfl)) ?_; (with_reducible refine (fix_Wide.calls t118 t119 _ A4.out).mono ?_); rintro e w8 ⟨rfl, hb⟩; refine ⟨_, rfl, ?_⟩; have n0_ := Aside0.mk (below_step (by repeat (first | (with_reducible first | exact HB.out | apply below_alloc | apply pw_below_drewN | apply below_drew1) | exact HB.out)) hb); clear HB; have HB := n0_; clear n0_; (try clear hb); (try clear hb2); (try clear hk); (try clear hi)) | ((with_reducible refine gate_callee (f := 49) rfl ?_); refine goesL_ (some 10) rfl rfl Try.func49 (by kernel_rfl) rfl #[.int .i64 (wrap64 (a1 * 65536))] rfl (by (try simp only [List.map_toArray, List.map_cons, List.map_nil]); first | done | rfl | (simp only [List.length_drop, List.length_take]; rfl)) ?_; (with_reducible refine (expo_Rsqrt.calls k (wrap64 (a1 * 65536)) t120 _ A5.out).mono ?_); rintro e w9 ⟨rfl, hb⟩; refine ⟨_, rfl, ?_⟩; have n0_ := Aside0.mk (below_step (by repeat (first | (with_reducible first | exact HB.out | apply below_alloc | apply pw_below_drewN | apply below_drew1) | exact HB.out)) hb); clear HB; have HB := n0_; clear n0_; (try clear hb); (try clear hb2); (try clear hk); (try clear hi)) | ((with_reducible refine gate_callee (f := 46) rfl ?_); refine goesL_ (some 11) rfl rfl Try.func46 (by kernel_rfl) rfl #[.int .i32 t119, .int .i32 t120] rfl (by (try simp only [List.map_toArray, List.map_cons, List.map_nil]); first | done | rfl | (simp only [List.length_drop, List.length_take]; rfl)) ?_; (with_reducible refine (fix_Mul.calls t119 t120 t121 _ A6.out).mono ?_); rintro e w10 ⟨rfl, hb⟩; refine ⟨_, rfl, ?_⟩; have n0_ := Aside0.mk (below_step (by repeat (first | (with_reducible first | exact HB.out | apply below_alloc | apply pw_below_drewN | apply below_drew1) | exact HB.out)) hb); clear HB; have HB := n0_; clear n0_; (try clear hb); (try clear hb2); (try clear hk); (try clear hi)))
  go_ret
  exact ⟨by first | rfl | (simp [errW_none, errW_some] <;> rfl) | (simp [*, errW_none, errW_some] <;> rfl), by repeat (first | (with_reducible first | exact HB.out | apply below_alloc | apply pw_below_drewN | apply below_drew1) | exact HB.out)⟩

end Go.Proofs.Yteflolamihhmdaa.Q

namespace Go.Proofs.Yteflolamihhmdaa.Q
open Go.RowKit Go.Proofs.YteflolamihhmdaaW.PrintWords Go.Proofs.YteflolamihhmdaaW.PrintLast Go.Proofs.YteflolamihhmdaaW.PrintMore
attribute [local go_sem] max2_int min2_int max_two min_two max_three min_three max_four min_four   -- for this text's walks alone
set_option linter.unusedVariables false
set_option linter.unusedSimpArgs false

/-! ### attn_narrow: function 45 -/
def attn_narrow.f (a0 : Int) : Option (Int) := (fix_Narrow.f (wrap64 (a0))).bind fun t107 => (some (wrap64 (t107)))
set_option maxHeartbeats 8000000 in
set_option maxRecDepth 100000 in
theorem attn_narrow.calls (a0 : Int) (r : Int) (w : World) (h : attn_narrow.f a0 = some r) :
    Calls Try.prog 45 #[.int .i32 a0] w fun e w' => e = .returned (.int .i64 r) ∧ Below w.heap.size w w' := by
  have HB := Aside0.mk (Below.refl w.heap.size w)
  have H : ((fix_Narrow.f (wrap64 (a0))).bind fun t107 => (some (wrap64 (t107)))) = some r := h
  clear h
  replace H := Option.bind_eq_some_iff.mp H
  obtain ⟨t107, A20, H⟩ := H
  replace H : (some (wrap64 (t107))) = some r := H
  have A2 := Aside0.mk A20
  clear A20
  obtain rfl := Option.some.inj H
  go_enter Try.func45, Try.ntmps45
  go_wp2_with (first | ((with_reducible refine gate_callee (f := 66) rfl ?_); refine goesL_ (some 5) rfl rfl Try.func66 (by kernel_rfl) rfl #[.int .i64 (wrap64 (a0))] rfl (by (try simp only [List.map_toArray, List.map_cons, List.map_nil]); first | done | rfl | (simp only [List.length_drop, List.length_take]; rfl)) ?_; (with_reducible refine (fix_Narrow.calls (wrap64 (a0)) t107 _ A2.out).mono ?_); rintro e w3 ⟨rfl, hb⟩; refine ⟨_, rfl, ?_⟩; have n0_ := Aside0.mk (below_step (by repeat (first | (with_reducible first | exact HB.out | apply below_alloc | apply pw_below_drewN | apply below_drew1) | exact HB.out)) hb); clear HB; have HB := n0_; clear n0_; (try clear hb); (try clear hb2); (try clear hk); (try clear hi)))
  go_ret
  exact ⟨by first | rfl | (simp [errW_none, errW_some] <;> rfl) | (simp [*, errW_none, errW_some] <;> rfl), by repeat (first | (with_reducible first | exact HB.out | apply below_alloc | apply pw_below_drewN | apply below_drew1) | exact HB.out)⟩

end Go.Proofs.Yteflolamihhmdaa.Q

namespace Go.Proofs.Yteflolamihhmdaa.Q
open Go.RowKit Go.Proofs.YteflolamihhmdaaW.PrintWords Go.Proofs.YteflolamihhmdaaW.PrintLast Go.Proofs.YteflolamihhmdaaW.PrintMore
attribute [local go_sem] max2_int min2_int max_two min_two max_three min_three max_four min_four   -- for this text's walks alone
set_option linter.unusedVariables false
set_option linter.unusedSimpArgs false

/-! ### attn_scores: function 41 -/
/-- what a source means: its tokens' keys and values, as lists -/
structure attn_Src where
  keys : List (List Int)
  vals : List (List Int)
/-- a value is a source of lists that lie in memory -/
def attn_IsSrc (w : World) (v : Value) (s : attn_Src) : Prop :=
  ∃ Ak ck Av cv, v = .iface 81 (.agg #[.slice Ak s.keys.length ck, .slice Av s.vals.length cv]) ∧ s.keys.length ≤ ck ∧ s.vals.length ≤ cv ∧
    Kd.C (Kd.slice 21 (Kd.int .i32)) w Ak s.keys.length s.keys ∧ Kd.C (Kd.slice 21 (Kd.int .i32)) w Av s.vals.length s.vals
theorem attn_IsSrc.below {w w1 : World} {v : Value} {s : attn_Src} (h : attn_IsSrc w v s) (hb : Below w.heap.size w w1) : attn_IsSrc w1 v s := by
  obtain ⟨Ak, ck, Av, cv, rfl, h1, h2, h3, h4⟩ := h
  exact ⟨Ak, ck, Av, cv, rfl, h1, h2, Kd.C_below h3 hb, Kd.C_below h4 hb⟩
/-- values in a row -/
def attn_Row (w : World) (A : Option Addr) (vs : List Value) : Prop := ∀ j : Nat, j < vs.length → ∃ ad, A = some ad ∧ w.cell? (ad.add j) = some (vs.getD j undef)
theorem attn_Row.below {w w1 : World} {A : Option Addr} {vs : List Value} (h : attn_Row w A vs) (hb : Below w.heap.size w w1) : attn_Row w1 A vs := fun j hj => by
  obtain ⟨ad, e, hc⟩ := h j hj
  exact ⟨ad, e, pw_cell_below hb hc⟩
def attn_Srcs (w : World) (A : Option Addr) (ss : List attn_Src) : Prop := ∃ vs : List Value, vs.length = ss.length ∧ attn_Row w A vs ∧ ∀ j : Nat, j < ss.length → attn_IsSrc w (vs.getD j undef) (ss.getD j ⟨[], []⟩)
theorem attn_Srcs.below {w w1 : World} {A : Option Addr} {ss : List attn_Src} (h : attn_Srcs w A ss) (hb : Below w.heap.size w w1) : attn_Srcs w1 A ss := by
  obtain ⟨vs, h1, h2, h3⟩ := h
  exact ⟨vs, h1, h2.below hb, fun j hj => (h3 j hj).below hb⟩
theorem attn_Srcs.at_ {w : World} {A : Option Addr} {ss : List attn_Src} (h : attn_Srcs w A ss) (j : Nat) (hj : j < ss.length) : ∃ ad v, A = some ad ∧ w.cell? (ad.add j) = some v ∧ attn_IsSrc w v (ss.getD j ⟨[], []⟩) := by
  obtain ⟨vs, h1, h2, h3⟩ := h
  obtain ⟨ad, e, hc⟩ := h2 j (by omega)
  exact ⟨ad, _, e, hc, h3 j hj⟩
def attn_keys (ss : List attn_Src) : List (List Int) := ss.flatMap (·.keys)
def attn_vals (ss : List attn_Src) : List (List Int) := ss.flatMap (·.vals)
theorem attn_keys_step {ss : List attn_Src} {j : Nat} (hj : j < ss.length) : attn_keys (ss.drop j) = (ss.getD j ⟨[], []⟩).keys ++ attn_keys (ss.drop (j + 1)) := by
  unfold attn_keys
  rw [List.drop_eq_getElem_cons hj, List.flatMap_cons, List.getD_eq_getElem?_getD, List.getElem?_eq_getElem hj]
  rfl
theorem attn_vals_step {ss : List attn_Src} {j : Nat} (hj : j < ss.length) : attn_vals (ss.drop j) = (ss.getD j ⟨[], []⟩).vals ++ attn_vals (ss.drop (j + 1)) := by
  unfold attn_vals
  rw [List.drop_eq_getElem_cons hj, List.flatMap_cons, List.getD_eq_getElem?_getD, List.getElem?_eq_getElem hj]
  rfl
theorem attn_drop_row {α : Type} {l : List (List α)} {t : Nat} (ht : t < l.length) : l.drop t = l.getD t [] :: l.drop (t + 1) := by
  rw [List.drop_eq_getElem_cons ht, List.getD_eq_getElem?_getD, List.getElem?_eq_getElem ht]
  rfl
theorem attn_drop_num {l : List Int} {t : Nat} (ht : t < l.length) : l.drop t = rd l t :: l.drop (t + 1) := by
  rw [List.drop_eq_getElem_cons ht]
  simp [rd, List.getD_eq_getElem?_getD, List.getElem?_eq_getElem ht]
theorem attn_plain.nil_count (a : Array Value) (W : World) : (nilAhead 257 81 (.agg a) "credenza/attn.count").run Try.prog W = .ok (some false) W := by kernel_rfl
theorem attn_plain.nil_key (a : Array Value) (W : World) : (nilAhead 257 81 (.agg a) "credenza/attn.key").run Try.prog W = .ok (some false) W := by kernel_rfl
theorem attn_plain.nil_value (a : Array Value) (W : World) : (nilAhead 257 81 (.agg a) "credenza/attn.value").run Try.prog W = .ok (some false) W := by kernel_rfl
theorem attn_plain.m_count (a : Array Value) (W : World) : (method 257 81 (.agg a) "credenza/attn.count").run Try.prog W = .ok (119, .agg a) W := by kernel_rfl
theorem attn_plain.m_key (a : Array Value) (W : World) : (method 257 81 (.agg a) "credenza/attn.key").run Try.prog W = .ok (120, .agg a) W := by kernel_rfl
theorem attn_plain.m_value (a : Array Value) (W : World) : (method 257 81 (.agg a) "credenza/attn.value").run Try.prog W = .ok (121, .agg a) W := by kernel_rfl
/-- the sum of the products from place p on -/
def attn_sum.l (key : List Int) : List Int → Nat → Int → Option Int
  | [], _, s => some s
  | x :: q, p, s => if p < key.length then ((attn_narrow.f (rd key p)).bind fun t => attn_sum.l key q (p + 1) (wrap64 (s + wrap64 (wrap64 x * t)))) else none
/-- the scores of the keys, one behind the other -/
def attn_scores.l (k : Nat) (q : List Int) : List (List Int) → List Int → Option (List Int)
  | [], out => some out
  | key :: ks, out => (attn_sum.l key q 0 0).bind fun s => (attn_scaled.f k s (q.length : Int)).bind fun x => attn_scores.l k q ks (out ++ [x])

theorem attn_scores.len {k : Nat} {q : List Int} : ∀ {ks : List (List Int)} {out r : List Int}, attn_scores.l k q ks out = some r → r.length = out.length + ks.length
  | [], out, r, h => by simp only [attn_scores.l] at h; rw [← Option.some.inj h]; simp
  | key :: ks, out, r, h => by
    simp only [attn_scores.l] at h
    obtain ⟨s, _, h⟩ := Option.bind_eq_some_iff.1 h
    obtain ⟨x, _, h⟩ := Option.bind_eq_some_iff.1 h
    have := attn_scores.len h
    simp at this ⊢
    omega
theorem attn_plain_key.at_ {l0 l1 : List (List Int)} {t p : Nat} (h1 : t < l0.length) (h2 : p < (l0.getD t []).length) : attn_plain_key.f l0 l1 (t : Int) (p : Int) = some (rd (l0.getD t []) (p : Int)) := by
  unfold attn_plain_key.f
  rw [if_pos (by omega), if_pos (by omega), if_pos (by omega), if_pos (by simpa [rd_L8] using h2)]
  simp [rd_L8]

set_option maxRecDepth 100000 in
set_option maxHeartbeats 4000000 in
theorem attn_scores.calls (k : Nat) (Aq : Option Addr) (cq : Nat) (q : List Int) (A : Option Addr) (c : Nat) (ss : List attn_Src) (r : List Int) (w : World)
    (hq : Kd.C (Kd.int .i32) w Aq q.length q) (hs : attn_Srcs w A ss) (hn1 : ss.length ≤ 1000000) (hn2 : r.length ≤ 1000000)
    (h : attn_scores.l k q (attn_keys ss) [] = some r) :
    Calls Try.prog 41 #[.slice Aq q.length cq, .slice A ss.length c] w fun e w' => ∃ v0_ : Value, e = .returned (v0_) ∧ Kd.R (Kd.int .i32) 21 w' w.heap.size (fun _ => True) v0_ r ∧ Below w.heap.size w w' := by
  have hn3 : q.length ≤ 9223372036854775807 := hq.2.1
  have HQ := Aside0.mk hq
  have HS := Aside0.mk hs
  have H0 := Aside0.mk h
  clear hq hs h
  go_enter Try.func41, Try.ntmps41
  go_wp2
  go_loopw [5, 14] (fun v i wr => ∃ (j : Nat) (out : List Int), j ≤ ss.length ∧ i = .int .i64 j ∧ Aside0 (attn_scores.l k q (attn_keys (ss.drop j)) out = some r) ∧ Aside0 (Kd.R (Kd.int .i32) 21 wr w.heap.size (fun _ => True) v out) ∧ Aside0 (Below w.heap.size w wr)) (fun _ i _ => ss.length - (intOf i).toNat)
  case atStart => exact ⟨0, [], Nat.zero_le _, rfl, H0, ⟨Kd.R_nil _ _ _ _ _⟩, ⟨Below.refl _ _⟩⟩
  case round =>
    obtain ⟨j, out, hj, rfl, HA, HO, HB⟩ := hrel
    by_cases hlt : j < ss.length
    · obtain ⟨ad, v, rfl, hc, hv⟩ := HS.out.at_ j hlt
      have hst := attn_keys_step hlt
      generalize ss.getD j ⟨[], []⟩ = s at hv hst
      have HA2 := HA.out
      rw [hst] at HA2
      have HA3 := Aside0.mk HA2
      clear HA2 hst
      replace hc := pw_cell_below HB.out hc
      obtain ⟨Ak, ck, Av, cv, rfl, hck, hcv, hk, hvv⟩ := hv
      have HK := Aside0.mk hk
      have HV := Aside0.mk hvv
      clear hk hvv
      obtain ⟨wo, rfl⟩ : ∃ wo : World, wo = wr := ⟨_, rfl⟩
      have N1 := attn_plain.nil_count
      have M1 := attn_plain.m_count
      go_wp2_with (go_at_call 119; (with_reducible refine (attn_plain_count.calls Ak ck s.keys Av cv s.vals (s.keys.length : Int) _ (Kd.C_below HK.out HB.out) hck (Kd.C_below HV.out HB.out) hcv rfl).mono ?_); rintro e w1 ⟨rfl, hb1⟩)
      have hkl : s.keys.length ≤ 9223372036854775807 := HK.out.2.1
      clear N1 M1
      have N1 := attn_plain.nil_key
      have M1 := attn_plain.m_key
      have hb0 := HB.out.trans (hb1.mono HB.out.size)
      have HB1 := Aside0.mk hb0
      have HO1 := Aside0.mk (Kd.R_below HO.out hb1)
      clear hb1 hb0 HO HA hc
      go_loopw [5, 20] (fun v i wr => ∃ (t : Nat) (out : List Int), t ≤ s.keys.length ∧ i = .int .i64 t ∧ Aside0 (attn_scores.l k q (s.keys.drop t ++ attn_keys (ss.drop (j + 1))) out = some r) ∧ Aside0 (Kd.R (Kd.int .i32) 21 wr w.heap.size (fun _ => True) v out) ∧ Aside0 (Below w.heap.size w wr)) (fun _ i _ => s.keys.length - (intOf i).toNat)
      case atStart => exact ⟨0, out, Nat.zero_le _, rfl, HA3, HO1, HB1⟩
      case round =>
        clear HA3 HO1 HB1 HB
        obtain ⟨t, out2, ht, rfl, HA, HO, HB⟩ := hrel
        by_cases htl : t < s.keys.length
        · have HA2 := HA.out
          rw [attn_drop_row htl, List.cons_append] at HA2
          simp only [attn_scores.l] at HA2
          obtain ⟨sm, hsm, HA2⟩ := Option.bind_eq_some_iff.1 HA2
          obtain ⟨x, hx, HA2⟩ := Option.bind_eq_some_iff.1 HA2
          have HSM := Aside0.mk hsm
          have HX := Aside0.mk hx
          have hol : out2.length + 1 ≤ r.length := by have := attn_scores.len HA2; simp at this; omega
          have HA4 := Aside0.mk HA2
          clear HA hsm hx HA2
          have HKEY := Aside0.mk (fun p => attn_plain_key.at_ (l1 := s.vals) (p := p) htl)
          generalize s.keys.getD t [] = key at HSM HKEY
          obtain ⟨wo, rfl⟩ : ∃ wo : World, wo = wr := ⟨_, rfl⟩
          go_wp2
          go_loopw [9, 25] (fun v i wr => ∃ (p : Nat) (s0 : Int), p ≤ q.length ∧ i = .int .i64 p ∧ v = .int .i64 s0 ∧ Aside0 (attn_sum.l key (q.drop p) p s0 = some sm) ∧ Aside0 (Below w.heap.size w wr) ∧ Aside0 (Below wo.heap.size wo wr)) (fun _ i _ => q.length - (intOf i).toNat)
          case atStart => exact ⟨0, 0, Nat.zero_le _, rfl, rfl, HSM, HB, ⟨Below.refl _ _⟩⟩
          case round =>
            have HBo := HB
            clear HSM HB
            obtain ⟨p, s0, hp, rfl, rfl, HS2, HB, HW⟩ := hrel
            by_cases hpl : p < q.length
            · have HS3 := HS2.out
              rw [attn_drop_num hpl] at HS3
              simp only [attn_sum.l] at HS3
              by_cases hpk : p < key.length
              · rw [if_pos hpk] at HS3
                obtain ⟨tt, htt, HS3⟩ := Option.bind_eq_some_iff.1 HS3
                have HTT := Aside0.mk htt
                have HS4 := Aside0.mk HS3
                have HK2 := Aside0.mk (HKEY.out p hpk)
                clear HS3 htt HS2 hpk
                obtain ⟨adq, rfl, hcq⟩ := Kd.at_int (Kd.C_below HQ.out HB.out) (p : Int) (by omega) (by omega)
                simp only [Int.toNat_natCast] at hcq
                go_wp2_with (first
                  | (go_at_call 120; (with_reducible refine (attn_plain_key.calls Ak ck s.keys Av cv s.vals (t : Int) (p : Int) _ _ (Kd.C_below HK.out HB.out) hck (Kd.C_below HV.out HB.out) hcv HK2.out).mono ?_); rintro e w2 ⟨rfl, hb2⟩)
                  | (go_at_call 45; (with_reducible refine (attn_narrow.calls (rd key (p : Int)) tt _ HTT.out).mono ?_); rintro e w3 ⟨rfl, hb3⟩))
                go_roundw
                case rel => exact ⟨p + 1, _, by omega, by go_num, rfl, HS4, ⟨HB.out.trans ((hb2.trans (hb3.mono hb2.size)).mono HB.out.size)⟩, ⟨HW.out.trans ((hb2.trans (hb3.mono hb2.size)).mono HW.out.size)⟩⟩
                case measure => simp [intOf]; omega
              · rw [if_neg hpk] at HS3
                exact absurd HS3 (by simp)
            · obtain rfl : p = q.length := by omega
              have HS3 := HS2.out
              rw [List.drop_length] at HS3
              obtain rfl := Option.some.inj HS3
              clear HS3 HS2
              go_wp2_with (first
                | (go_at_call 26; (with_reducible refine (attn_scaled.calls k s0 (q.length : Int) x _ HX.out).mono ?_); rintro e w2 ⟨rfl, hb2⟩)
                | ((with_reducible refine gate_builtin (b := .append) rfl ?_); at_builtin; refine Kd.R_append (Kd.int .i32) (w0 := w) w.heap.size rfl _ _ 22 21 (.int .i32 0) 4 rfl Try.underlying22 info21 rfl (by decide) (by omega) u5 out2 x [.int .i32 x] (fun _ => True) (fun _ => False) rfl rfl ?aP (fun _ hk => hk.elim) ?aF ?aO ?aB ?aS ?aL ?_; (case aP => exact rfl); (case aF => exact (fun _ _ => trivial)); (case aO => exact Kd.R_below (Kd.R_below HO.out HW.out) hb2); (case aB => exact HB.out.trans (hb2.mono HB.out.size)); (case aS => exact Nat.le_trans HB.out.size hb2.size); (case aL => omega); intro v' w3 hR3 hb3 hg3 hat3))
              go_roundw
              case rel => exact ⟨t + 1, out2 ++ [x], by omega, by go_num, HA4, ⟨hR3⟩, ⟨hb3⟩⟩
              case measure => simp [intOf]; omega
        · obtain rfl : t = s.keys.length := by omega
          have HA2 := HA.out
          rw [List.drop_length, List.nil_append] at HA2
          have HA4 := Aside0.mk HA2
          clear HA2 HA
          go_wp2
          go_roundw
          case rel => exact ⟨j + 1, out2, by omega, by go_num, HA4, HO, HB⟩
          case measure => simp [intOf]; omega
    · obtain rfl : j = ss.length := by omega
      have HA2 := HA.out
      rw [List.drop_length] at HA2
      obtain rfl := Option.some.inj HA2
      clear HA2
      go_wp2
      go_ret
      exact ⟨_, rfl, by (with_reducible repeat (first | apply Kd.R_alloc | apply Kd.R_drewN | apply Kd.R_drew)); exact HO.out, by repeat (first | (with_reducible first | exact HB.out | apply below_alloc | apply pw_below_drewN | apply below_drew1) | exact HB.out)⟩

theorem attn_scores.one (k : Nat) (Aq : Option Addr) (cq : Nat) (q : List Int) (A : Option Addr) (c : Nat) (s : attn_Src) (r : List Int) (w : World)
    (hq : Kd.C (Kd.int .i32) w Aq q.length q) (hs : attn_Srcs w A [s]) (hn2 : r.length ≤ 1000000) (h : attn_scores.l k q s.keys [] = some r) :
    Calls Try.prog 41 #[.slice Aq q.length cq, .slice A 1 c] w fun e w' => ∃ v0_ : Value, e = .returned (v0_) ∧ Kd.R (Kd.int .i32) 21 w' w.heap.size (fun _ => True) v0_ r ∧ Below w.heap.size w w' :=
  attn_scores.calls k Aq cq q A c [s] r w hq hs (by simp) hn2 (by simpa [attn_keys] using h)

end Go.Proofs.Yteflolamihhmdaa.Q

namespace Go.Proofs.Yteflolamihhmdaa.Q
open Go.RowKit Go.Proofs.YteflolamihhmdaaW.PrintWords Go.Proofs.YteflolamihhmdaaW.PrintLast Go.Proofs.YteflolamihhmdaaW.PrintMore
attribute [local go_sem] max2_int min2_int max_two min_two max_three min_three max_four min_four   -- for this text's walks alone
set_option linter.unusedVariables false
set_option linter.unusedSimpArgs false

/-! ### attn_sized: function 23 -/
def attn_sized.f (a0 : Int) : Option (Bool) := if a0 ≥ 1 then (some (decide (a0 ≤ 16))) else (some false)
set_option maxHeartbeats 8000000 in
set_option maxRecDepth 100000 in
theorem attn_sized.calls (a0 : Int) (r : Bool) (w : World) (h : attn_sized.f a0 = some r) :
    Calls Try.prog 23 #[.int .i64 a0] w fun e w' => e = .returned (.bool r) ∧ Drawn0 w w' := by
  have H : (if a0 ≥ 1 then (some (decide (a0 ≤ 16))) else (some false)) = some r := h
  clear h
  by_cases c2 : a0 ≥ 1
  · rw [if_pos c2] at H
    have c2b0 : decide (1 ≤ a0) = true := decide_eq_true c2
    clear c2
    obtain rfl := Option.some.inj H
    go_enter Try.func23, Try.ntmps23
    go_wp2
    go_ret
    exact ⟨by first | rfl | (simp; done) | (simp [*]; done), by repeat (first | exact Drawn0.refl _ | apply Drawn0.step)⟩
  · rw [if_neg c2] at H
    have c2b0 : decide (1 ≤ a0) = false := decide_eq_false c2
    clear c2
    obtain rfl := Option.some.inj H
    go_enter Try.func23, Try.ntmps23
    go_wp2
    go_ret
    exact ⟨by first | rfl | (simp; done) | (simp [*]; done), by repeat (first | exact Drawn0.refl _ | apply Drawn0.step)⟩

end Go.Proofs.Yteflolamihhmdaa.Q

namespace Go.Proofs.Yteflolamihhmdaa.Q
open Go.RowKit Go.Proofs.YteflolamihhmdaaW.PrintWords Go.Proofs.YteflolamihhmdaaW.PrintLast Go.Proofs.YteflolamihhmdaaW.PrintMore
attribute [local go_sem] max2_int min2_int max_two min_two max_three min_three max_four min_four   -- for this text's walks alone
set_option linter.unusedVariables false
set_option linter.unusedSimpArgs false

/-! ### dot_shape: function 43 -/
def dot_shape.f (l0 : List Int) (l1 : List Int) : Option (Int) := if (l0.length : Int) = (l1.length : Int) then (if (l0.length : Int) > 1024 then (some 12) else (some 0)) else (some 25)
set_option maxHeartbeats 8000000 in
set_option maxRecDepth 100000 in
theorem dot_shape.calls (A0 : Option Addr) (c0 : Nat) (l0 : List Int) (A1 : Option Addr) (c1 : Nat) (l1 : List Int) (r : Int) (w : World) (hr0 : Kd.C (Kd.int .i32) w A0 l0.length l0) (hc0 : l0.length ≤ c0) (hr1 : Kd.C (Kd.int .i32) w A1 l1.length l1) (hc1 : l1.length ≤ c1) (h : dot_shape.f l0 l1 = some r) :
    Calls Try.prog 43 #[.slice A0 l0.length c0, .slice A1 l1.length c1] w fun e w' => e = .returned (.int .i64 r) ∧ Drawn0 w w' := by
  have HR0 := Aside0.mk hr0
  have HC0 := Aside0.mk hc0
  clear hr0 hc0
  have HR1 := Aside0.mk hr1
  have HC1 := Aside0.mk hc1
  clear hr1 hc1
  have H : (if (l0.length : Int) = (l1.length : Int) then (if (l0.length : Int) > 1024 then (some 12) else (some 0)) else (some 25)) = some r := h
  clear h
  by_cases c3 : (l0.length : Int) = (l1.length : Int)
  · rw [if_pos c3] at H
    have c3b0 : ((l0.length : Int) == (l1.length : Int)) = true := beq_iff_eq.mpr c3
    have c3b1 : ((l0.length : Int) != (l1.length : Int)) = false := bne_eq_false_iff_eq.mpr c3
    have c3b2 : (l0.length == l1.length) = true := by first | simpa using c3 | (simp at c3 ⊢; omega)
    clear c3
    by_cases c4 : (l0.length : Int) > 1024
    · rw [if_pos c4] at H
      have c4b0 : decide (1024 < (l0.length : Int)) = true := decide_eq_true c4
      have c4b1 : decide (1024 < l0.length) = true := decide_eq_true (by omega)
      clear c4
      obtain rfl := Option.some.inj H
      go_enter Try.func43, Try.ntmps43
      go_wp2
      go_ret
      exact ⟨by first | rfl | (simp; done) | (simp [*]; done), by repeat (first | exact Drawn0.refl _ | apply Drawn0.step)⟩
    · rw [if_neg c4] at H
      have c4b0 : decide (1024 < (l0.length : Int)) = false := decide_eq_false c4
      have c4b1 : decide (1024 < l0.length) = false := decide_eq_false (by omega)
      clear c4
      obtain rfl := Option.some.inj H
      go_enter Try.func43, Try.ntmps43
      go_wp2
      go_ret
      exact ⟨by first | rfl | (simp; done) | (simp [*]; done), by repeat (first | exact Drawn0.refl _ | apply Drawn0.step)⟩
  · rw [if_neg c3] at H
    have c3b0 : ((l0.length : Int) == (l1.length : Int)) = false := beq_eq_false_iff_ne.mpr c3
    have c3b1 : ((l0.length : Int) != (l1.length : Int)) = true := bne_iff_ne.mpr c3
    have c3b2 : (l0.length == l1.length) = false := by first | simpa using c3 | (simp at c3 ⊢; omega)
    obtain rfl := Option.some.inj H
    go_enter Try.func43, Try.ntmps43
    go_wp2
    go_ret
    exact ⟨by first | rfl | (simp; done) | (simp [*]; done), by repeat (first | exact Drawn0.refl _ | apply Drawn0.step)⟩

end Go.Proofs.Yteflolamihhmdaa.Q

namespace Go.Proofs.Yteflolamihhmdaa.Q
open Go.RowKit Go.Proofs.YteflolamihhmdaaW.PrintWords Go.Proofs.YteflolamihhmdaaW.PrintLast Go.Proofs.YteflolamihhmdaaW.PrintMore
attribute [local go_sem] max2_int min2_int max_two min_two max_three min_three max_four min_four   -- for this text's walks alone
set_option linter.unusedVariables false
set_option linter.unusedSimpArgs false

/-! ### dot_Mild: function 44 -/
def dot_Mild.wild (x : Int) : Bool := !(decide (-16777216 ≤ x) && decide (x ≤ 16777216))
def dot_Mild.f (l0 : List Int) : Option Bool := some (decide (l0.length ≤ 1024) && !l0.any dot_Mild.wild)
theorem dot_Mild.fn (x : Int) (w : World) : Calls Try.prog 70 #[.int .i32 x] w fun e w' => e = .returned (.bool (dot_Mild.wild x)) ∧ Drawn0 w w' := by
  by_cases h1 : x < -16777216
  · have e1 : dot_Mild.wild x = true := by unfold dot_Mild.wild; simp; omega
    have E1 := Aside0.mk e1
    clear e1
    have h1b : decide (x < -16777216) = true := decide_eq_true h1
    clear h1
    go_enter Try.func70, Try.ntmps70
    go_wp2
    go_ret
    exact ⟨by rw [E1.out]; rfl, Drawn0.refl _⟩
  · have h1b : decide (x < -16777216) = false := decide_eq_false h1
    by_cases h2 : x > 16777216
    · have e1 : dot_Mild.wild x = true := by unfold dot_Mild.wild; simp; omega
      have E1 := Aside0.mk e1
      clear e1
      have h2b : decide (16777216 < x) = true := decide_eq_true h2
      clear h1 h2
      go_enter Try.func70, Try.ntmps70
      go_wp2
      go_ret
      exact ⟨by rw [E1.out]; rfl, Drawn0.refl _⟩
    · have e1 : dot_Mild.wild x = false := by unfold dot_Mild.wild; simp; omega
      have E1 := Aside0.mk e1
      clear e1
      have h2b : decide (16777216 < x) = false := decide_eq_false h2
      clear h1 h2
      go_enter Try.func70, Try.ntmps70
      go_wp2
      go_ret
      exact ⟨by rw [E1.out]; rfl, Drawn0.refl _⟩

theorem dot_Mild.any_yes {l : List Int} {k : Nat} (hk : k < l.length) (h : dot_Mild.wild (rd l k) = true) : l.any dot_Mild.wild = true := by
  rw [List.any_eq_true]
  refine ⟨l[k], List.getElem_mem hk, ?_⟩
  simpa [rd, List.getD_eq_getElem?_getD, List.getElem?_eq_getElem hk] using h
theorem dot_Mild.any_no {l : List Int} (h : ∀ j : Nat, j < l.length → dot_Mild.wild (rd l j) = false) : l.any dot_Mild.wild = false := by
  rw [List.any_eq_false]
  intro x hx
  obtain ⟨j, hj, rfl⟩ := List.getElem_of_mem hx
  have := h j hj
  simpa [rd, List.getD_eq_getElem?_getD, List.getElem?_eq_getElem hj] using this

def dot_Mild.Ix (l0 : List Int) (w : World) (e : Ending) (w' : World) : Prop := ∃ r : Int, e = .returned (.int .i64 r) ∧ (decide (r ≥ 0) = l0.any dot_Mild.wild) ∧ Drawn0 w w'
set_option maxHeartbeats 2000000 in
set_option maxRecDepth 100000 in
theorem dot_Mild.indexFunc (A0 : Option Addr) (c0 : Nat) (l0 : List Int) (w : World) (hr0 : Kd.C (Kd.int .i32) w A0 l0.length l0) (hl : l0.length ≤ 1024) :
    Calls Try.prog 84 #[.slice A0 l0.length c0, .func (.func 70) #[] #[]] w (dot_Mild.Ix l0 w) := by
  have HR0 := Aside0.mk hr0
  clear hr0
  go_enter Try.func84, Try.ntmps84
  go_wp2
  go_loopw [8] (fun i wr => ∃ k : Nat, k ≤ l0.length ∧ i = .int .i64 k ∧ Aside0 (∀ j : Nat, j < k → dot_Mild.wild (rd l0 j) = false) ∧ Drawn0 w wr) (fun i _ => l0.length - (intOf i).toNat)
  case atStart => exact ⟨0, Nat.zero_le _, rfl, ⟨fun j hj => absurd hj (Nat.not_lt_zero j)⟩, Drawn0.refl _⟩
  case round =>
    obtain ⟨k, hk, rfl, HA, ⟨m1, rfl⟩⟩ := hrel
    by_cases hlt : k < l0.length
    · obtain ⟨ad, rfl, hx⟩ := Kd.at_int HR0.out (k : Int) (by omega) (by omega)
      simp only [Int.toNat_natCast] at hx
      by_cases hw : dot_Mild.wild (rd l0 k) = true
      · have HW := Aside0.mk hw
        clear hw
        go_wp2_with ((with_reducible refine (dot_Mild.fn _ _).mono ?_); rw [HW.out]; rintro e w' ⟨rfl, ⟨m2, rfl⟩⟩)
        go_ret
        exact ⟨k, rfl, by rw [dot_Mild.any_yes hlt HW.out]; simp, ⟨_, rfl⟩⟩
      · have HW := Aside0.mk (Bool.eq_false_iff.2 hw)
        clear hw
        go_wp2_with ((with_reducible refine (dot_Mild.fn _ _).mono ?_); rw [HW.out]; rintro e w' ⟨rfl, ⟨m2, rfl⟩⟩)
        go_roundw
        case rel =>
          refine ⟨k + 1, by omega, by go_num, ⟨fun j hj => ?_⟩, by repeat (first | exact Drawn0.refl _ | apply Drawn0.step)⟩
          rcases Nat.lt_succ_iff_lt_or_eq.1 hj with h | rfl
          · exact HA.out j h
          · exact HW.out
        case measure => simp [intOf]; omega
    · obtain rfl : k = l0.length := by omega
      go_wp2
      go_ret
      exact ⟨-1, rfl, by rw [dot_Mild.any_no HA.out]; rfl, ⟨_, rfl⟩⟩
set_option maxHeartbeats 2000000 in
theorem dot_Mild.contains (A0 : Option Addr) (c0 : Nat) (l0 : List Int) (w : World) (hr0 : Kd.C (Kd.int .i32) w A0 l0.length l0) (hl : l0.length ≤ 1024) :
    Calls Try.prog 69 #[.slice A0 l0.length c0, .func (.func 70) #[] #[]] w fun e w' => e = .returned (.bool (l0.any dot_Mild.wild)) ∧ Drawn0 w w' := by
  have HR0 := Aside0.mk hr0
  clear hr0
  go_enter Try.func69, Try.ntmps69
  go_wp2_with ((with_reducible refine (dot_Mild.indexFunc A0 c0 l0 _ HR0.out hl).mono ?_); rintro e w' ⟨r, rfl, hb, ⟨m1, rfl⟩⟩; have HB := Aside0.mk hb; clear hb)
  go_ret
  exact ⟨by rw [← HB.out]; rfl, ⟨_, rfl⟩⟩
set_option maxHeartbeats 2000000 in
theorem dot_Mild.calls (A0 : Option Addr) (c0 : Nat) (l0 : List Int) (r : Bool) (w : World) (hr0 : Kd.C (Kd.int .i32) w A0 l0.length l0) (hc0 : l0.length ≤ c0) (h : dot_Mild.f l0 = some r) :
    Calls Try.prog 44 #[.slice A0 l0.length c0] w fun e w' => e = .returned (.bool r) ∧ Drawn0 w w' := by
  have H := Aside0.mk (Option.some.inj h)
  clear h
  have HR0 := Aside0.mk hr0
  clear hr0
  by_cases hl : l0.length ≤ 1024
  · have hlb : decide ((l0.length : Int) ≤ 1024) = true := decide_eq_true (by omega)
    go_enter Try.func44, Try.ntmps44
    go_wp2_with ((with_reducible refine (dot_Mild.contains A0 c0 l0 _ HR0.out hl).mono ?_); rintro e w' ⟨rfl, ⟨m1, rfl⟩⟩)
    go_ret
    exact ⟨by rw [← H.out]; simp [hl], ⟨_, rfl⟩⟩
  · have hlb : decide ((l0.length : Int) ≤ 1024) = false := decide_eq_false (by omega)
    go_enter Try.func44, Try.ntmps44
    go_wp2
    go_ret
    exact ⟨by rw [← H.out]; simp [hl], Drawn0.refl _⟩

end Go.Proofs.Yteflolamihhmdaa.Q

namespace Go.Proofs.Yteflolamihhmdaa.Q
open Go.RowKit Go.Proofs.YteflolamihhmdaaW.PrintWords Go.Proofs.YteflolamihhmdaaW.PrintLast Go.Proofs.YteflolamihhmdaaW.PrintMore
attribute [local go_sem] max2_int min2_int max_two min_two max_three min_three max_four min_four   -- for this text's walks alone
set_option linter.unusedVariables false
set_option linter.unusedSimpArgs false

/-! ### dot_Dot: function 24 -/
mutual
def dot_Dot.j0 : Nat → List Int → List Int → Bool → Option (Int × Int)
  | 0, _, _, _ => none
  | k + 1, x0, x1, x23 => if x23 = true then (some (0, 11)) else (dot_Dot.l0 k x1 0 x0 (x0.length : Int) 0)
def dot_Dot.l0 : Nat → List Int → Int → List Int → Int → Int → Option (Int × Int)
  | 0, _, _, _, _, _ => none
  | k + 1, x1, x7, x24, x25, x26 => if x26 < x25 then (if 0 ≤ x26 then (if x26 < (x24.length : Int) then (if x26 < (x1.length : Int) then (dot_Dot.l0 k x1 (wrap64 (x7 + (wrap64 ((wrap64 (rd x24 x26)) * (wrap64 (rd x1 x26)))))) x24 x25 (wrap64 (x26 + 1))) else (none)) else (none)) else (none)) else (some (x7, 0))
end
def dot_Dot.f (k : Nat) (l0 : List Int) (l1 : List Int) : Option (Int × Int) := (dot_shape.f l0 l1).bind fun t101 => (if t101 = 0 then ((dot_Mild.f l0).bind fun t102 => (if t102 = true then ((dot_Mild.f l1).bind fun t103 => (dot_Dot.j0 k l0 l1 (!t103))) else (dot_Dot.j0 k l0 l1 true))) else (some (0, t101)))
theorem dot_Dot.mono_l : ∀ k, (∀ y0 y1 y2, LeO (dot_Dot.j0 k y0 y1 y2) (dot_Dot.j0 (k + 1) y0 y1 y2)) ∧ (∀ y0 y1 y2 y3 y4, LeO (dot_Dot.l0 k y0 y1 y2 y3 y4) (dot_Dot.l0 (k + 1) y0 y1 y2 y3 y4))
  | 0 => ⟨fun _ _ _ r h => by simp [dot_Dot.j0] at h, fun _ _ _ _ _ r h => by simp [dot_Dot.l0] at h⟩
  | k + 1 => by
    obtain ⟨ih0, ih1⟩ := dot_Dot.mono_l k
    refine ⟨?_, ?_⟩
    · intro y0 y1 y2
      unfold dot_Dot.j0
      repeat' first
      | (with_reducible exact ih0 _ _ _)
      | (with_reducible exact ih1 _ _ _ _ _)
      | (with_reducible exact LeO.refl _)
      | (with_reducible exact LeO.none _)
      | (with_reducible refine LeO.ite ?_ ?_)
      | (with_reducible refine LeO.bind ?_ (fun _ => ?_))
      | exact ih0 _ _ _
      | exact ih1 _ _ _ _ _
      | exact LeO.none _
      | refine LeO.ite ?_ ?_
      | refine LeO.bind ?_ (fun _ => ?_)
    · intro y0 y1 y2 y3 y4
      unfold dot_Dot.l0
      repeat' first
      | (with_reducible exact ih0 _ _ _)
      | (with_reducible exact ih1 _ _ _ _ _)
      | (with_reducible exact LeO.refl _)
      | (with_reducible exact LeO.none _)
      | (with_reducible refine LeO.ite ?_ ?_)
      | (with_reducible refine LeO.bind ?_ (fun _ => ?_))
      | exact ih0 _ _ _
      | exact ih1 _ _ _ _ _
      | exact LeO.none _
      | refine LeO.ite ?_ ?_
      | refine LeO.bind ?_ (fun _ => ?_)
theorem dot_Dot.mono : ∀ a0 a1 k, LeO (dot_Dot.f k a0 a1) (dot_Dot.f (k + 1) a0 a1) := by
  intro a0 a1 k
  obtain ⟨ih0, ih1⟩ := dot_Dot.mono_l k
  unfold dot_Dot.f
  repeat' first
      | (with_reducible exact ih0 _ _ _)
      | (with_reducible exact ih1 _ _ _ _ _)
      | (with_reducible exact LeO.refl _)
      | (with_reducible exact LeO.none _)
      | (with_reducible refine LeO.ite ?_ ?_)
      | (with_reducible refine LeO.bind ?_ (fun _ => ?_))
      | exact ih0 _ _ _
      | exact ih1 _ _ _ _ _
      | exact LeO.none _
      | refine LeO.ite ?_ ?_
      | refine LeO.bind ?_ (fun _ => ?_)
set_option maxHeartbeats 8000000 in
set_option maxRecDepth 100000 in
theorem dot_Dot.calls (k : Nat) (A0 : Option Addr) (c0 : Nat) (l0 : List Int) (A1 : Option Addr) (c1 : Nat) (l1 : List Int) (r1 : Int) (r2 : Int) (w : World) (hr0 : Kd.C (Kd.int .i32) w A0 l0.length l0) (hc0 : l0.length ≤ c0) (hr1 : Kd.C (Kd.int .i32) w A1 l1.length l1) (hc1 : l1.length ≤ c1) (h : dot_Dot.f k l0 l1 = some (r1, r2)) :
    Calls Try.prog 24 #[.slice A0 l0.length c0, .slice A1 l1.length c1] w fun e w' => e = .returned (.tuple #[.int .i64 r1, .int .i64 r2]) ∧ Drawn0 w w' := by
  have HR0 := Aside0.mk hr0
  have HC0 := Aside0.mk hc0
  clear hr0 hc0
  have HR1 := Aside0.mk hr1
  have HC1 := Aside0.mk hc1
  clear hr1 hc1
  have H : ((dot_shape.f l0 l1).bind fun t101 => (if t101 = 0 then ((dot_Mild.f l0).bind fun t102 => (if t102 = true then ((dot_Mild.f l1).bind fun t103 => (dot_Dot.j0 k l0 l1 (!t103))) else (dot_Dot.j0 k l0 l1 true))) else (some (0, t101)))) = some (r1, r2) := h
  clear h
  replace H := Option.bind_eq_some_iff.mp H
  obtain ⟨t101, A30, H⟩ := H
  replace H : (if t101 = 0 then ((dot_Mild.f l0).bind fun t102 => (if t102 = true then ((dot_Mild.f l1).bind fun t103 => (dot_Dot.j0 k l0 l1 (!t103))) else (dot_Dot.j0 k l0 l1 true))) else (some (0, t101))) = some (r1, r2) := H
  have A3 := Aside0.mk A30
  clear A30
  by_cases c4 : t101 = 0
  · rw [if_pos c4] at H
    have c4b0 : (t101 == 0) = true := beq_iff_eq.mpr c4
    have c4b1 : (t101 != 0) = false := bne_eq_false_iff_eq.mpr c4
    clear c4
    have HC5 := Aside0.mk H
    clear H
    go_enter Try.func24, Try.ntmps24
    go_upto_region 4 with (first | ((with_reducible refine gate_callee (f := 43) rfl ?_); refine goesL_ (some 12) rfl rfl Try.func43 (by kernel_rfl) rfl #[.slice A0 l0.length c0, .slice A1 l1.length c1] rfl (by (try simp only [List.map_toArray, List.map_cons, List.map_nil]); first | done | rfl | (simp only [List.length_drop, List.length_take]; rfl)) ?_; (with_reducible refine (dot_shape.calls _ _ l0 _ _ l1 t101 _ ?side1 ?side2 ?side3 ?side4 A3.out).mono ?_); (case side1 => repeat (first | exact HR0.out | (with_reducible refine Kd.C_alloc ?_ _) | (with_reducible refine Kd.C_drewN ?_ _) | (with_reducible refine Kd.C_drew ?_))); (case side2 => exact HC0.out); (case side3 => repeat (first | exact HR1.out | (with_reducible refine Kd.C_alloc ?_ _) | (with_reducible refine Kd.C_drewN ?_ _) | (with_reducible refine Kd.C_drew ?_))); (case side4 => exact HC1.out); rintro e w' ⟨rfl, ⟨nd, rfl⟩⟩; refine ⟨_, rfl, ?_⟩))
    (try simp only [Act.put, List.setIfInBounds_toArray, List.set_cons_zero, List.set_cons_succ])
    go_cut [23] (fun v23 wc => ∃ (kq : Nat) (x23_4 : Bool), v23 = .bool x23_4 ∧ Aside0 (dot_Dot.j0 kq l0 l1 x23_4 = some (r1, r2)) ∧ Aside0 (kq ≤ k) ∧ Drawn0 w wc)
    case first =>
      have H := HC5.out
      clear HC5
      replace H := Option.bind_eq_some_iff.mp H
      obtain ⟨t102, A60, H⟩ := H
      replace H : (if t102 = true then ((dot_Mild.f l1).bind fun t103 => (dot_Dot.j0 k l0 l1 (!t103))) else (dot_Dot.j0 k l0 l1 true)) = some (r1, r2) := H
      have A6 := Aside0.mk A60
      clear A60
      by_cases c7 : t102 = true
      · subst c7
        have H1 : ((dot_Mild.f l1).bind fun t103 => (dot_Dot.j0 k l0 l1 (!t103))) = some (r1, r2) := by rw [if_pos rfl] at H; exact H
        clear H
        have H := H1
        clear H1
        replace H := Option.bind_eq_some_iff.mp H
        obtain ⟨t103, A80, H⟩ := H
        replace H : (dot_Dot.j0 k l0 l1 (!t103)) = some (r1, r2) := H
        have A8 := Aside0.mk A80
        clear A80
        have H' := Aside0.mk H
        clear H
        go_wp2_with (first | ((with_reducible refine gate_callee (f := 44) rfl ?_); refine goesL_ (some 17) rfl rfl Try.func44 (by kernel_rfl) rfl #[.slice A0 l0.length c0] rfl (by (try simp only [List.map_toArray, List.map_cons, List.map_nil]); first | done | rfl | (simp only [List.length_drop, List.length_take]; rfl)) ?_; (with_reducible refine (dot_Mild.calls _ _ l0 true _ ?side1 ?side2 A6.out).mono ?_); (case side1 => repeat (first | exact HR0.out | (with_reducible refine Kd.C_alloc ?_ _) | (with_reducible refine Kd.C_drewN ?_ _) | (with_reducible refine Kd.C_drew ?_))); (case side2 => exact HC0.out); rintro e w' ⟨rfl, ⟨nd, rfl⟩⟩; refine ⟨_, rfl, ?_⟩) | (go_at_call 44; (with_reducible refine (dot_Mild.calls _ _ l1 t103 _ ?side1 ?side2 A8.out).mono ?_); (case side1 => repeat (first | exact HR1.out | (with_reducible refine Kd.C_alloc ?_ _) | (with_reducible refine Kd.C_drewN ?_ _) | (with_reducible refine Kd.C_drew ?_))); (case side2 => exact HC1.out); rintro e w' ⟨rfl, ⟨nd, rfl⟩⟩))
        go_meet
        case rel => exact ⟨_, (!t103), (by first | rfl | (simp; done) | (simp [*]; done)), H', ⟨by first | omega | exact Nat.le_refl _⟩, by repeat (first | exact Drawn0.refl _ | apply Drawn0.step)⟩
      · replace c7 := Bool.eq_false_iff.mpr c7
        subst c7
        have H1 : (dot_Dot.j0 k l0 l1 true) = some (r1, r2) := by rw [if_neg (show ¬ (false = true) by decide)] at H; exact H
        clear H
        have H := H1
        clear H1
        have H' := Aside0.mk H
        clear H
        go_wp2_with (first | ((with_reducible refine gate_callee (f := 44) rfl ?_); refine goesL_ (some 17) rfl rfl Try.func44 (by kernel_rfl) rfl #[.slice A0 l0.length c0] rfl (by (try simp only [List.map_toArray, List.map_cons, List.map_nil]); first | done | rfl | (simp only [List.length_drop, List.length_take]; rfl)) ?_; (with_reducible refine (dot_Mild.calls _ _ l0 false _ ?side1 ?side2 A6.out).mono ?_); (case side1 => repeat (first | exact HR0.out | (with_reducible refine Kd.C_alloc ?_ _) | (with_reducible refine Kd.C_drewN ?_ _) | (with_reducible refine Kd.C_drew ?_))); (case side2 => exact HC0.out); rintro e w' ⟨rfl, ⟨nd, rfl⟩⟩; refine ⟨_, rfl, ?_⟩))
        go_meet
        case rel => exact ⟨_, (true), (by first | rfl | (simp; done) | (simp [*]; done)), H', ⟨by first | omega | exact Nat.le_refl _⟩, by repeat (first | exact Drawn0.refl _ | apply Drawn0.step)⟩
    case rest =>
      clear HC5
      try clear c1
      try clear c2
      try clear p2
      try clear c4
      try clear c4b0
      try clear c4b1
      try clear c7
      obtain ⟨kq, x23_4, rfl, HA, HJ4, ⟨mc4, rfl⟩⟩ := hcut
      cases kq with
      | zero => exact absurd HA.out (by simp [dot_Dot.j0])
      | succ kj4 =>
        have H := HA.out
        clear HA
        simp only [dot_Dot.j0] at H
        by_cases c9 : x23_4 = true
        · subst c9
          have H1 : (some (0, 11)) = some (r1, r2) := by rw [if_pos rfl] at H; exact H
          clear H
          have H := H1
          clear H1
          simp only [Option.some.injEq, Prod.mk.injEq] at H
          obtain ⟨rfl, rfl⟩ := H
          go_wp2
          go_ret2
          exact ⟨by first | rfl | (simp; done) | (simp [*]; done), by repeat (first | exact Drawn0.refl _ | apply Drawn0.step)⟩
        · replace c9 := Bool.eq_false_iff.mpr c9
          subst c9
          have H1 : (dot_Dot.l0 kj4 l1 0 l0 (l0.length : Int) 0) = some (r1, r2) := by rw [if_neg (show ¬ (false = true) by decide)] at H; exact H
          clear H
          have H := H1
          clear H1
          have H' := Aside0.mk H
          clear H
          go_wp2
          go_loopg [7, 26] kj4 (fun kq v7 v26 w' => ∃ (x7_2 : Int) (x26_2 : Int), v7 = .int .i64 x7_2 ∧ v26 = .int .i64 x26_2 ∧ Aside0 (dot_Dot.l0 kq l1 x7_2 l0 (l0.length : Int) x26_2 = some (r1, r2)) ∧ Aside0 (kq ≤ kj4) ∧ Drawn0 w w')
          case atStart => exact ⟨(0), (0), (by first | rfl | (simp; done) | (simp [*]; done)), (by first | rfl | (simp; done) | (simp [*]; done)), H', ⟨Nat.le_refl _⟩, by repeat (first | exact Drawn0.refl _ | apply Drawn0.step)⟩
          case round =>
            clear H'
            try clear c1
            try clear c2
            try clear p2
            try clear c4
            try clear c4b0
            try clear c4b1
            try clear c7
            try clear c9
            try clear p2
            obtain ⟨x7_2, x26_2, rfl, rfl, HA, HK2, ⟨m2, rfl⟩⟩ := hrel
            cases gk with
            | zero => exact absurd HA.out (by simp [dot_Dot.l0])
            | succ k2 =>
              have H := HA.out
              clear HA
              simp only [dot_Dot.l0] at H
              by_cases c10 : x26_2 < (l0.length : Int)
              · rw [if_pos c10] at H
                have c10b0 : decide (x26_2 < (l0.length : Int)) = true := decide_eq_true c10
                clear c10
                by_cases c11 : 0 ≤ x26_2
                · rw [if_pos c11] at H
                  have c11b0 : decide (0 ≤ x26_2) = true := decide_eq_true c11
                  clear c11
                  by_cases c12 : x26_2 < (l0.length : Int)
                  · rw [if_pos c12] at H
                    have c12b0 : decide (x26_2 < (l0.length : Int)) = true := decide_eq_true c12
                    clear c12
                    by_cases c13 : x26_2 < (l1.length : Int)
                    · rw [if_pos c13] at H
                      have c13b0 : decide (x26_2 < (l1.length : Int)) = true := decide_eq_true c13
                      clear c13
                      have H' := Aside0.mk H
                      clear H
                      have p104 : 0 ≤ (x26_2 : Int) := of_decide_eq_true (by first | (with_reducible assumption) | assumption)
                      have q104 : x26_2 < (l0.length : Int) := of_decide_eq_true (by first | (with_reducible assumption) | assumption)
                      obtain ⟨ad104, e104, hx104_0⟩ := Kd.at_int HR0.out x26_2 p104 q104
                      cases e104
                      replace p104 := eq_true p104
                      replace q104 := eq_true q104
                      have p105 : 0 ≤ (x26_2 : Int) := of_decide_eq_true (by first | (with_reducible assumption) | assumption)
                      have q105 : x26_2 < (l1.length : Int) := of_decide_eq_true (by first | (with_reducible assumption) | assumption)
                      obtain ⟨ad105, e105, hx105_0⟩ := Kd.at_int HR1.out x26_2 p105 q105
                      cases e105
                      replace p105 := eq_true p105
                      replace q105 := eq_true q105
                      go_wp2
                      go_roundg k2
                      case measure => have := HJ4.out; have := HK2.out; omega
                      case rel => exact ⟨(wrap64 (x7_2 + (wrap64 ((wrap64 (rd l0 x26_2)) * (wrap64 (rd l1 x26_2)))))), (wrap64 (x26_2 + 1)), (by first | rfl | (simp; done) | (simp [*]; done)), (by first | rfl | (simp; done) | (simp [*]; done)), H', ⟨by have := HJ4.out; have := HK2.out; omega⟩, by repeat (first | exact Drawn0.refl _ | apply Drawn0.step)⟩
                    · rw [if_neg c13] at H
                      exact absurd H (by simp)
                  · rw [if_neg c12] at H
                    exact absurd H (by simp)
                · rw [if_neg c11] at H
                  exact absurd H (by simp)
              · rw [if_neg c10] at H
                have c10b0 : decide (x26_2 < (l0.length : Int)) = false := decide_eq_false c10
                clear c10
                simp only [Option.some.injEq, Prod.mk.injEq] at H
                obtain ⟨rfl, rfl⟩ := H
                go_wp2
                go_ret2
                exact ⟨by first | rfl | (simp; done) | (simp [*]; done), by repeat (first | exact Drawn0.refl _ | apply Drawn0.step)⟩
  · rw [if_neg c4] at H
    have c4b0 : (t101 == 0) = false := beq_eq_false_iff_ne.mpr c4
    have c4b1 : (t101 != 0) = true := bne_iff_ne.mpr c4
    simp only [Option.some.injEq, Prod.mk.injEq] at H
    obtain ⟨rfl, rfl⟩ := H
    go_enter Try.func24, Try.ntmps24
    go_wp2_with (first | ((with_reducible refine gate_callee (f := 43) rfl ?_); refine goesL_ (some 12) rfl rfl Try.func43 (by kernel_rfl) rfl #[.slice A0 l0.length c0, .slice A1 l1.length c1] rfl (by (try simp only [List.map_toArray, List.map_cons, List.map_nil]); first | done | rfl | (simp only [List.length_drop, List.length_take]; rfl)) ?_; (with_reducible refine (dot_shape.calls _ _ l0 _ _ l1 t101 _ ?side1 ?side2 ?side3 ?side4 A3.out).mono ?_); (case side1 => repeat (first | exact HR0.out | (with_reducible refine Kd.C_alloc ?_ _) | (with_reducible refine Kd.C_drewN ?_ _) | (with_reducible refine Kd.C_drew ?_))); (case side2 => exact HC0.out); (case side3 => repeat (first | exact HR1.out | (with_reducible refine Kd.C_alloc ?_ _) | (with_reducible refine Kd.C_drewN ?_ _) | (with_reducible refine Kd.C_drew ?_))); (case side4 => exact HC1.out); rintro e w' ⟨rfl, ⟨nd, rfl⟩⟩; refine ⟨_, rfl, ?_⟩))
    go_ret2
    exact ⟨by first | rfl | (simp; done) | (simp [*]; done), by repeat (first | exact Drawn0.refl _ | apply Drawn0.step)⟩

end Go.Proofs.Yteflolamihhmdaa.Q

namespace Go.Proofs.Yteflolamihhmdaa.Q
open Go.RowKit Go.Proofs.YteflolamihhmdaaW.PrintWords Go.Proofs.YteflolamihhmdaaW.PrintLast Go.Proofs.YteflolamihhmdaaW.PrintMore
attribute [local go_sem] max2_int min2_int max_two min_two max_three min_three max_four min_four   -- for this text's walks alone
set_option linter.unusedVariables false
set_option linter.unusedSimpArgs false

/-! ### attn_cut: function 25 -/
def attn_cut.l0 : Nat → List Int → List Int → Int → Int → Option (List Int)
  | 0, _, _, _, _ => none
  | k + 1, x3, x9, x10, x11 => if x11 < x10 then (if 0 ≤ x11 then (if x11 < (x9.length : Int) then ((attn_narrow.f (rd x9 x11)).bind fun t112 => (if x11 < (x3.length : Int) then (attn_cut.l0 k (x3.set (x11 : Int).toNat (wrap32 (t112))) x9 x10 (wrap64 (x11 + 1))) else (none))) else (none)) else (none)) else (some x3)
def attn_cut.f (k : Nat) (l0 : List Int) : Option (List Int) := if 0 ≤ (l0.length : Int) then (if ((l0.length : Int) : Int).toNat ≤ 70368744177664 then (attn_cut.l0 k (List.replicate ((l0.length : Int) : Int).toNat 0) l0 (l0.length : Int) 0) else (none)) else (none)
theorem attn_cut.mono_l : ∀ k, (∀ y0 y1 y2 y3, LeO (attn_cut.l0 k y0 y1 y2 y3) (attn_cut.l0 (k + 1) y0 y1 y2 y3))
  | 0 => fun _ _ _ _ r h => by simp [attn_cut.l0] at h
  | k + 1 => by
    have ih0 := attn_cut.mono_l k
    · intro y0 y1 y2 y3
      unfold attn_cut.l0
      repeat' first
      | (with_reducible exact ih0 _ _ _ _)
      | (with_reducible exact LeO.refl _)
      | (with_reducible exact LeO.none _)
      | (with_reducible refine LeO.ite ?_ ?_)
      | (with_reducible refine LeO.bind ?_ (fun _ => ?_))
      | exact ih0 _ _ _ _
      | exact LeO.none _
      | refine LeO.ite ?_ ?_
      | refine LeO.bind ?_ (fun _ => ?_)
theorem attn_cut.mono : ∀ a0 k, LeO (attn_cut.f k a0) (attn_cut.f (k + 1) a0) := by
  intro a0 k
  have ih0 := attn_cut.mono_l k
  unfold attn_cut.f
  repeat' first
      | (with_reducible exact ih0 _ _ _ _)
      | (with_reducible exact LeO.refl _)
      | (with_reducible exact LeO.none _)
      | (with_reducible refine LeO.ite ?_ ?_)
      | (with_reducible refine LeO.bind ?_ (fun _ => ?_))
      | exact ih0 _ _ _ _
      | exact LeO.none _
      | refine LeO.ite ?_ ?_
      | refine LeO.bind ?_ (fun _ => ?_)
set_option maxHeartbeats 8000000 in
set_option maxRecDepth 100000 in
theorem attn_cut.calls (k : Nat) (A0 : Option Addr) (c0 : Nat) (l0 : List Int) (r : List Int) (w : World) (hr0 : Kd.C (Kd.int .i32) w A0 l0.length l0) (hc0 : l0.length ≤ c0) (h : attn_cut.f k l0 = some r) :
    Calls Try.prog 25 #[.slice A0 l0.length c0] w fun e w' => ∃ v0_ : Value, e = .returned (v0_) ∧ Kd.R (Kd.int .i32) 21 w' w.heap.size (fun _ => True) v0_ r ∧ Below w.heap.size w w' := by
  have HR0 := Aside0.mk hr0
  have HC0 := Aside0.mk hc0
  clear hr0 hc0
  have HB := Aside0.mk (Below.refl w.heap.size w)
  have H : (if 0 ≤ (l0.length : Int) then (if ((l0.length : Int) : Int).toNat ≤ 70368744177664 then (attn_cut.l0 k (List.replicate ((l0.length : Int) : Int).toNat 0) l0 (l0.length : Int) 0) else (none)) else (none)) = some r := h
  clear h
  by_cases c2 : 0 ≤ (l0.length : Int)
  · rw [if_pos c2] at H
    have c2b0 := eq_true c2
    have c2b1 : decide (0 ≤ (l0.length : Int)) = true := decide_eq_true c2
    clear c2
    by_cases c3 : ((l0.length : Int) : Int).toNat ≤ 70368744177664
    · rw [if_pos c3] at H
      have c3b0 := eq_true c3
      have c3b1 : decide (((l0.length : Int) : Int).toNat ≤ 70368744177664) = true := decide_eq_true c3
      clear c3
      obtain ⟨y108, hy108⟩ : ∃ y_ : List Int, y_ = (List.replicate ((l0.length : Int) : Int).toNat 0) := ⟨_, rfl⟩
      replace H : (attn_cut.l0 k y108 l0 (l0.length : Int) 0) = some r := by first | (rw [hy108]; with_reducible exact H) | (have H2_ := (Option.bind_some _ _).symm.trans H; rw [hy108]; with_reducible exact H2_) | (have H2_ := (Option.bind_some _ _).symm.trans H; with_reducible exact H2_) | with_reducible exact H | (rw [hy108]; exact H) | exact H
      have Ny108 := Aside0.mk hy108
      clear hy108
      have H' := Aside0.mk H
      clear H
      go_enter Try.func25, Try.ntmps25
      go_wp2_with (first | ((with_reducible refine gate_dst (N := 8) rfl ?_); refine Kd.R_make (Kd.int .i32) _ 21 rfl (N := 8) rfl 22 _ _ rfl (l0.length : Int) rfl rfl Try.underlying22 (.int .i32 0) 4 info21 rfl (by decide) (by omega) 0 (ok := fun _ => True) (okp := fun _ => True) rfl (fun _ hk => hk) trivial (of_decide_eq_true (by first | (with_reducible assumption) | assumption)) (Nat.le_trans (Nat.mul_le_mul_right _ (of_decide_eq_true (by first | (with_reducible assumption) | assumption) : (l0.length : Int).toNat ≤ 70368744177664)) (by omega)) (Below.refl _ _) (Nat.le_refl _) ?_; intro v109 w4 ho5 hb hg_ hnew_; clear hg_ hnew_; (first | rw [← Ny108.out] at ho5 | (simp only [Int.reduceToNat] at ho5; rw [← Ny108.out] at ho5)); have n0_ := Aside0.mk (Kd.R_lower ho5 (below_size (by repeat (first | (with_reducible first | exact HB.out | apply below_alloc | apply pw_below_drewN | apply below_drew1) | exact HB.out)))); have n1_ := Aside0.mk (below_step (by repeat (first | (with_reducible first | exact HB.out | apply below_alloc | apply pw_below_drewN | apply below_drew1) | exact HB.out)) hb); clear HB; have HO110 := n0_; have HB := n1_; clear n0_ n1_; clear hb ho5))
      go_loopg [11] k (fun kq v11 w' => ∃ (x3_1 : List Int) (x11_1 : Int), v11 = .int .i64 x11_1 ∧ Aside0 (attn_cut.l0 kq x3_1 l0 (l0.length : Int) x11_1 = some r) ∧ Aside0 (kq ≤ k) ∧ Aside0 (Kd.R (Kd.int .i32) 21 w' w.heap.size (fun _ => True) v109 x3_1) ∧ Aside0 (Below w.heap.size w w'))
      case atStart => exact ⟨(y108), (0), (by first | rfl | (simp; done) | (simp [*]; done)), H', ⟨Nat.le_refl _⟩, ⟨by (with_reducible repeat (first | apply Kd.R_alloc | apply Kd.R_drewN | apply Kd.R_drew)); exact HO110.out⟩, ⟨by repeat (first | (with_reducible first | exact HB.out | apply below_alloc | apply pw_below_drewN | apply below_drew1) | exact HB.out)⟩⟩
      case round =>
        clear H'
        try clear c2
        try clear c2b0
        try clear c2b1
        try clear p2
        try clear c3
        try clear c3b0
        try clear c3b1
        obtain ⟨x3_1, x11_1, rfl, HA, HK1, HO_3, HB⟩ := hrel
        cases gk with
        | zero => exact absurd HA.out (by simp [attn_cut.l0])
        | succ k1 =>
          have H := HA.out
          clear HA
          simp only [attn_cut.l0] at H
          by_cases c6 : x11_1 < (l0.length : Int)
          · rw [if_pos c6] at H
            have c6b0 : decide (x11_1 < (l0.length : Int)) = true := decide_eq_true c6
            clear c6
            by_cases c7 : 0 ≤ x11_1
            · rw [if_pos c7] at H
              have c7b0 : decide (0 ≤ x11_1) = true := decide_eq_true c7
              clear c7
              by_cases c8 : x11_1 < (l0.length : Int)
              · rw [if_pos c8] at H
                have c8b0 : decide (x11_1 < (l0.length : Int)) = true := decide_eq_true c8
                clear c8
                replace H := Option.bind_eq_some_iff.mp H
                obtain ⟨t112, A90, H⟩ := H
                replace H : (if x11_1 < (x3_1.length : Int) then (attn_cut.l0 k1 (x3_1.set (x11_1 : Int).toNat (wrap32 (t112))) l0 (l0.length : Int) (wrap64 (x11_1 + 1))) else (none)) = some r := H
                have A9 := Aside0.mk A90
                clear A90
                by_cases c10 : x11_1 < (x3_1.length : Int)
                · rw [if_pos c10] at H
                  have c10b0 : decide (x11_1 < (x3_1.length : Int)) = true := decide_eq_true c10
                  clear c10
                  obtain ⟨y113, hy113⟩ : ∃ y_ : List Int, y_ = (x3_1.set (x11_1 : Int).toNat (wrap32 (t112))) := ⟨_, rfl⟩
                  replace H : (attn_cut.l0 k1 y113 l0 (l0.length : Int) (wrap64 (x11_1 + 1))) = some r := by first | (rw [hy113]; with_reducible exact H) | (have H2_ := (Option.bind_some _ _).symm.trans H; rw [hy113]; with_reducible exact H2_) | (have H2_ := (Option.bind_some _ _).symm.trans H; with_reducible exact H2_) | with_reducible exact H | (rw [hy113]; exact H) | exact H
                  have Ny113 := Aside0.mk hy113
                  clear hy113
                  have H' := Aside0.mk H
                  clear H
                  have p111 : 0 ≤ (x11_1 : Int) := of_decide_eq_true (by first | (with_reducible assumption) | assumption)
                  have q111 : x11_1 < (l0.length : Int) := of_decide_eq_true (by first | (with_reducible assumption) | assumption)
                  obtain ⟨ad111, e111, hx111_0⟩ := Kd.at_int HR0.out x11_1 p111 q111
                  cases e111
                  replace hx111_0 := (HB.out.cell (World.block_lt_of_cell? w _ hx111_0)).trans hx111_0
                  replace p111 := eq_true p111
                  replace q111 := eq_true q111
                  go_wp2_with (first | ((with_reducible refine gate_callee (f := 45) rfl ?_); refine goesL_ (some 19) rfl rfl Try.func45 (by kernel_rfl) rfl #[.int .i32 (rd l0 x11_1)] rfl (by (try simp only [List.map_toArray, List.map_cons, List.map_nil]); first | done | rfl | (simp only [List.length_drop, List.length_take]; rfl)) ?_; (with_reducible refine (attn_narrow.calls (rd l0 x11_1) t112 _ A9.out).mono ?_); rintro e w12 ⟨rfl, hb⟩; refine ⟨_, rfl, ?_⟩; have n0_ := Aside0.mk (Kd.R_below (by (with_reducible repeat (first | apply Kd.R_alloc | apply Kd.R_drewN | apply Kd.R_drew)); exact HO_3.out) hb); have n1_ := Aside0.mk (below_step (by repeat (first | (with_reducible first | exact HB.out | apply below_alloc | apply pw_below_drewN | apply below_drew1) | exact HB.out)) hb); clear HO_3; clear HB; have HO_3 := n0_; have HB := n1_; clear n0_ n1_; (try clear hb); (try clear hb2); (try clear hk); (try clear hi); have p11 : 0 ≤ (x11_1 : Int) := of_decide_eq_true (by first | (with_reducible assumption) | assumption); have q11 : (x11_1 : Int) < ((x3_1.length : Int) : Int) := of_decide_eq_true (by first | (with_reducible assumption) | assumption); obtain ⟨go11, co11, eo11, gb11, gl11, cl11, HG11⟩ := Kd.R_form HO_3.out (by omega); (first | cases eo11 | (injection eo11 with ea_ en_ ec_; (first | subst ea_ | (injection ea_ with ea_; subst ea_)); subst ec_; clear en_)); have GB11 := Aside0.mk gb11; have GG11 := Aside0.mk HG11; clear gb11 gl11 HG11; obtain ⟨hx11_0, hf11_0⟩ := Kd.R_celln 0 HO_3.out (x11_1 : Int) p11 q11; replace p11 := eq_true p11; replace q11 := eq_true q11; obtain ⟨hy13_, hz13_⟩ := Kd.R_celln 0 HO_3.out (x11_1 : Int) (of_decide_eq_true (by first | (with_reducible assumption) | assumption)) (of_decide_eq_true (by first | (with_reducible assumption) | assumption)); have HP13 := Kd.R_putg HO_3.out (x11_1 : Int) (wrap32 (t112))) | ((with_reducible refine gate_store (t := 21) (p := 21) rfl ?_); refine store_event (t := 21) (p := 21) (v := ?vo_w14) (w1 := (w12.setCell ⟨go11, (x11_1 : Int).toNat, none⟩ (.int .i32 (wrap32 (t112))))) ?hg ?ho ?hn ?hr ?_; (case ho => rfl); (case hg => rfl); (case hn => rfl); (case hr => first | (go_simp; done) | (go_simp; rfl)); intro w14 hw; have hg : w12.grownBy w14 (some go11) := (by rw [hw]; exact HP13.2); have hp_ : Kd.R (Kd.int .i32) 21 w14 w.heap.size (fun _ => True) (.slice (some ⟨go11, 0, none⟩) x3_1.length co11) y113 := (by rw [hw, Ny113.out]; exact HP13.1); clear HP13; have n0_ := Aside0.mk (hp_); have n1_ := Aside0.mk ((by rw [hw]; exact below_set (HB.out) GB11.out : Below w.heap.size w w14)); clear HO_3; clear HB; have HO_3 := n0_; have HB := n1_; clear n0_ n1_; clear hg hw hp_))
                  go_roundg k1
                  case measure => have := HK1.out; omega
                  case rel => exact ⟨(y113), (wrap64 (x11_1 + 1)), (by first | rfl | (simp; done) | (simp [*]; done)), H', ⟨by have := HK1.out; omega⟩, ⟨by (with_reducible repeat (first | apply Kd.R_alloc | apply Kd.R_drewN | apply Kd.R_drew)); exact HO_3.out⟩, ⟨by repeat (first | (with_reducible first | exact HB.out | apply below_alloc | apply pw_below_drewN | apply below_drew1) | exact HB.out)⟩⟩
                · rw [if_neg c10] at H
                  exact absurd H (by simp)
              · rw [if_neg c8] at H
                exact absurd H (by simp)
            · rw [if_neg c7] at H
              exact absurd H (by simp)
          · rw [if_neg c6] at H
            have c6b0 : decide (x11_1 < (l0.length : Int)) = false := decide_eq_false c6
            clear c6
            obtain rfl := Option.some.inj H
            go_wp2
            go_ret
            exact ⟨_, by first | rfl | (simp [errW_none, errW_some] <;> rfl) | (simp [*, errW_none, errW_some] <;> rfl), by (with_reducible repeat (first | apply Kd.R_alloc | apply Kd.R_drewN | apply Kd.R_drew)); exact HO_3.out, by repeat (first | (with_reducible first | exact HB.out | apply below_alloc | apply pw_below_drewN | apply below_drew1) | exact HB.out)⟩
    · rw [if_neg c3] at H
      exact absurd H (by simp)
  · rw [if_neg c2] at H
    exact absurd H (by simp)

end Go.Proofs.Yteflolamihhmdaa.Q

namespace Go.Proofs.Yteflolamihhmdaa.Q
open Go.RowKit Go.Proofs.YteflolamihhmdaaW.PrintWords Go.Proofs.YteflolamihhmdaaW.PrintLast Go.Proofs.YteflolamihhmdaaW.PrintMore
attribute [local go_sem] max2_int min2_int max_two min_two max_three min_three max_four min_four   -- for this text's walks alone
set_option linter.unusedVariables false
set_option linter.unusedSimpArgs false

/-! ### attn_Score: function 9 -/
def attn_Score.j0 : Nat → List Int → List Int → Bool → Option (Int × Int)
  | 0, _, _, _ => none
  | k + 1, x0, x1, x18 => if x18 = true then (some (0, 25)) else ((attn_cut.f k x0).bind fun t123 => ((attn_cut.f k x1).bind fun t126 => ((dot_Dot.f k t123 t126).bind fun bt129 => (if bt129.2 = 0 then ((attn_scaled.f k bt129.1 (x0.length : Int)).bind fun t131 => (some (t131, 0))) else (some (0, bt129.2))))))
def attn_Score.f (k : Nat) (l0 : List Int) (l1 : List Int) : Option (Int × Int) := if (l0.length : Int) = (l1.length : Int) then ((attn_sized.f (l0.length : Int)).bind fun t122 => (attn_Score.j0 k l0 l1 (!t122))) else (attn_Score.j0 k l0 l1 true)
theorem attn_Score.mono_l : ∀ k, (∀ y0 y1 y2, LeO (attn_Score.j0 k y0 y1 y2) (attn_Score.j0 (k + 1) y0 y1 y2))
  | 0 => fun _ _ _ r h => by simp [attn_Score.j0] at h
  | k + 1 => by
    have ih0 := attn_Score.mono_l k
    · intro y0 y1 y2
      unfold attn_Score.j0
      repeat' first
      | (with_reducible exact ih0 _ _ _)
      | (with_reducible exact attn_cut.mono _ _)
      | (with_reducible exact attn_scaled.mono _ _ _)
      | (with_reducible exact dot_Dot.mono _ _ _)
      | (with_reducible exact LeO.refl _)
      | (with_reducible exact LeO.none _)
      | (with_reducible refine LeO.ite ?_ ?_)
      | (with_reducible refine LeO.bind ?_ (fun _ => ?_))
      | exact ih0 _ _ _
      | exact attn_cut.mono _ _
      | exact attn_scaled.mono _ _ _
      | exact dot_Dot.mono _ _ _
      | exact LeO.none _
      | refine LeO.ite ?_ ?_
      | refine LeO.bind ?_ (fun _ => ?_)
theorem attn_Score.mono : ∀ a0 a1 k, LeO (attn_Score.f k a0 a1) (attn_Score.f (k + 1) a0 a1) := by
  intro a0 a1 k
  have ih0 := attn_Score.mono_l k
  unfold attn_Score.f
  repeat' first
      | (with_reducible exact ih0 _ _ _)
      | (with_reducible exact attn_cut.mono _ _)
      | (with_reducible exact attn_scaled.mono _ _ _)
      | (with_reducible exact dot_Dot.mono _ _ _)
      | (with_reducible exact LeO.refl _)
      | (with_reducible exact LeO.none _)
      | (with_reducible refine LeO.ite ?_ ?_)
      | (with_reducible refine LeO.bind ?_ (fun _ => ?_))
      | exact ih0 _ _ _
      | exact attn_cut.mono _ _
      | exact attn_scaled.mono _ _ _
      | exact dot_Dot.mono _ _ _
      | exact LeO.none _
      | refine LeO.ite ?_ ?_
      | refine LeO.bind ?_ (fun _ => ?_)
set_option maxHeartbeats 8000000 in
set_option maxRecDepth 100000 in
theorem attn_Score.calls (k : Nat) (A0 : Option Addr) (c0 : Nat) (l0 : List Int) (A1 : Option Addr) (c1 : Nat) (l1 : List Int) (r1 : Int) (r2 : Int) (w : World) (hr0 : Kd.C (Kd.int .i32) w A0 l0.length l0) (hc0 : l0.length ≤ c0) (hr1 : Kd.C (Kd.int .i32) w A1 l1.length l1) (hc1 : l1.length ≤ c1) (h : attn_Score.f k l0 l1 = some (r1, r2)) :
    Calls Try.prog 9 #[.slice A0 l0.length c0, .slice A1 l1.length c1] w fun e w' => e = .returned (.tuple #[.int .i32 r1, .int .i64 r2]) ∧ Below w.heap.size w w' := by
  have HR0 := Aside0.mk hr0
  have HC0 := Aside0.mk hc0
  clear hr0 hc0
  have HR1 := Aside0.mk hr1
  have HC1 := Aside0.mk hc1
  clear hr1 hc1
  have HB := Aside0.mk (Below.refl w.heap.size w)
  have H : (if (l0.length : Int) = (l1.length : Int) then ((attn_sized.f (l0.length : Int)).bind fun t122 => (attn_Score.j0 k l0 l1 (!t122))) else (attn_Score.j0 k l0 l1 true)) = some (r1, r2) := h
  clear h
  have HC3 := Aside0.mk H
  clear H
  go_enter Try.func9, Try.ntmps9
  go_upto_region 1 with (fail)
  go_cut [18] (fun v18 wc => ∃ (kq : Nat) (x18_2 : Bool), v18 = .bool x18_2 ∧ Aside0 (attn_Score.j0 kq l0 l1 x18_2 = some (r1, r2)) ∧ Aside0 (kq ≤ k) ∧ Aside0 (Below w.heap.size w wc))
  case first =>
    have H := HC3.out
    clear HC3
    by_cases c4 : (l0.length : Int) = (l1.length : Int)
    · rw [if_pos c4] at H
      have c4b0 : ((l0.length : Int) == (l1.length : Int)) = true := beq_iff_eq.mpr c4
      have c4b1 : ((l0.length : Int) != (l1.length : Int)) = false := bne_eq_false_iff_eq.mpr c4
      have c4b2 : (l0.length == l1.length) = true := by first | simpa using c4 | (simp at c4 ⊢; omega)
      clear c4
      (first | rw [c4b0] | (simp only [i64_w, i32_w]; rw [c4b0]) | skip)
      replace H := Option.bind_eq_some_iff.mp H
      obtain ⟨t122, A50, H⟩ := H
      replace H : (attn_Score.j0 k l0 l1 (!t122)) = some (r1, r2) := H
      have A5 := Aside0.mk A50
      clear A50
      have H' := Aside0.mk H
      clear H
      go_wp2_with (first | (go_at_call 23; (with_reducible refine (attn_sized.calls (l0.length : Int) t122 _ A5.out).mono ?_); rintro e w' ⟨rfl, ⟨nd, rfl⟩⟩))
      go_meet
      case rel => exact ⟨_, (!t122), (by first | rfl | (simp; done) | (simp [*]; done)), H', ⟨by first | omega | exact Nat.le_refl _⟩, ⟨by repeat (first | (with_reducible first | exact HB.out | apply below_alloc | apply pw_below_drewN | apply below_drew1) | exact HB.out)⟩⟩
    · rw [if_neg c4] at H
      have c4b0 : ((l0.length : Int) == (l1.length : Int)) = false := beq_eq_false_iff_ne.mpr c4
      have c4b1 : ((l0.length : Int) != (l1.length : Int)) = true := bne_iff_ne.mpr c4
      have c4b2 : (l0.length == l1.length) = false := by first | simpa using c4 | (simp at c4 ⊢; omega)
      (first | rw [c4b0] | (simp only [i64_w, i32_w]; rw [c4b0]) | skip)
      have H' := Aside0.mk H
      clear H
      go_wp2
      go_meet
      case rel => exact ⟨_, (true), (by first | rfl | (simp; done) | (simp [*]; done)), H', ⟨by first | omega | exact Nat.le_refl _⟩, ⟨by repeat (first | (with_reducible first | exact HB.out | apply below_alloc | apply pw_below_drewN | apply below_drew1) | exact HB.out)⟩⟩
  case rest =>
    clear HC3
    try clear c1
    try clear p2
    try clear c4
    try clear c4b0
    try clear c4b1
    try clear c4b2
    obtain ⟨kq, x18_2, rfl, HA, HJ2, HB⟩ := hcut
    cases kq with
    | zero => exact absurd HA.out (by simp [attn_Score.j0])
    | succ kj2 =>
      have H := HA.out
      clear HA
      simp only [attn_Score.j0] at H
      by_cases c6 : x18_2 = true
      · subst c6
        have H1 : (some (0, 25)) = some (r1, r2) := by rw [if_pos rfl] at H; exact H
        clear H
        have H := H1
        clear H1
        simp only [Option.some.injEq, Prod.mk.injEq] at H
        obtain ⟨rfl, rfl⟩ := H
        go_wp2
        go_ret2
        exact ⟨by first | rfl | (simp [errW_none, errW_some] <;> rfl) | (simp [*, errW_none, errW_some] <;> rfl), by repeat (first | (with_reducible first | exact HB.out | apply below_alloc | apply pw_below_drewN | apply below_drew1) | exact HB.out)⟩
      · replace c6 := Bool.eq_false_iff.mpr c6
        subst c6
        have H1 : ((attn_cut.f kj2 l0).bind fun t123 => ((attn_cut.f kj2 l1).bind fun t126 => ((dot_Dot.f kj2 t123 t126).bind fun bt129 => (if bt129.2 = 0 then ((attn_scaled.f kj2 bt129.1 (l0.length : Int)).bind fun t131 => (some (t131, 0))) else (some (0, bt129.2)))))) = some (r1, r2) := by rw [if_neg (show ¬ (false = true) by decide)] at H; exact H
        clear H
        have H := H1
        clear H1
        replace H := Option.bind_eq_some_iff.mp H
        obtain ⟨t123, A70, H⟩ := H
        replace H : ((attn_cut.f kj2 l1).bind fun t126 => ((dot_Dot.f kj2 t123 t126).bind fun bt129 => (if bt129.2 = 0 then ((attn_scaled.f kj2 bt129.1 (l0.length : Int)).bind fun t131 => (some (t131, 0))) else (some (0, bt129.2))))) = some (r1, r2) := H
        have A7 := Aside0.mk A70
        clear A70
        replace H := Option.bind_eq_some_iff.mp H
        obtain ⟨t126, A80, H⟩ := H
        replace H : ((dot_Dot.f kj2 t123 t126).bind fun bt129 => (if bt129.2 = 0 then ((attn_scaled.f kj2 bt129.1 (l0.length : Int)).bind fun t131 => (some (t131, 0))) else (some (0, bt129.2)))) = some (r1, r2) := H
        have A8 := Aside0.mk A80
        clear A80
        replace H := Option.bind_eq_some_iff.mp H
        obtain ⟨⟨t129, t130⟩, A90, H⟩ := H
        replace H : (if t130 = 0 then ((attn_scaled.f kj2 t129 (l0.length : Int)).bind fun t131 => (some (t131, 0))) else (some (0, t130))) = some (r1, r2) := H
        have A9 := Aside0.mk A90
        clear A90
        by_cases c10 : t130 = 0
        · rw [if_pos c10] at H
          have c10b0 : (t130 == 0) = true := beq_iff_eq.mpr c10
          have c10b1 : (t130 != 0) = false := bne_eq_false_iff_eq.mpr c10
          clear c10
          replace H := Option.bind_eq_some_iff.mp H
          obtain ⟨t131, A110, H⟩ := H
          replace H : (some (t131, 0)) = some (r1, r2) := H
          have A11 := Aside0.mk A110
          clear A110
          simp only [Option.some.injEq, Prod.mk.injEq] at H
          obtain ⟨rfl, rfl⟩ := H
          go_wp2_with (first | ((with_reducible refine gate_callee (f := 25) rfl ?_); refine goesL_ (some 21) rfl rfl Try.func25 (by kernel_rfl) rfl #[.slice A0 l0.length c0] rfl (by (try simp only [List.map_toArray, List.map_cons, List.map_nil]); first | done | rfl | (simp only [List.length_drop, List.length_take]; rfl)) ?_; (with_reducible refine (attn_cut.calls kj2 _ _ l0 t123 _ ?side1 ?side2 A7.out).mono ?_); (case side1 => repeat (first | exact (Kd.C_below HR0.out HB.out) | (with_reducible refine Kd.C_alloc ?_ _) | (with_reducible refine Kd.C_drewN ?_ _) | (with_reducible refine Kd.C_drew ?_))); (case side2 => exact HC0.out); rintro e w12 ⟨v124, rfl, ho0, hb⟩; refine ⟨_, rfl, ?_⟩; have n0_ := Aside0.mk (Kd.R_lower ho0 (below_size (by repeat (first | (with_reducible first | exact HB.out | apply below_alloc | apply pw_below_drewN | apply below_drew1) | exact HB.out)))); have n1_ := Aside0.mk (below_step (by repeat (first | (with_reducible first | exact HB.out | apply below_alloc | apply pw_below_drewN | apply below_drew1) | exact HB.out)) hb); clear HB; have HO125 := n0_; have HB := n1_; clear n0_ n1_; (try clear hb); (try clear hb2); (try clear hk); (try clear hi); (try clear ho0)) | ((with_reducible refine gate_callee (f := 25) rfl ?_); refine goesL_ (some 23) rfl rfl Try.func25 (by kernel_rfl) rfl #[.slice A1 l1.length c1] rfl (by (try simp only [List.map_toArray, List.map_cons, List.map_nil]); first | done | rfl | (simp only [List.length_drop, List.length_take]; rfl)) ?_; (with_reducible refine (attn_cut.calls kj2 _ _ l1 t126 _ ?side1 ?side2 A8.out).mono ?_); (case side1 => repeat (first | exact (Kd.C_below HR1.out HB.out) | (with_reducible refine Kd.C_alloc ?_ _) | (with_reducible refine Kd.C_drewN ?_ _) | (with_reducible refine Kd.C_drew ?_))); (case side2 => exact HC1.out); rintro e w13 ⟨v127, rfl, ho0, hb⟩; refine ⟨_, rfl, ?_⟩; have n0_ := Aside0.mk (Kd.R_elder' (by (with_reducible repeat (first | apply Kd.R_alloc | apply Kd.R_drewN | apply Kd.R_drew)); exact HO125.out) (Kd.R_base ho0) hb); have n1_ := Aside0.mk (Kd.R_lower (Kd.R_new' ho0 (Kd.R_lt (by (with_reducible repeat (first | apply Kd.R_alloc | apply Kd.R_drewN | apply Kd.R_drew)); exact HO125.out))) (below_size (by repeat (first | (with_reducible first | exact HB.out | apply below_alloc | apply pw_below_drewN | apply below_drew1) | exact HB.out)))); have n2_ := Aside0.mk (below_step (by repeat (first | (with_reducible first | exact HB.out | apply below_alloc | apply pw_below_drewN | apply below_drew1) | exact HB.out)) hb); clear HO125; clear HB; have HO125 := n0_; have HO128 := n1_; have HB := n2_; clear n0_ n1_ n2_; (try clear hb); (try clear hb2); (try clear hk); (try clear hi); (try clear ho0); obtain ⟨Ao14, co14, eo14⟩ := Kd.R_slice HO125.out; subst eo14; obtain ⟨Ao15, co15, eo15⟩ := Kd.R_slice HO128.out; subst eo15) | ((with_reducible refine gate_callee (f := 24) rfl ?_); refine goesL_ (some 24) rfl rfl Try.func24 (by kernel_rfl) rfl #[.slice Ao14 t123.length co14, .slice Ao15 t126.length co15] rfl (by (try simp only [List.map_toArray, List.map_cons, List.map_nil]); first | done | rfl | (simp only [List.length_drop, List.length_take]; rfl)) ?_; (with_reducible refine (dot_Dot.calls kj2 _ _ t123 _ _ t126 t129 t130 _ ?side1 ?side2 ?side3 ?side4 A9.out).mono ?_); (case side1 => repeat (first | exact (Kd.R_reads' HO125.out).2.2 | (with_reducible refine Kd.C_alloc ?_ _) | (with_reducible refine Kd.C_drewN ?_ _) | (with_reducible refine Kd.C_drew ?_))); (case side2 => exact (Kd.R_reads' HO125.out).2.1); (case side3 => repeat (first | exact (Kd.R_reads' HO128.out).2.2 | (with_reducible refine Kd.C_alloc ?_ _) | (with_reducible refine Kd.C_drewN ?_ _) | (with_reducible refine Kd.C_drew ?_))); (case side4 => exact (Kd.R_reads' HO128.out).2.1); rintro e w' ⟨rfl, ⟨nd, rfl⟩⟩; refine ⟨_, rfl, ?_⟩) | ((with_reducible refine gate_callee (f := 26) rfl ?_); refine goesL_ (some 33) rfl rfl Try.func26 (by kernel_rfl) rfl #[.int .i64 t129, .int .i64 (l0.length : Int)] rfl (by (try simp only [List.map_toArray, List.map_cons, List.map_nil]); first | done | rfl | (simp only [List.length_drop, List.length_take]; rfl)) ?_; (with_reducible refine (attn_scaled.calls kj2 t129 (l0.length : Int) t131 _ A11.out).mono ?_); rintro e w16 ⟨rfl, hb⟩; refine ⟨_, rfl, ?_⟩; have n0_ := Aside0.mk (Kd.R_below (by (with_reducible repeat (first | apply Kd.R_alloc | apply Kd.R_drewN | apply Kd.R_drew)); exact HO125.out) hb); have n1_ := Aside0.mk (Kd.R_below (by (with_reducible repeat (first | apply Kd.R_alloc | apply Kd.R_drewN | apply Kd.R_drew)); exact HO128.out) hb); have n2_ := Aside0.mk (below_step (by repeat (first | (with_reducible first | exact HB.out | apply below_alloc | apply pw_below_drewN | apply below_drew1) | exact HB.out)) hb); clear HO125; clear HO128; clear HB; have HO125 := n0_; have HO128 := n1_; have HB := n2_; clear n0_ n1_ n2_; (try clear hb); (try clear hb2); (try clear hk); (try clear hi)))
          go_ret2
          exact ⟨by first | rfl | (simp [errW_none, errW_some] <;> rfl) | (simp [*, errW_none, errW_some] <;> rfl), by repeat (first | (with_reducible first | exact HB.out | apply below_alloc | apply pw_below_drewN | apply below_drew1) | exact HB.out)⟩
        · rw [if_neg c10] at H
          have c10b0 : (t130 == 0) = false := beq_eq_false_iff_ne.mpr c10
          have c10b1 : (t130 != 0) = true := bne_iff_ne.mpr c10
          simp only [Option.some.injEq, Prod.mk.injEq] at H
          obtain ⟨rfl, rfl⟩ := H
          go_wp2_with (first | ((with_reducible refine gate_callee (f := 25) rfl ?_); refine goesL_ (some 21) rfl rfl Try.func25 (by kernel_rfl) rfl #[.slice A0 l0.length c0] rfl (by (try simp only [List.map_toArray, List.map_cons, List.map_nil]); first | done | rfl | (simp only [List.length_drop, List.length_take]; rfl)) ?_; (with_reducible refine (attn_cut.calls kj2 _ _ l0 t123 _ ?side1 ?side2 A7.out).mono ?_); (case side1 => repeat (first | exact (Kd.C_below HR0.out HB.out) | (with_reducible refine Kd.C_alloc ?_ _) | (with_reducible refine Kd.C_drewN ?_ _) | (with_reducible refine Kd.C_drew ?_))); (case side2 => exact HC0.out); rintro e w17 ⟨v124, rfl, ho0, hb⟩; refine ⟨_, rfl, ?_⟩; have n0_ := Aside0.mk (Kd.R_lower ho0 (below_size (by repeat (first | (with_reducible first | exact HB.out | apply below_alloc | apply pw_below_drewN | apply below_drew1) | exact HB.out)))); have n1_ := Aside0.mk (below_step (by repeat (first | (with_reducible first | exact HB.out | apply below_alloc | apply pw_below_drewN | apply below_drew1) | exact HB.out)) hb); clear HB; have HO125 := n0_; have HB := n1_; clear n0_ n1_; (try clear hb); (try clear hb2); (try clear hk); (try clear hi); (try clear ho0)) | ((with_reducible refine gate_callee (f := 25) rfl ?_); refine goesL_ (some 23) rfl rfl Try.func25 (by kernel_rfl) rfl #[.slice A1 l1.length c1] rfl (by (try simp only [List.map_toArray, List.map_cons, List.map_nil]); first | done | rfl | (simp only [List.length_drop, List.length_take]; rfl)) ?_; (with_reducible refine (attn_cut.calls kj2 _ _ l1 t126 _ ?side1 ?side2 A8.out).mono ?_); (case side1 => repeat (first | exact (Kd.C_below HR1.out HB.out) | (with_reducible refine Kd.C_alloc ?_ _) | (with_reducible refine Kd.C_drewN ?_ _) | (with_reducible refine Kd.C_drew ?_))); (case side2 => exact HC1.out); rintro e w18 ⟨v127, rfl, ho0, hb⟩; refine ⟨_, rfl, ?_⟩; have n0_ := Aside0.mk (Kd.R_elder' (by (with_reducible repeat (first | apply Kd.R_alloc | apply Kd.R_drewN | apply Kd.R_drew)); exact HO125.out) (Kd.R_base ho0) hb); have n1_ := Aside0.mk (Kd.R_lower (Kd.R_new' ho0 (Kd.R_lt (by (with_reducible repeat (first | apply Kd.R_alloc | apply Kd.R_drewN | apply Kd.R_drew)); exact HO125.out))) (below_size (by repeat (first | (with_reducible first | exact HB.out | apply below_alloc | apply pw_below_drewN | apply below_drew1) | exact HB.out)))); have n2_ := Aside0.mk (below_step (by repeat (first | (with_reducible first | exact HB.out | apply below_alloc | apply pw_below_drewN | apply below_drew1) | exact HB.out)) hb); clear HO125; clear HB; have HO125 := n0_; have HO128 := n1_; have HB := n2_; clear n0_ n1_ n2_; (try clear hb); (try clear hb2); (try clear hk); (try clear hi); (try clear ho0); obtain ⟨Ao19, co19, eo19⟩ := Kd.R_slice HO125.out; subst eo19; obtain ⟨Ao20, co20, eo20⟩ := Kd.R_slice HO128.out; subst eo20) | ((with_reducible refine gate_callee (f := 24) rfl ?_); refine goesL_ (some 24) rfl rfl Try.func24 (by kernel_rfl) rfl #[.slice Ao19 t123.length co19, .slice Ao20 t126.length co20] rfl (by (try simp only [List.map_toArray, List.map_cons, List.map_nil]); first | done | rfl | (simp only [List.length_drop, List.length_take]; rfl)) ?_; (with_reducible refine (dot_Dot.calls kj2 _ _ t123 _ _ t126 t129 t130 _ ?side1 ?side2 ?side3 ?side4 A9.out).mono ?_); (case side1 => repeat (first | exact (Kd.R_reads' HO125.out).2.2 | (with_reducible refine Kd.C_alloc ?_ _) | (with_reducible refine Kd.C_drewN ?_ _) | (with_reducible refine Kd.C_drew ?_))); (case side2 => exact (Kd.R_reads' HO125.out).2.1); (case side3 => repeat (first | exact (Kd.R_reads' HO128.out).2.2 | (with_reducible refine Kd.C_alloc ?_ _) | (with_reducible refine Kd.C_drewN ?_ _) | (with_reducible refine Kd.C_drew ?_))); (case side4 => exact (Kd.R_reads' HO128.out).2.1); rintro e w' ⟨rfl, ⟨nd, rfl⟩⟩; refine ⟨_, rfl, ?_⟩))
          go_ret2
          exact ⟨by first | rfl | (simp [errW_none, errW_some] <;> rfl) | (simp [*, errW_none, errW_some] <;> rfl), by repeat (first | (with_reducible first | exact HB.out | apply below_alloc | apply pw_below_drewN | apply below_drew1) | exact HB.out)⟩

end Go.Proofs.Yteflolamihhmdaa.Q

namespace Go.Proofs.Yteflolamihhmdaa.Q
open Go.RowKit Go.Proofs.YteflolamihhmdaaW.PrintWords Go.Proofs.YteflolamihhmdaaW.PrintLast Go.Proofs.YteflolamihhmdaaW.PrintMore
attribute [local go_sem] max2_int min2_int max_two min_two max_three min_three max_four min_four   -- for this text's walks alone
set_option linter.unusedVariables false
set_option linter.unusedSimpArgs false

/-! ### credenzaref14_Narrow: function 16 -/
def credenzaref14_Narrow.l0 : Nat → List Int → List Int → Int → Option (List Int)
  | 0, _, _, _ => none
  | k + 1, x0, x3, x4 => if x4 < (x0.length : Int) then (if 0 ≤ x4 then ((credenzaref01_Narrow.f (wrap64 (rd x0 x4))).bind fun t195 => (if x3.length < 35184372088832 then (credenzaref14_Narrow.l0 k x0 (x3 ++ [t195]) (wrap64 (x4 + 1))) else (none))) else (none)) else (some x3)
def credenzaref14_Narrow.f (k : Nat) (l0 : List Int) : Option (List Int) := credenzaref14_Narrow.l0 k l0 ([] : List Int) 0
theorem credenzaref14_Narrow.mono_l : ∀ k, (∀ y0 y1 y2, LeO (credenzaref14_Narrow.l0 k y0 y1 y2) (credenzaref14_Narrow.l0 (k + 1) y0 y1 y2))
  | 0 => fun _ _ _ r h => by simp [credenzaref14_Narrow.l0] at h
  | k + 1 => by
    have ih0 := credenzaref14_Narrow.mono_l k
    · intro y0 y1 y2
      unfold credenzaref14_Narrow.l0
      repeat' first
      | (with_reducible exact ih0 _ _ _)
      | (with_reducible exact LeO.refl _)
      | (with_reducible exact LeO.none _)
      | (with_reducible refine LeO.ite ?_ ?_)
      | (with_reducible refine LeO.bind ?_ (fun _ => ?_))
      | exact ih0 _ _ _
      | exact LeO.none _
      | refine LeO.ite ?_ ?_
      | refine LeO.bind ?_ (fun _ => ?_)
theorem credenzaref14_Narrow.mono : ∀ a0 k, LeO (credenzaref14_Narrow.f k a0) (credenzaref14_Narrow.f (k + 1) a0) := by
  intro a0 k
  have ih0 := credenzaref14_Narrow.mono_l k
  unfold credenzaref14_Narrow.f
  repeat' first
      | (with_reducible exact ih0 _ _ _)
      | (with_reducible exact LeO.refl _)
      | (with_reducible exact LeO.none _)
      | (with_reducible refine LeO.ite ?_ ?_)
      | (with_reducible refine LeO.bind ?_ (fun _ => ?_))
      | exact ih0 _ _ _
      | exact LeO.none _
      | refine LeO.ite ?_ ?_
      | refine LeO.bind ?_ (fun _ => ?_)
set_option maxHeartbeats 8000000 in
set_option maxRecDepth 100000 in
theorem credenzaref14_Narrow.calls (k : Nat) (A0 : Option Addr) (c0 : Nat) (l0 : List Int) (r : List Int) (w : World) (hr0 : Kd.C (Kd.int .i32) w A0 l0.length l0) (hc0 : l0.length ≤ c0) (h : credenzaref14_Narrow.f k l0 = some r) :
    Calls Try.prog 16 #[.slice A0 l0.length c0] w fun e w' => ∃ v0_ : Value, e = .returned (v0_) ∧ Kd.R (Kd.int .i32) 21 w' w.heap.size (fun _ => True) v0_ r ∧ Below w.heap.size w w' := by
  have HR0 := Aside0.mk hr0
  have HC0 := Aside0.mk hc0
  clear hr0 hc0
  have HB := Aside0.mk (Below.refl w.heap.size w)
  have H : (credenzaref14_Narrow.l0 k l0 ([] : List Int) 0) = some r := h
  clear h
  have H' := Aside0.mk H
  clear H
  go_enter Try.func16, Try.ntmps16
  go_wp2
  go_loopg [3, 4] k (fun kq v3 v4 w' => ∃ (x3_1 : List Int) (x4_1 : Int), v4 = .int .i64 x4_1 ∧ Aside0 (credenzaref14_Narrow.l0 kq l0 x3_1 x4_1 = some r) ∧ Aside0 (kq ≤ k) ∧ Aside0 (Kd.R (Kd.int .i32) 21 w' w.heap.size (fun _ => True) v3 x3_1) ∧ Aside0 (Below w.heap.size w w'))
  case atStart => exact ⟨(([] : List Int)), (0), (by first | rfl | (simp; done) | (simp [*]; done)), H', ⟨Nat.le_refl _⟩, ⟨by first | exact Kd.R_nil _ _ _ _ _ | exact Kd.N_nil _ _ _ _ _ | exact Kd.V_nil _ _ _ _ _ | exact Kd.Q_nil _ _ _ _ _ | exact Kd.S_nil _ _ _ _ _⟩, ⟨by repeat (first | (with_reducible first | exact HB.out | apply below_alloc | apply pw_below_drewN | apply below_drew1) | exact HB.out)⟩⟩
  case round =>
    clear H'
    try clear c1
    obtain ⟨x3_1, x4_1, rfl, HA, HK1, HO_3, HB⟩ := hrel
    cases gk with
    | zero => exact absurd HA.out (by simp [credenzaref14_Narrow.l0])
    | succ k1 =>
      have H := HA.out
      clear HA
      simp only [credenzaref14_Narrow.l0] at H
      by_cases c2 : x4_1 < (l0.length : Int)
      · rw [if_pos c2] at H
        have c2b0 : decide (x4_1 < (l0.length : Int)) = true := decide_eq_true c2
        clear c2
        by_cases c3 : 0 ≤ x4_1
        · rw [if_pos c3] at H
          have c3b0 : decide (0 ≤ x4_1) = true := decide_eq_true c3
          clear c3
          replace H := Option.bind_eq_some_iff.mp H
          obtain ⟨t195, A40, H⟩ := H
          replace H : (if x3_1.length < 35184372088832 then (credenzaref14_Narrow.l0 k1 l0 (x3_1 ++ [t195]) (wrap64 (x4_1 + 1))) else (none)) = some r := H
          have A4 := Aside0.mk A40
          clear A40
          by_cases c5 : x3_1.length < 35184372088832
          · rw [if_pos c5] at H
            have LMc5 := Aside0.mk c5
            clear c5
            obtain ⟨y196, hy196⟩ : ∃ y_ : List Int, y_ = (x3_1 ++ [t195]) := ⟨_, rfl⟩
            replace H : (credenzaref14_Narrow.l0 k1 l0 y196 (wrap64 (x4_1 + 1))) = some r := by first | (rw [hy196]; with_reducible exact H) | (have H2_ := (Option.bind_some _ _).symm.trans H; rw [hy196]; with_reducible exact H2_) | (have H2_ := (Option.bind_some _ _).symm.trans H; with_reducible exact H2_) | with_reducible exact H | (rw [hy196]; exact H) | exact H
            have Ny196 := Aside0.mk hy196
            clear hy196
            have H' := Aside0.mk H
            clear H
            have p194 : 0 ≤ (x4_1 : Int) := of_decide_eq_true (by first | (with_reducible assumption) | assumption)
            have q194 : x4_1 < (l0.length : Int) := of_decide_eq_true (by first | (with_reducible assumption) | assumption)
            obtain ⟨ad194, e194, hx194_0⟩ := Kd.at_int HR0.out x4_1 p194 q194
            cases e194
            replace hx194_0 := (HB.out.cell (World.block_lt_of_cell? w _ hx194_0)).trans hx194_0
            replace p194 := eq_true p194
            replace q194 := eq_true q194
            go_wp2_with (first | ((with_reducible refine gate_callee (f := 34) rfl ?_); refine goesL_ (some 17) rfl rfl Try.func34 (by kernel_rfl) rfl #[.int .i64 (wrap64 (rd l0 x4_1))] rfl (by (try simp only [List.map_toArray, List.map_cons, List.map_nil]); first | done | rfl | (simp only [List.length_drop, List.length_take]; rfl)) ?_; (with_reducible refine (credenzaref01_Narrow.calls (wrap64 (rd l0 x4_1)) t195 _ A4.out).mono ?_); rintro e w' ⟨rfl, ⟨nd, rfl⟩⟩; refine ⟨_, rfl, ?_⟩) | ((with_reducible refine gate_builtin (b := .append) (xs := #[.tmp 11, .tmp 18]) rfl ?_); at_builtin; refine Kd.R_append (Kd.int .i32) (w0 := w) w.heap.size rfl (.tmp 11) (.tmp 18) 22 21 (.int .i32 0) 4 rfl Try.underlying22 info21 rfl (by decide) (by omega) u3 x3_1 t195 [.int .i32 t195] (fun _ => True) (fun _ => False) rfl rfl ?aP (fun _ hk => hk.elim) ?aF ?aO ?aB ?aS ?aL ?_; (case aP => exact rfl); (case aB => exact (by repeat (first | (with_reducible first | exact HB.out | apply below_alloc | apply pw_below_drewN | apply below_drew1) | exact HB.out))); (case aF => exact (fun _ _ => trivial)); (case aO => exact (by (with_reducible repeat (first | apply Kd.R_alloc | apply Kd.R_drewN | apply Kd.R_drew)); exact HO_3.out)); (case aS => exact (below_size (by repeat (first | (with_reducible first | exact HB.out | apply below_alloc | apply pw_below_drewN | apply below_drew1) | exact HB.out)))); (case aL => have := LMc5.out; omega); intro v197 w6 ho hb hg hat; rw [← Ny196.out] at ho; have n0_ := Aside0.mk (hb); have n1_ := Aside0.mk (ho); clear HB; clear HO_3; have HB := n0_; have HO198 := n1_; clear n0_ n1_; clear ho hb hg hat))
            go_roundg k1
            case measure => have := HK1.out; omega
            case rel => exact ⟨(y196), (wrap64 (x4_1 + 1)), (by first | rfl | (simp; done) | (simp [*]; done)), H', ⟨by have := HK1.out; omega⟩, ⟨by (with_reducible repeat (first | apply Kd.R_alloc | apply Kd.R_drewN | apply Kd.R_drew)); exact HO198.out⟩, ⟨by repeat (first | (with_reducible first | exact HB.out | apply below_alloc | apply pw_below_drewN | apply below_drew1) | exact HB.out)⟩⟩
          · rw [if_neg c5] at H
            exact absurd H (by simp)
        · rw [if_neg c3] at H
          exact absurd H (by simp)
      · rw [if_neg c2] at H
        have c2b0 : decide (x4_1 < (l0.length : Int)) = false := decide_eq_false c2
        clear c2
        obtain rfl := Option.some.inj H
        go_wp2
        go_ret
        exact ⟨_, by first | rfl | (simp [errW_none, errW_some] <;> rfl) | (simp [*, errW_none, errW_some] <;> rfl), by (with_reducible repeat (first | apply Kd.R_alloc | apply Kd.R_drewN | apply Kd.R_drew)); exact HO_3.out, by repeat (first | (with_reducible first | exact HB.out | apply below_alloc | apply pw_below_drewN | apply below_drew1) | exact HB.out)⟩

end Go.Proofs.Yteflolamihhmdaa.Q

namespace Go.Proofs.Yteflolamihhmdaa.Q
open Go.RowKit Go.Proofs.YteflolamihhmdaaW.PrintWords Go.Proofs.YteflolamihhmdaaW.PrintLast Go.Proofs.YteflolamihhmdaaW.PrintMore
attribute [local go_sem] max2_int min2_int max_two min_two max_three min_three max_four min_four   -- for this text's walks alone
set_option linter.unusedVariables false
set_option linter.unusedSimpArgs false

/-! ### credenzaref03_Dot: function 27 -/
def credenzaref03_Dot.l0 : Nat → List Int → List Int → Int → Int → Option (Int)
  | 0, _, _, _, _ => none
  | k + 1, x0, x1, x5, x6 => if x6 < (x0.length : Int) then (if 0 ≤ x6 then (if x6 < (x1.length : Int) then (credenzaref03_Dot.l0 k x0 x1 (wrap64 (x5 + (wrap64 ((wrap64 (rd x0 x6)) * (wrap64 (rd x1 x6)))))) (wrap64 (x6 + 1))) else (none)) else (none)) else (some x5)
def credenzaref03_Dot.f (k : Nat) (l0 : List Int) (l1 : List Int) : Option (Int) := credenzaref03_Dot.l0 k l0 l1 0 0
theorem credenzaref03_Dot.mono_l : ∀ k, (∀ y0 y1 y2 y3, LeO (credenzaref03_Dot.l0 k y0 y1 y2 y3) (credenzaref03_Dot.l0 (k + 1) y0 y1 y2 y3))
  | 0 => fun _ _ _ _ r h => by simp [credenzaref03_Dot.l0] at h
  | k + 1 => by
    have ih0 := credenzaref03_Dot.mono_l k
    · intro y0 y1 y2 y3
      unfold credenzaref03_Dot.l0
      repeat' first
      | (with_reducible exact ih0 _ _ _ _)
      | (with_reducible exact LeO.refl _)
      | (with_reducible exact LeO.none _)
      | (with_reducible refine LeO.ite ?_ ?_)
      | (with_reducible refine LeO.bind ?_ (fun _ => ?_))
      | exact ih0 _ _ _ _
      | exact LeO.none _
      | refine LeO.ite ?_ ?_
      | refine LeO.bind ?_ (fun _ => ?_)
theorem credenzaref03_Dot.mono : ∀ a0 a1 k, LeO (credenzaref03_Dot.f k a0 a1) (credenzaref03_Dot.f (k + 1) a0 a1) := by
  intro a0 a1 k
  have ih0 := credenzaref03_Dot.mono_l k
  unfold credenzaref03_Dot.f
  repeat' first
      | (with_reducible exact ih0 _ _ _ _)
      | (with_reducible exact LeO.refl _)
      | (with_reducible exact LeO.none _)
      | (with_reducible refine LeO.ite ?_ ?_)
      | (with_reducible refine LeO.bind ?_ (fun _ => ?_))
      | exact ih0 _ _ _ _
      | exact LeO.none _
      | refine LeO.ite ?_ ?_
      | refine LeO.bind ?_ (fun _ => ?_)
set_option maxHeartbeats 8000000 in
set_option maxRecDepth 100000 in
theorem credenzaref03_Dot.calls (k : Nat) (A0 : Option Addr) (c0 : Nat) (l0 : List Int) (A1 : Option Addr) (c1 : Nat) (l1 : List Int) (r : Int) (w : World) (hr0 : Kd.C (Kd.int .i32) w A0 l0.length l0) (hc0 : l0.length ≤ c0) (hr1 : Kd.C (Kd.int .i32) w A1 l1.length l1) (hc1 : l1.length ≤ c1) (h : credenzaref03_Dot.f k l0 l1 = some r) :
    Calls Try.prog 27 #[.slice A0 l0.length c0, .slice A1 l1.length c1] w fun e w' => e = .returned (.int .i64 r) ∧ Drawn0 w w' := by
  have HR0 := Aside0.mk hr0
  have HC0 := Aside0.mk hc0
  clear hr0 hc0
  have HR1 := Aside0.mk hr1
  have HC1 := Aside0.mk hc1
  clear hr1 hc1
  have H : (credenzaref03_Dot.l0 k l0 l1 0 0) = some r := h
  clear h
  have H' := Aside0.mk H
  clear H
  go_enter Try.func27, Try.ntmps27
  go_wp2
  repeat (go_quiet (fail); try go_wp2)
  go_loopg [5, 6] k (fun kq v5 v6 w' => ∃ (x5_1 : Int) (x6_1 : Int), v5 = .int .i64 x5_1 ∧ v6 = .int .i64 x6_1 ∧ Aside0 (credenzaref03_Dot.l0 kq l0 l1 x5_1 x6_1 = some r) ∧ Aside0 (kq ≤ k) ∧ Drawn0 w w')
  case atStart => exact ⟨(0), (0), (by first | rfl | (simp; done) | (simp [*]; done)), (by first | rfl | (simp; done) | (simp [*]; done)), H', ⟨Nat.le_refl _⟩, by repeat (first | exact Drawn0.refl _ | apply Drawn0.step)⟩
  case round =>
    clear H'
    try clear c1
    try clear c2
    try clear p2
    obtain ⟨x5_1, x6_1, rfl, rfl, HA, HK1, ⟨m1, rfl⟩⟩ := hrel
    cases gk with
    | zero => exact absurd HA.out (by simp [credenzaref03_Dot.l0])
    | succ k1 =>
      have H := HA.out
      clear HA
      simp only [credenzaref03_Dot.l0] at H
      by_cases c3 : x6_1 < (l0.length : Int)
      · rw [if_pos c3] at H
        have c3b0 : decide (x6_1 < (l0.length : Int)) = true := decide_eq_true c3
        clear c3
        by_cases c4 : 0 ≤ x6_1
        · rw [if_pos c4] at H
          have c4b0 : decide (0 ≤ x6_1) = true := decide_eq_true c4
          clear c4
          by_cases c5 : x6_1 < (l1.length : Int)
          · rw [if_pos c5] at H
            have c5b0 : decide (x6_1 < (l1.length : Int)) = true := decide_eq_true c5
            clear c5
            have H' := Aside0.mk H
            clear H
            have p199 : 0 ≤ (x6_1 : Int) := of_decide_eq_true (by first | (with_reducible assumption) | assumption)
            have q199 : x6_1 < (l0.length : Int) := of_decide_eq_true (by first | (with_reducible assumption) | assumption)
            obtain ⟨ad199, e199, hx199_0⟩ := Kd.at_int HR0.out x6_1 p199 q199
            cases e199
            replace p199 := eq_true p199
            replace q199 := eq_true q199
            have p200 : 0 ≤ (x6_1 : Int) := of_decide_eq_true (by first | (with_reducible assumption) | assumption)
            have q200 : x6_1 < (l1.length : Int) := of_decide_eq_true (by first | (with_reducible assumption) | assumption)
            obtain ⟨ad200, e200, hx200_0⟩ := Kd.at_int HR1.out x6_1 p200 q200
            cases e200
            replace p200 := eq_true p200
            replace q200 := eq_true q200
            go_wp2
            repeat (go_quiet (fail); try go_wp2)
            go_roundg k1
            case measure => have := HK1.out; omega
            case rel => exact ⟨(wrap64 (x5_1 + (wrap64 ((wrap64 (rd l0 x6_1)) * (wrap64 (rd l1 x6_1)))))), (wrap64 (x6_1 + 1)), (by first | rfl | (simp; done) | (simp [*]; done)), (by first | rfl | (simp; done) | (simp [*]; done)), H', ⟨by have := HK1.out; omega⟩, by repeat (first | exact Drawn0.refl _ | apply Drawn0.step)⟩
          · rw [if_neg c5] at H
            exact absurd H (by simp)
        · rw [if_neg c4] at H
          exact absurd H (by simp)
      · rw [if_neg c3] at H
        have c3b0 : decide (x6_1 < (l0.length : Int)) = false := decide_eq_false c3
        clear c3
        obtain rfl := Option.some.inj H
        go_wp2
        repeat (go_quiet (fail); try go_wp2)
        go_ret
        exact ⟨by first | rfl | (simp; done) | (simp [*]; done), by repeat (first | exact Drawn0.refl _ | apply Drawn0.step)⟩

end Go.Proofs.Yteflolamihhmdaa.Q

namespace Go.Proofs.Yteflolamihhmdaa.Q
open Go.RowKit Go.Proofs.YteflolamihhmdaaW.PrintWords Go.Proofs.YteflolamihhmdaaW.PrintLast Go.Proofs.YteflolamihhmdaaW.PrintMore
attribute [local go_sem] max2_int min2_int max_two min_two max_three min_three max_four min_four   -- for this text's walks alone
set_option linter.unusedVariables false
set_option linter.unusedSimpArgs false

/-! ### credenzaref02_Root: function 52 -/
def credenzaref02_Root.l0 : Nat → Int → Int → Int → Option (Int)
  | 0, _, _, _ => none
  | k + 1, x0, x3, x4 => if x3 < x4 then (if (IntKind.u64.wrap ((IntKind.u64.wrap (x3 + (IntKind.u64.wrap (Int.tdiv (IntKind.u64.wrap ((IntKind.u64.wrap (x4 - x3)) + 1)) 2)))) * (IntKind.u64.wrap (x3 + (IntKind.u64.wrap (Int.tdiv (IntKind.u64.wrap ((IntKind.u64.wrap (x4 - x3)) + 1)) 2)))))) ≤ x0 then (credenzaref02_Root.l0 k x0 (IntKind.u64.wrap (x3 + (IntKind.u64.wrap (Int.tdiv (IntKind.u64.wrap ((IntKind.u64.wrap (x4 - x3)) + 1)) 2)))) x4) else (credenzaref02_Root.l0 k x0 x3 (IntKind.u64.wrap ((IntKind.u64.wrap (x3 + (IntKind.u64.wrap (Int.tdiv (IntKind.u64.wrap ((IntKind.u64.wrap (x4 - x3)) + 1)) 2)))) - 1)))) else (some x3)
def credenzaref02_Root.f (k : Nat) (a0 : Int) : Option (Int) := credenzaref02_Root.l0 k a0 0 4294967295
theorem credenzaref02_Root.mono_l : ∀ k, (∀ y0 y1 y2, LeO (credenzaref02_Root.l0 k y0 y1 y2) (credenzaref02_Root.l0 (k + 1) y0 y1 y2))
  | 0 => fun _ _ _ r h => by simp [credenzaref02_Root.l0] at h
  | k + 1 => by
    have ih0 := credenzaref02_Root.mono_l k
    · intro y0 y1 y2
      unfold credenzaref02_Root.l0
      repeat' first
      | (with_reducible exact ih0 _ _ _)
      | (with_reducible exact LeO.refl _)
      | (with_reducible exact LeO.none _)
      | (with_reducible refine LeO.ite ?_ ?_)
      | (with_reducible refine LeO.bind ?_ (fun _ => ?_))
      | exact ih0 _ _ _
      | exact LeO.none _
      | refine LeO.ite ?_ ?_
      | refine LeO.bind ?_ (fun _ => ?_)
theorem credenzaref02_Root.mono : ∀ a0 k, LeO (credenzaref02_Root.f k a0) (credenzaref02_Root.f (k + 1) a0) := by
  intro a0 k
  have ih0 := credenzaref02_Root.mono_l k
  unfold credenzaref02_Root.f
  repeat' first
      | (with_reducible exact ih0 _ _ _)
      | (with_reducible exact LeO.refl _)
      | (with_reducible exact LeO.none _)
      | (with_reducible refine LeO.ite ?_ ?_)
      | (with_reducible refine LeO.bind ?_ (fun _ => ?_))
      | exact ih0 _ _ _
      | exact LeO.none _
      | refine LeO.ite ?_ ?_
      | refine LeO.bind ?_ (fun _ => ?_)
set_option maxHeartbeats 8000000 in
set_option maxRecDepth 100000 in
theorem credenzaref02_Root.calls (k : Nat) (a0 : Int) (r : Int) (w : World) (h : credenzaref02_Root.f k a0 = some r) :
    Calls Try.prog 52 #[.int .u64 a0] w fun e w' => e = .returned (.int .u64 r) ∧ Drawn0 w w' := by
  have H : (credenzaref02_Root.l0 k a0 0 4294967295) = some r := h
  clear h
  have H' := Aside0.mk H
  clear H
  go_enter Try.func52, Try.ntmps52
  go_wp2
  go_loopg [3, 4] k (fun kq v3 v4 w' => ∃ (x3_1 : Int) (x4_1 : Int), v3 = .int .u64 x3_1 ∧ v4 = .int .u64 x4_1 ∧ Aside0 (credenzaref02_Root.l0 kq a0 x3_1 x4_1 = some r) ∧ Aside0 (kq ≤ k) ∧ Drawn0 w w')
  case atStart => exact ⟨(0), (4294967295), (by first | rfl | (simp; done) | (simp [*]; done)), (by first | rfl | (simp; done) | (simp [*]; done)), H', ⟨Nat.le_refl _⟩, by repeat (first | exact Drawn0.refl _ | apply Drawn0.step)⟩
  case round =>
    clear H'
    obtain ⟨x3_1, x4_1, rfl, rfl, HA, HK1, ⟨m1, rfl⟩⟩ := hrel
    cases gk with
    | zero => exact absurd HA.out (by simp [credenzaref02_Root.l0])
    | succ k1 =>
      have H := HA.out
      clear HA
      simp only [credenzaref02_Root.l0] at H
      by_cases c2 : x3_1 < x4_1
      · rw [if_pos c2] at H
        have c2b0 : decide (x3_1 < x4_1) = true := decide_eq_true c2
        clear c2
        by_cases c3 : (IntKind.u64.wrap ((IntKind.u64.wrap (x3_1 + (IntKind.u64.wrap (Int.tdiv (IntKind.u64.wrap ((IntKind.u64.wrap (x4_1 - x3_1)) + 1)) 2)))) * (IntKind.u64.wrap (x3_1 + (IntKind.u64.wrap (Int.tdiv (IntKind.u64.wrap ((IntKind.u64.wrap (x4_1 - x3_1)) + 1)) 2)))))) ≤ a0
        · rw [if_pos c3] at H
          have c3b0 : decide ((IntKind.u64.wrap ((IntKind.u64.wrap (x3_1 + (IntKind.u64.wrap (Int.tdiv (IntKind.u64.wrap ((IntKind.u64.wrap (x4_1 - x3_1)) + 1)) 2)))) * (IntKind.u64.wrap (x3_1 + (IntKind.u64.wrap (Int.tdiv (IntKind.u64.wrap ((IntKind.u64.wrap (x4_1 - x3_1)) + 1)) 2)))))) ≤ a0) = true := decide_eq_true c3
          clear c3
          have H' := Aside0.mk H
          clear H
          go_wp2
          go_roundg k1
          case measure => have := HK1.out; omega
          case rel => exact ⟨(IntKind.u64.wrap (x3_1 + (IntKind.u64.wrap (Int.tdiv (IntKind.u64.wrap ((IntKind.u64.wrap (x4_1 - x3_1)) + 1)) 2)))), (x4_1), (by first | rfl | (simp; done) | (simp [*]; done)), (by first | rfl | (simp; done) | (simp [*]; done)), H', ⟨by have := HK1.out; omega⟩, by repeat (first | exact Drawn0.refl _ | apply Drawn0.step)⟩
        · rw [if_neg c3] at H
          have c3b0 : decide ((IntKind.u64.wrap ((IntKind.u64.wrap (x3_1 + (IntKind.u64.wrap (Int.tdiv (IntKind.u64.wrap ((IntKind.u64.wrap (x4_1 - x3_1)) + 1)) 2)))) * (IntKind.u64.wrap (x3_1 + (IntKind.u64.wrap (Int.tdiv (IntKind.u64.wrap ((IntKind.u64.wrap (x4_1 - x3_1)) + 1)) 2)))))) ≤ a0) = false := decide_eq_false c3
          clear c3
          have H' := Aside0.mk H
          clear H
          go_wp2
          go_roundg k1
          case measure => have := HK1.out; omega
          case rel => exact ⟨(x3_1), (IntKind.u64.wrap ((IntKind.u64.wrap (x3_1 + (IntKind.u64.wrap (Int.tdiv (IntKind.u64.wrap ((IntKind.u64.wrap (x4_1 - x3_1)) + 1)) 2)))) - 1)), (by first | rfl | (simp; done) | (simp [*]; done)), (by first | rfl | (simp; done) | (simp [*]; done)), H', ⟨by have := HK1.out; omega⟩, by repeat (first | exact Drawn0.refl _ | apply Drawn0.step)⟩
      · rw [if_neg c2] at H
        have c2b0 : decide (x3_1 < x4_1) = false := decide_eq_false c2
        clear c2
        obtain rfl := Option.some.inj H
        go_wp2
        go_ret
        exact ⟨by first | rfl | (simp; done) | (simp [*]; done), by repeat (first | exact Drawn0.refl _ | apply Drawn0.step)⟩

end Go.Proofs.Yteflolamihhmdaa.Q

namespace Go.Proofs.Yteflolamihhmdaa.Q
open Go.RowKit Go.Proofs.YteflolamihhmdaaW.PrintWords Go.Proofs.YteflolamihhmdaaW.PrintLast Go.Proofs.YteflolamihhmdaaW.PrintMore
attribute [local go_sem] max2_int min2_int max_two min_two max_three min_three max_four min_four   -- for this text's walks alone
set_option linter.unusedVariables false
set_option linter.unusedSimpArgs false

/-! ### credenzaref02_Rsqrt: function 31 -/
def credenzaref02_Rsqrt.f (k : Nat) (a0 : Int) : Option (Int) := if a0 < 1 then ((credenzaref02_Root.f k 281474976710656).bind fun t => (some (wrap32 (t)))) else (if a0 ≤ 9223372036854775807 then ((credenzaref02_Root.f k (281474976710656 / a0)).bind fun t => (some (wrap32 (t)))) else none)
theorem credenzaref02_Rsqrt.mono : ∀ a0 k, LeO (credenzaref02_Rsqrt.f k a0) (credenzaref02_Rsqrt.f (k + 1) a0) := by
  intro a0 k
  unfold credenzaref02_Rsqrt.f
  repeat' first
      | (with_reducible exact credenzaref02_Root.mono _ _)
      | (with_reducible exact LeO.refl _)
      | (with_reducible exact LeO.none _)
      | (with_reducible refine LeO.ite ?_ ?_)
      | (with_reducible refine LeO.bind ?_ (fun _ => ?_))
set_option maxHeartbeats 2000000 in
theorem credenzaref02_Rsqrt.calls (k : Nat) (a0 : Int) (r : Int) (w : World) (h : credenzaref02_Rsqrt.f k a0 = some r) :
    Calls Try.prog 31 #[.int .i64 a0] w fun e w' => e = .returned (.int .i32 r) ∧ Drawn0 w w' := by
  unfold credenzaref02_Rsqrt.f at h
  by_cases h0 : a0 < 1
  · rw [if_pos h0] at h
    obtain ⟨t, ht, h⟩ := Option.bind_eq_some_iff.1 h
    obtain rfl := Option.some.inj h
    have HT := Aside0.mk ht
    clear ht h
    go_enter Try.func31, Try.ntmps31
    go_wp2_with ((with_reducible refine (credenzaref02_Root.calls k 281474976710656 t _ HT.out).mono ?_); rintro e w' ⟨rfl, ⟨nd, rfl⟩⟩)
    go_ret
    exact ⟨rfl, ⟨_, rfl⟩⟩
  · rw [if_neg h0] at h
    by_cases h1 : a0 ≤ 9223372036854775807
    · rw [if_pos h1] at h
      obtain ⟨t, ht, h⟩ := Option.bind_eq_some_iff.1 h
      obtain rfl := Option.some.inj h
      have HT := Aside0.mk ht
      clear ht h
      have h2 : 1 ≤ a0 := by omega
      have h0b : decide (a0 < 1) = false := decide_eq_false h0
      clear h0
      go_enter Try.func31, Try.ntmps31
      go_wp2_with ((with_reducible refine (credenzaref02_Root.calls k (281474976710656 / a0) t _ HT.out).mono ?_); rintro e w' ⟨rfl, ⟨nd, rfl⟩⟩)
      go_ret
      exact ⟨rfl, ⟨_, rfl⟩⟩
    · rw [if_neg h1] at h
      exact absurd h (by simp)

end Go.Proofs.Yteflolamihhmdaa.Q

namespace Go.Proofs.Yteflolamihhmdaa.Q
open Go.RowKit Go.Proofs.YteflolamihhmdaaW.PrintWords Go.Proofs.YteflolamihhmdaaW.PrintLast Go.Proofs.YteflolamihhmdaaW.PrintMore
attribute [local go_sem] max2_int min2_int max_two min_two max_three min_three max_four min_four   -- for this text's walks alone
set_option linter.unusedVariables false
set_option linter.unusedSimpArgs false

/-! ### credenzaref14_Score: function 10 -/
def credenzaref14_Score.f (k : Nat) (l0 : List Int) (l1 : List Int) : Option (Int) := (credenzaref14_Narrow.f k l0).bind fun t205 => ((credenzaref14_Narrow.f k l1).bind fun t208 => ((credenzaref03_Dot.f k t205 t208).bind fun t211 => ((credenzaref01_Ratio.f t211 65536).bind fun t212 => ((credenzaref01_Wide.f t212).bind fun t213 => ((credenzaref02_Rsqrt.f k (wrap64 ((l0.length : Int) * 65536))).bind fun t214 => ((credenzaref01_Mul.f t213 t214).bind fun t215 => (some t215)))))))
theorem credenzaref14_Score.mono : ∀ a0 a1 k, LeO (credenzaref14_Score.f k a0 a1) (credenzaref14_Score.f (k + 1) a0 a1) := by
  intro a0 a1 k
  unfold credenzaref14_Score.f
  repeat' first
      | (with_reducible exact credenzaref02_Rsqrt.mono _ _)
      | (with_reducible exact credenzaref03_Dot.mono _ _ _)
      | (with_reducible exact credenzaref14_Narrow.mono _ _)
      | (with_reducible exact LeO.refl _)
      | (with_reducible exact LeO.none _)
      | (with_reducible refine LeO.ite ?_ ?_)
      | (with_reducible refine LeO.bind ?_ (fun _ => ?_))
      | exact credenzaref02_Rsqrt.mono _ _
      | exact credenzaref03_Dot.mono _ _ _
      | exact credenzaref14_Narrow.mono _ _
      | exact LeO.none _
      | refine LeO.ite ?_ ?_
      | refine LeO.bind ?_ (fun _ => ?_)
set_option maxHeartbeats 8000000 in
set_option maxRecDepth 100000 in
theorem credenzaref14_Score.calls (k : Nat) (A0 : Option Addr) (c0 : Nat) (l0 : List Int) (A1 : Option Addr) (c1 : Nat) (l1 : List Int) (r : Int) (w : World) (hr0 : Kd.C (Kd.int .i32) w A0 l0.length l0) (hc0 : l0.length ≤ c0) (hr1 : Kd.C (Kd.int .i32) w A1 l1.length l1) (hc1 : l1.length ≤ c1) (h : credenzaref14_Score.f k l0 l1 = some r) :
    Calls Try.prog 10 #[.slice A0 l0.length c0, .slice A1 l1.length c1] w fun e w' => e = .returned (.int .i32 r) ∧ Below w.heap.size w w' := by
  have HR0 := Aside0.mk hr0
  have HC0 := Aside0.mk hc0
  clear hr0 hc0
  have HR1 := Aside0.mk hr1
  have HC1 := Aside0.mk hc1
  clear hr1 hc1
  have HB := Aside0.mk (Below.refl w.heap.size w)
  have H : ((credenzaref14_Narrow.f k l0).bind fun t205 => ((credenzaref14_Narrow.f k l1).bind fun t208 => ((credenzaref03_Dot.f k t205 t208).bind fun t211 => ((credenzaref01_Ratio.f t211 65536).bind fun t212 => ((credenzaref01_Wide.f t212).bind fun t213 => ((credenzaref02_Rsqrt.f k (wrap64 ((l0.length : Int) * 65536))).bind fun t214 => ((credenzaref01_Mul.f t213 t214).bind fun t215 => (some t215)))))))) = some r := h
  clear h
  replace H := Option.bind_eq_some_iff.mp H
  obtain ⟨t205, A30, H⟩ := H
  replace H : ((credenzaref14_Narrow.f k l1).bind fun t208 => ((credenzaref03_Dot.f k t205 t208).bind fun t211 => ((credenzaref01_Ratio.f t211 65536).bind fun t212 => ((credenzaref01_Wide.f t212).bind fun t213 => ((credenzaref02_Rsqrt.f k (wrap64 ((l0.length : Int) * 65536))).bind fun t214 => ((credenzaref01_Mul.f t213 t214).bind fun t215 => (some t215))))))) = some r := H
  have A3 := Aside0.mk A30
  clear A30
  replace H := Option.bind_eq_some_iff.mp H
  obtain ⟨t208, A40, H⟩ := H
  replace H : ((credenzaref03_Dot.f k t205 t208).bind fun t211 => ((credenzaref01_Ratio.f t211 65536).bind fun t212 => ((credenzaref01_Wide.f t212).bind fun t213 => ((credenzaref02_Rsqrt.f k (wrap64 ((l0.length : Int) * 65536))).bind fun t214 => ((credenzaref01_Mul.f t213 t214).bind fun t215 => (some t215)))))) = some r := H
  have A4 := Aside0.mk A40
  clear A40
  replace H := Option.bind_eq_some_iff.mp H
  obtain ⟨t211, A50, H⟩ := H
  replace H : ((credenzaref01_Ratio.f t211 65536).bind fun t212 => ((credenzaref01_Wide.f t212).bind fun t213 => ((credenzaref02_Rsqrt.f k (wrap64 ((l0.length : Int) * 65536))).bind fun t214 => ((credenzaref01_Mul.f t213 t214).bind fun t215 => (some t215))))) = some r := H
  have A5 := Aside0.mk A50
  clear A50
  replace H := Option.bind_eq_some_iff.mp H
  obtain ⟨t212, A60, H⟩ := H
  replace H : ((credenzaref01_Wide.f t212).bind fun t213 => ((credenzaref02_Rsqrt.f k (wrap64 ((l0.length : Int) * 65536))).bind fun t214 => ((credenzaref01_Mul.f t213 t214).bind fun t215 => (some t215)))) = some r := H
  have A6 := Aside0.mk A60
  clear A60
  replace H := Option.bind_eq_some_iff.mp H
  obtain ⟨t213, A70, H⟩ := H
  replace H : ((credenzaref02_Rsqrt.f k (wrap64 ((l0.length : Int) * 65536))).bind fun t214 => ((credenzaref01_Mul.f t213 t214).bind fun t215 => (some t215))) = some r := H
  have A7 := Aside0.mk A70
  clear A70
  replace H := Option.bind_eq_some_iff.mp H
  obtain ⟨t214, A80, H⟩ := H
  replace H : ((credenzaref01_Mul.f t213 t214).bind fun t215 => (some t215)) = some r := H
  have A8 := Aside0.mk A80
  clear A80
  replace H := Option.bind_eq_some_iff.mp H
  obtain ⟨t215, A90, H⟩ := H
  replace H : (some t215) = some r := H
  have A9 := Aside0.mk A90
  clear A90
  obtain rfl := Option.some.inj H
  go_enter Try.func10, Try.ntmps10
  go_wp2_with (first | ((with_reducible refine gate_callee (f := 16) rfl ?_); refine goesL_ (some 8) rfl rfl Try.func16 (by kernel_rfl) rfl #[.slice A0 l0.length c0] rfl (by (try simp only [List.map_toArray, List.map_cons, List.map_nil]); first | done | rfl | (simp only [List.length_drop, List.length_take]; rfl)) ?_; (with_reducible refine (credenzaref14_Narrow.calls k _ _ l0 t205 _ ?side1 ?side2 A3.out).mono ?_); (case side1 => repeat (first | exact HR0.out | (with_reducible refine Kd.C_alloc ?_ _) | (with_reducible refine Kd.C_drewN ?_ _) | (with_reducible refine Kd.C_drew ?_))); (case side2 => exact HC0.out); rintro e w10 ⟨v206, rfl, ho0, hb⟩; refine ⟨_, rfl, ?_⟩; have n0_ := Aside0.mk (Kd.R_lower ho0 (below_size (by repeat (first | (with_reducible first | exact HB.out | apply below_alloc | apply pw_below_drewN | apply below_drew1) | exact HB.out)))); have n1_ := Aside0.mk (below_step (by repeat (first | (with_reducible first | exact HB.out | apply below_alloc | apply pw_below_drewN | apply below_drew1) | exact HB.out)) hb); clear HB; have HO207 := n0_; have HB := n1_; clear n0_ n1_; (try clear hb); (try clear hb2); (try clear hk); (try clear hi); (try clear ho0)) | ((with_reducible refine gate_callee (f := 16) rfl ?_); refine goesL_ (some 10) rfl rfl Try.func16 (by kernel_rfl) rfl #[.slice A1 l1.length c1] rfl (by (try simp only [List.map_toArray, List.map_cons, List.map_nil]); first | done | rfl | (simp only [List.length_drop, List.length_take]; rfl)) ?_; (with_reducible refine (credenzaref14_Narrow.calls k _ _ l1 t208 _ ?side1 ?side2 A4.out).mono ?_); (case side1 => repeat (first | exact (Kd.C_below HR1.out HB.out) | (with_reducible refine Kd.C_alloc ?_ _) | (with_reducible refine Kd.C_drewN ?_ _) | (with_reducible refine Kd.C_drew ?_))); (case side2 => exact HC1.out); rintro e w11 ⟨v209, rfl, ho0, hb⟩; refine ⟨_, rfl, ?_⟩; have n0_ := Aside0.mk (Kd.R_elder' (by (with_reducible repeat (first | apply Kd.R_alloc | apply Kd.R_drewN | apply Kd.R_drew)); exact HO207.out) (Kd.R_base ho0) hb); have n1_ := Aside0.mk (Kd.R_lower (Kd.R_new' ho0 (Kd.R_lt (by (with_reducible repeat (first | apply Kd.R_alloc | apply Kd.R_drewN | apply Kd.R_drew)); exact HO207.out))) (below_size (by repeat (first | (with_reducible first | exact HB.out | apply below_alloc | apply pw_below_drewN | apply below_drew1) | exact HB.out)))); have n2_ := Aside0.mk (below_step (by repeat (first | (with_reducible first | exact HB.out | apply below_alloc | apply pw_below_drewN | apply below_drew1) | exact HB.out)) hb); clear HO207; clear HB; have HO207 := n0_; have HO210 := n1_; have HB := n2_; clear n0_ n1_ n2_; (try clear hb); (try clear hb2); (try clear hk); (try clear hi); (try clear ho0); obtain ⟨Ao12, co12, eo12⟩ := Kd.R_slice HO207.out; subst eo12; obtain ⟨Ao13, co13, eo13⟩ := Kd.R_slice HO210.out; subst eo13) | ((with_reducible refine gate_callee (f := 27) rfl ?_); refine goesL_ (some 11) rfl rfl Try.func27 (by kernel_rfl) rfl #[.slice Ao12 t205.length co12, .slice Ao13 t208.length co13] rfl (by (try simp only [List.map_toArray, List.map_cons, List.map_nil]); first | done | rfl | (simp only [List.length_drop, List.length_take]; rfl)) ?_; (with_reducible refine (credenzaref03_Dot.calls k _ _ t205 _ _ t208 t211 _ ?side1 ?side2 ?side3 ?side4 A5.out).mono ?_); (case side1 => repeat (first | exact (Kd.R_reads' HO207.out).2.2 | (with_reducible refine Kd.C_alloc ?_ _) | (with_reducible refine Kd.C_drewN ?_ _) | (with_reducible refine Kd.C_drew ?_))); (case side2 => exact (Kd.R_reads' HO207.out).2.1); (case side3 => repeat (first | exact (Kd.R_reads' HO210.out).2.2 | (with_reducible refine Kd.C_alloc ?_ _) | (with_reducible refine Kd.C_drewN ?_ _) | (with_reducible refine Kd.C_drew ?_))); (case side4 => exact (Kd.R_reads' HO210.out).2.1); rintro e w' ⟨rfl, ⟨nd, rfl⟩⟩; refine ⟨_, rfl, ?_⟩) | ((with_reducible refine gate_callee (f := 29) rfl ?_); refine goesL_ (some 13) rfl rfl Try.func29 (by kernel_rfl) rfl #[.int .i64 t211, .int .i64 65536] rfl (by (try simp only [List.map_toArray, List.map_cons, List.map_nil]); first | done | rfl | (simp only [List.length_drop, List.length_take]; rfl)) ?_; (with_reducible refine (credenzaref01_Ratio.calls t211 65536 t212 _ A6.out).mono ?_); rintro e w' ⟨rfl, ⟨nd, rfl⟩⟩; refine ⟨_, rfl, ?_⟩) | ((with_reducible refine gate_callee (f := 28) rfl ?_); refine goesL_ (some 14) rfl rfl Try.func28 (by kernel_rfl) rfl #[.int .i64 t212] rfl (by (try simp only [List.map_toArray, List.map_cons, List.map_nil]); first | done | rfl | (simp only [List.length_drop, List.length_take]; rfl)) ?_; (with_reducible refine (credenzaref01_Wide.calls t212 t213 _ A7.out).mono ?_); rintro e w' ⟨rfl, ⟨nd, rfl⟩⟩; refine ⟨_, rfl, ?_⟩) | ((with_reducible refine gate_callee (f := 31) rfl ?_); refine goesL_ (some 19) rfl rfl Try.func31 (by kernel_rfl) rfl #[.int .i64 (wrap64 ((l0.length : Int) * 65536))] rfl (by (try simp only [List.map_toArray, List.map_cons, List.map_nil]); first | done | rfl | (simp only [List.length_drop, List.length_take]; rfl)) ?_; (with_reducible refine (credenzaref02_Rsqrt.calls k (wrap64 ((l0.length : Int) * 65536)) t214 _ A8.out).mono ?_); rintro e w' ⟨rfl, ⟨nd, rfl⟩⟩; refine ⟨_, rfl, ?_⟩) | ((with_reducible refine gate_callee (f := 30) rfl ?_); refine goesL_ (some 20) rfl rfl Try.func30 (by kernel_rfl) rfl #[.int .i32 t213, .int .i32 t214] rfl (by (try simp only [List.map_toArray, List.map_cons, List.map_nil]); first | done | rfl | (simp only [List.length_drop, List.length_take]; rfl)) ?_; (with_reducible refine (credenzaref01_Mul.calls t213 t214 t215 _ A9.out).mono ?_); rintro e w' ⟨rfl, ⟨nd, rfl⟩⟩; refine ⟨_, rfl, ?_⟩))
  go_ret
  exact ⟨by first | rfl | (simp [errW_none, errW_some] <;> rfl) | (simp [*, errW_none, errW_some] <;> rfl), by repeat (first | (with_reducible first | exact HB.out | apply below_alloc | apply pw_below_drewN | apply below_drew1) | exact HB.out)⟩

end Go.Proofs.Yteflolamihhmdaa.Q

namespace Go.Proofs.Yteflolamihhmdaa.Pure
open Go.RowKit Go.Proofs.Yteflolamihhmdaa.Q Go.Proofs.YteflolamihhmdaaW.PrintWords Go.Proofs.YteflolamihhmdaaW.PrintLast

def I32 (x : Int) : Prop := -2147483648 ≤ x ∧ x ≤ 2147483647
def A32 (l : List Int) : Prop := ∀ x ∈ l, I32 x
def nars (l : List Int) : List Int := l.map narR
/-- all are narrow -/
def NB (l : List Int) : Prop := ∀ x ∈ l, -8388608 ≤ x ∧ x ≤ 8388608
theorem nars_nb (l : List Int) : NB (nars l) := by
  intro x hx
  obtain ⟨y, _, rfl⟩ := List.mem_map.1 hx
  exact narR_bd y
theorem nars_length (l : List Int) : (nars l).length = l.length := by simp [nars]
theorem rd_at {l : List Int} {p : Nat} (h : p < l.length) : rd l (p : Int) = l[p] := by simp [rd, List.getD_eq_getElem?_getD, List.getElem?_eq_getElem h]
theorem rd_mem {l : List Int} {p : Nat} (h : p < l.length) : rd l (p : Int) ∈ l := by rw [rd_at h]; exact List.getElem_mem h
theorem drop_rd {l : List Int} {p : Nat} (h : p < l.length) : l.drop p = rd l (p : Int) :: l.drop (p + 1) := by rw [rd_at h]; exact List.drop_eq_getElem_cons h
theorem take_rd {l : List Int} {p : Nat} (h : p < l.length) : l.take (p + 1) = l.take p ++ [rd l (p : Int)] := by rw [rd_at h, List.take_succ_eq_append_getElem h]
theorem wnext {p n : Nat} (h : p < n) (hn : n ≤ 4611686018427387904) : wrap64 ((p : Int) + 1) = ((p + 1 : Nat) : Int) := by rw [w64 (by omega) (by omega)]; omega
theorem A32.narrow {l : List Int} (h : NB l) : A32 l := fun x hx => by have := h x hx; exact ⟨by omega, by omega⟩

theorem attn_narrow_some {x : Int} (hx : I32 x) : attn_narrow.f x = some (narR x) := by
  have hb := narR_bd x
  unfold I32 at hx
  unfold attn_narrow.f
  rw [w64 (x := x) (by omega) (by omega), fix_Narrow_some]
  simp only [Option.bind_some]
  rw [w64 (by omega) (by omega)]
theorem cut_loop (l : List Int) (hl : l.length ≤ 70368744177664) (hw : A32 l) : ∀ (d k p : Nat), p + d = l.length → d < k → attn_cut.l0 k (nars (l.take p) ++ List.replicate d 0) l (l.length : Int) (p : Int) = some (nars l) := by
  intro d
  induction d with
  | zero =>
    intro k p hp hk
    obtain ⟨k, rfl⟩ : ∃ m, k = m + 1 := ⟨k - 1, by omega⟩
    simp only [attn_cut.l0]
    rw [if_neg (by omega), List.take_of_length_le (by omega)]
    simp
  | succ d ih =>
    intro k p hp hk
    obtain ⟨k, rfl⟩ : ∃ m, k = m + 1 := ⟨k - 1, by omega⟩
    have hlt : p < l.length := by omega
    have hn := narR_bd (rd l (p : Int))
    simp only [attn_cut.l0]
    rw [if_pos (by omega), if_pos (by omega), if_pos (by omega), attn_narrow_some (hw _ (rd_mem hlt))]
    simp only [Option.bind_some]
    have hpl : (nars (l.take p)).length = p := by rw [nars_length, List.length_take]; omega
    rw [if_pos (by simp [hpl]; omega), wnext hlt (by omega), w32 (x := narR _) (by omega) (by omega), Int.toNat_natCast]
    have e : (nars (l.take p) ++ List.replicate (d + 1) 0).set p (narR (rd l (p : Int))) = nars (l.take (p + 1)) ++ List.replicate d 0 := by
      rw [List.set_append_right _ _ (by omega), hpl, Nat.sub_self, List.replicate_succ, List.set_cons_zero, take_rd hlt]
      simp [nars]
    rw [e]
    exact ih k (p + 1) (by omega) (by omega)
theorem attn_cut_some (l : List Int) (hl : l.length ≤ 70368744177664) (hw : A32 l) {k : Nat} (hk : l.length < k) : attn_cut.f k l = some (nars l) := by
  unfold attn_cut.f
  rw [if_pos (by omega), if_pos (by omega), Int.toNat_natCast]
  exact cut_loop l hl hw l.length k 0 (by omega) hk
theorem ref_Narrow_loop (l : List Int) (hl : l.length ≤ 1000000) (hw : A32 l) : ∀ (d k p : Nat), p + d = l.length → d < k → credenzaref14_Narrow.l0 k l (nars (l.take p)) (p : Int) = some (nars l) := by
  intro d
  induction d with
  | zero =>
    intro k p hp hk
    obtain ⟨k, rfl⟩ : ∃ m, k = m + 1 := ⟨k - 1, by omega⟩
    simp only [credenzaref14_Narrow.l0]
    rw [if_neg (by omega), List.take_of_length_le (by omega)]
  | succ d ih =>
    intro k p hp hk
    obtain ⟨k, rfl⟩ : ∃ m, k = m + 1 := ⟨k - 1, by omega⟩
    have hlt : p < l.length := by omega
    have hx := hw _ (rd_mem hlt)
    unfold I32 at hx
    simp only [credenzaref14_Narrow.l0]
    rw [if_pos (by omega), if_pos (by omega), w64 (x := rd l (p : Int)) (by omega) (by omega), ref_Narrow_some]
    simp only [Option.bind_some]
    have hpl : (nars (l.take p)).length = p := by rw [nars_length, List.length_take]; omega
    rw [if_pos (by omega), wnext hlt (by omega), show nars (l.take p) ++ [narR (rd l (p : Int))] = nars (l.take (p + 1)) by rw [take_rd hlt]; simp [nars]]
    exact ih k (p + 1) (by omega) (by omega)
theorem ref_Narrow_some' (l : List Int) (hl : l.length ≤ 1000000) (hw : A32 l) {k : Nat} (hk : l.length < k) : credenzaref14_Narrow.f k l = some (nars l) :=
  ref_Narrow_loop l hl hw l.length k 0 (by omega) hk

/-- the sum of the products -/
def dotR : List Int → List Int → Int
  | a :: xs, b :: ys => a * b + dotR xs ys
  | _, _ => 0
theorem dotR_comm : ∀ a b : List Int, dotR a b = dotR b a
  | [], [] => rfl
  | [], _ :: _ => rfl
  | _ :: _, [] => rfl
  | x :: a, y :: b => by simp only [dotR]; rw [Int.mul_comm, dotR_comm a b]
theorem nb_mul {x y : Int} (h1 : -8388608 ≤ x ∧ x ≤ 8388608) (h2 : -8388608 ≤ y ∧ y ≤ 8388608) : -70368744177664 ≤ x * y ∧ x * y ≤ 70368744177664 := mul_bd (A := 8388608) (B := 8388608) h1.1 h1.2 h2.1 h2.2
theorem dotR_bd : ∀ {a b : List Int} (_ : NB a) (_ : NB b), -(a.length * 70368744177664 : Int) ≤ dotR a b ∧ dotR a b ≤ a.length * 70368744177664
  | [], b, _, _ => by simp [dotR]
  | x :: a, [], _, _ => by simp only [dotR, List.length_cons]; omega
  | x :: a, y :: b, ha, hb => by
    have h1 := nb_mul (ha x (by simp)) (hb y (by simp))
    have h2 := dotR_bd (a := a) (b := b) (fun z hz => ha z (by simp [hz])) (fun z hz => hb z (by simp [hz]))
    simp only [dotR, List.length_cons]
    omega
theorem dot_loop (a b : List Int) (hl : a.length = b.length) (hn : a.length ≤ 1024) (ha : NB a) (hb : NB b) : ∀ (d k p : Nat) (s : Int), p + d = a.length → d < k → -(p * 70368744177664 : Int) ≤ s → s ≤ p * 70368744177664 → dot_Dot.l0 k b s a (a.length : Int) (p : Int) = some (s + dotR (a.drop p) (b.drop p), 0) := by
  intro d
  induction d with
  | zero =>
    intro k p s hp hk h1 h2
    obtain ⟨k, rfl⟩ : ∃ m, k = m + 1 := ⟨k - 1, by omega⟩
    simp only [dot_Dot.l0]
    rw [if_neg (by omega), List.drop_eq_nil_of_le (by omega)]
    simp [dotR]
  | succ d ih =>
    intro k p s hp hk h1 h2
    obtain ⟨k, rfl⟩ : ∃ m, k = m + 1 := ⟨k - 1, by omega⟩
    have hlt : p < a.length := by omega
    have hlt2 : p < b.length := by omega
    have hx := ha _ (rd_mem hlt)
    have hy := hb _ (rd_mem hlt2)
    have hm := nb_mul hx hy
    simp only [dot_Dot.l0]
    rw [if_pos (by omega), if_pos (by omega), if_pos (by omega), if_pos (by omega), wnext hlt (by omega), w64 (x := rd a (p : Int)) (by omega) (by omega), w64 (x := rd b (p : Int)) (by omega) (by omega), drop_rd hlt, drop_rd hlt2]
    simp only [dotR]
    generalize rd a (p : Int) * rd b (p : Int) = m at *
    rw [w64 (x := m) (by omega) (by omega), w64 (x := s + m) (by omega) (by omega)]
    rw [ih k (p + 1) (s + m) (by omega) (by omega) (by omega) (by omega)]
    congr 2
    omega
theorem ref_dot_loop (a b : List Int) (hl : a.length = b.length) (hn : a.length ≤ 1024) (ha : NB a) (hb : NB b) : ∀ (d k p : Nat) (s : Int), p + d = a.length → d < k → -(p * 70368744177664 : Int) ≤ s → s ≤ p * 70368744177664 → credenzaref03_Dot.l0 k a b s (p : Int) = some (s + dotR (a.drop p) (b.drop p)) := by
  intro d
  induction d with
  | zero =>
    intro k p s hp hk h1 h2
    obtain ⟨k, rfl⟩ : ∃ m, k = m + 1 := ⟨k - 1, by omega⟩
    simp only [credenzaref03_Dot.l0]
    rw [if_neg (by omega), List.drop_eq_nil_of_le (by omega)]
    simp [dotR]
  | succ d ih =>
    intro k p s hp hk h1 h2
    obtain ⟨k, rfl⟩ : ∃ m, k = m + 1 := ⟨k - 1, by omega⟩
    have hlt : p < a.length := by omega
    have hlt2 : p < b.length := by omega
    have hx := ha _ (rd_mem hlt)
    have hy := hb _ (rd_mem hlt2)
    have hm := nb_mul hx hy
    simp only [credenzaref03_Dot.l0]
    rw [if_pos (by omega), if_pos (by omega), if_pos (by omega), wnext hlt (by omega), w64 (x := rd a (p : Int)) (by omega) (by omega), w64 (x := rd b (p : Int)) (by omega) (by omega), drop_rd hlt, drop_rd hlt2]
    simp only [dotR]
    generalize rd a (p : Int) * rd b (p : Int) = m at *
    rw [w64 (x := m) (by omega) (by omega), w64 (x := s + m) (by omega) (by omega)]
    rw [ih k (p + 1) (s + m) (by omega) (by omega) (by omega) (by omega)]
    congr 1
    omega
theorem mild_nb {l : List Int} (h : NB l) (hn : l.length ≤ 1024) : dot_Mild.f l = some true := by
  have h2 : l.any dot_Mild.wild = false := by
    rw [List.any_eq_false]
    intro x hx
    have := h x hx
    unfold dot_Mild.wild
    simp
    omega
  unfold dot_Mild.f
  rw [h2]
  simp [hn]
theorem dot_Dot_some {a b : List Int} (hl : a.length = b.length) (hn : a.length ≤ 1024) (ha : NB a) (hb : NB b) {k : Nat} (hk : a.length + 1 < k) : dot_Dot.f k a b = some (dotR a b, 0) := by
  obtain ⟨k, rfl⟩ : ∃ m, k = m + 1 := ⟨k - 1, by omega⟩
  unfold dot_Dot.f dot_shape.f
  rw [if_pos (by omega), if_neg (by omega)]
  simp only [Option.bind_some, if_true]
  rw [mild_nb ha hn, mild_nb hb (by omega)]
  simp only [Option.bind_some, if_true, Bool.not_true]
  have e : dot_Dot.j0 (k + 1) a b false = dot_Dot.l0 k b 0 a (a.length : Int) 0 := by rw [dot_Dot.j0, if_neg (by simp)]
  rw [e]
  have := dot_loop a b hl hn ha hb a.length k 0 0 (by omega) (by omega) (by omega) (by omega)
  simpa using this
theorem ref_Dot_some {a b : List Int} (hl : a.length = b.length) (hn : a.length ≤ 1024) (ha : NB a) (hb : NB b) {k : Nat} (hk : a.length < k) : credenzaref03_Dot.f k a b = some (dotR a b) := by
  unfold credenzaref03_Dot.f
  have := ref_dot_loop a b hl hn ha hb a.length k 0 0 (by omega) (by omega) (by omega) (by omega)
  simpa using this
theorem sum_loop (key : List Int) (hk : A32 key) : ∀ (q : List Int) (p : Nat) (s : Int), p + q.length ≤ key.length → p + q.length ≤ 1024 → NB q → -(p * 70368744177664 : Int) ≤ s → s ≤ p * 70368744177664 → attn_sum.l key q p s = some (s + dotR q (nars (key.drop p))) := by
  intro q
  induction q with
  | nil =>
    intro p s _ _ _ _ _
    rw [attn_sum.l, dotR]
    · simp
    · intro a xs b ys h
      cases h
  | cons x q ih =>
    intro p s h1 h2 hq h3 h4
    simp only [List.length_cons] at h1 h2
    have hlt : p < key.length := by omega
    have hx := hq x (by simp)
    have hm := nb_mul hx (narR_bd (rd key (p : Int)))
    simp only [attn_sum.l]
    rw [if_pos hlt, attn_narrow_some (hk _ (rd_mem hlt)), drop_rd hlt]
    simp only [Option.bind_some, nars, List.map_cons, dotR]
    generalize narR (rd key (p : Int)) = y at *
    rw [w64 (x := x) (by omega) (by omega), w64 (x := x * y) (by omega) (by omega)]
    generalize x * y = m at *
    rw [w64 (x := s + m) (by omega) (by omega)]
    rw [ih (p + 1) (s + m) (by omega) (by omega) (fun z hz => hq z (by simp [hz])) (by omega) (by omega)]
    simp only [nars]
    congr 1
    omega

/-- one by the root of n, with 16 bits behind the point -/
def rsT : List Int := [0, 65536, 46340, 37837, 32768, 29308, 26754, 24770, 23170, 21845, 20724, 19759, 18918, 18176, 17515, 16921, 16384]
def rsR (n : Nat) : Int := rsT.getD n 0
def rsOk (n : Nat) : Prop := expo_Rsqrt.f 40 ((n : Nat) * 65536 : Int) = some (rsR n) ∧ credenzaref02_Rsqrt.f 40 ((n : Nat) * 65536 : Int) = some (rsR n) ∧ 0 ≤ rsR n ∧ rsR n ≤ 65536
theorem rs_1 : rsOk 1 := ⟨by kernel_rfl, by kernel_rfl, by decide, by decide⟩
theorem rs_2 : rsOk 2 := ⟨by kernel_rfl, by kernel_rfl, by decide, by decide⟩
theorem rs_3 : rsOk 3 := ⟨by kernel_rfl, by kernel_rfl, by decide, by decide⟩
theorem rs_4 : rsOk 4 := ⟨by kernel_rfl, by kernel_rfl, by decide, by decide⟩
theorem rs_5 : rsOk 5 := ⟨by kernel_rfl, by kernel_rfl, by decide, by decide⟩
theorem rs_6 : rsOk 6 := ⟨by kernel_rfl, by kernel_rfl, by decide, by decide⟩
theorem rs_7 : rsOk 7 := ⟨by kernel_rfl, by kernel_rfl, by decide, by decide⟩
theorem rs_8 : rsOk 8 := ⟨by kernel_rfl, by kernel_rfl, by decide, by decide⟩
theorem rs_9 : rsOk 9 := ⟨by kernel_rfl, by kernel_rfl, by decide, by decide⟩
theorem rs_10 : rsOk 10 := ⟨by kernel_rfl, by kernel_rfl, by decide, by decide⟩
theorem rs_11 : rsOk 11 := ⟨by kernel_rfl, by kernel_rfl, by decide, by decide⟩
theorem rs_12 : rsOk 12 := ⟨by kernel_rfl, by kernel_rfl, by decide, by decide⟩
theorem rs_13 : rsOk 13 := ⟨by kernel_rfl, by kernel_rfl, by decide, by decide⟩
theorem rs_14 : rsOk 14 := ⟨by kernel_rfl, by kernel_rfl, by decide, by decide⟩
theorem rs_15 : rsOk 15 := ⟨by kernel_rfl, by kernel_rfl, by decide, by decide⟩
theorem rs_16 : rsOk 16 := ⟨by kernel_rfl, by kernel_rfl, by decide, by decide⟩
theorem rs_some {n : Nat} (h1 : 1 ≤ n) (h2 : n ≤ 16) {k : Nat} (hk : 40 ≤ k) : expo_Rsqrt.f k ((n : Int) * 65536) = some (rsR n) ∧ credenzaref02_Rsqrt.f k ((n : Int) * 65536) = some (rsR n) ∧ 0 ≤ rsR n ∧ rsR n ≤ 65536 := by
  have hm : rsOk n := by
    match n, h1, h2 with
    | 1, _, _ => exact rs_1
    | 2, _, _ => exact rs_2
    | 3, _, _ => exact rs_3
    | 4, _, _ => exact rs_4
    | 5, _, _ => exact rs_5
    | 6, _, _ => exact rs_6
    | 7, _, _ => exact rs_7
    | 8, _, _ => exact rs_8
    | 9, _, _ => exact rs_9
    | 10, _, _ => exact rs_10
    | 11, _, _ => exact rs_11
    | 12, _, _ => exact rs_12
    | 13, _, _ => exact rs_13
    | 14, _, _ => exact rs_14
    | 15, _, _ => exact rs_15
    | 16, _, _ => exact rs_16
    | n + 17, _, h => exact absurd h (by omega)
  obtain ⟨ha, hb, hc⟩ := hm
  exact ⟨at_rounds (expo_Rsqrt.mono _) hk ha, at_rounds (credenzaref02_Rsqrt.mono _) hk hb, hc⟩
end Go.Proofs.Yteflolamihhmdaa.Pure

namespace Go.Proofs.Yteflolamihhmdaa.Pure
open Go.RowKit Go.Proofs.Yteflolamihhmdaa.Q Go.Proofs.YteflolamihhmdaaW.PrintWords Go.Proofs.YteflolamihhmdaaW.PrintLast

/-- a sum of products as a score -/
def scaledR (s : Int) (n : Nat) : Int := mulR (wideR (rnd s 65536)) (rsR n)
def scoreR (q key : List Int) : Int := scaledR (dotR (nars q) (nars key)) q.length
theorem attn_scaled_some {s : Int} {n : Nat} (h1 : 1 ≤ n) (h2 : n ≤ 16) (hs1 : -4611686018427387904 ≤ s) (hs2 : s ≤ 4611686018427387904) {k : Nat} (hk : 40 ≤ k) : attn_scaled.f k s (n : Int) = some (scaledR s n) := by
  obtain ⟨ha, _, hb, hc⟩ := rs_some h1 h2 hk
  have hw := wideR_bd (rnd s 65536)
  have e1 := fix_Half_16 hs1 hs2
  have e2 := fix_Wide_some (rnd s 65536)
  have e3 : wrap64 ((n : Int) * 65536) = (n : Int) * 65536 := w64 (by omega) (by omega)
  have e4 : fix_Mul.f (wideR (rnd s 65536)) (rsR n) = some (mulR (wideR (rnd s 65536)) (rsR n)) := fix_Mul_some hw.1 hw.2 (by omega) (by omega)
  rw [attn_scaled.f, e1, Option.bind_some, e2, Option.bind_some, e3, ha, Option.bind_some, e4, Option.bind_some, scaledR]
theorem attn_Score_some {q key : List Int} (hl : q.length = key.length) (h1 : 1 ≤ q.length) (h2 : q.length ≤ 16) (hq : A32 q) (hk : A32 key) {k : Nat} (hkk : 50 ≤ k) : attn_Score.f k q key = some (scoreR q key, 0) := by
  obtain ⟨k, rfl⟩ : ∃ m, k = m + 1 := ⟨k - 1, by omega⟩
  have hb := dotR_bd (nars_nb q) (nars_nb key)
  rw [nars_length] at hb
  have e0 : attn_sized.f (q.length : Int) = some true := by unfold attn_sized.f; rw [if_pos (by omega), decide_eq_true (by omega)]
  have e1 := attn_cut_some q (by omega) hq (k := k) (by omega)
  have e2 := attn_cut_some key (by omega) hk (k := k) (by omega)
  have e3 := dot_Dot_some (a := nars q) (b := nars key) (by rw [nars_length, nars_length]; exact hl) (by rw [nars_length]; omega) (nars_nb q) (nars_nb key) (k := k) (by rw [nars_length]; omega)
  have e4 := attn_scaled_some (s := dotR (nars q) (nars key)) h1 h2 (by omega) (by omega) (k := k) (by omega)
  rw [attn_Score.f, if_pos (by omega), e0, Option.bind_some, Bool.not_true, attn_Score.j0, if_neg (by simp), e1, Option.bind_some, e2, Option.bind_some, e3, Option.bind_some, if_pos rfl, e4, Option.bind_some, scoreR]
theorem attn_Score_no {q key : List Int} (h : ¬ (q.length = key.length ∧ 1 ≤ q.length ∧ q.length ≤ 16)) {k : Nat} (hkk : 1 ≤ k) : attn_Score.f k q key = some (0, 25) := by
  obtain ⟨k, rfl⟩ : ∃ m, k = m + 1 := ⟨k - 1, by omega⟩
  unfold attn_Score.f attn_sized.f
  by_cases c1 : q.length = key.length
  · rw [if_pos (by omega)]
    by_cases c2 : 1 ≤ q.length
    · rw [if_pos (by omega), decide_eq_false (show ¬ (q.length : Int) ≤ 16 by omega)]
      simp [attn_Score.j0]
    · rw [if_neg (by omega)]
      simp [attn_Score.j0]
  · rw [if_neg (by omega)]
    simp [attn_Score.j0]
theorem ref_Score_some {q key : List Int} (hl : q.length = key.length) (h1 : 1 ≤ q.length) (h2 : q.length ≤ 16) (hq : A32 q) (hk : A32 key) {k : Nat} (hkk : 50 ≤ k) : credenzaref14_Score.f k q key = some (scoreR q key) := by
  have hb := dotR_bd (nars_nb q) (nars_nb key)
  rw [nars_length] at hb
  obtain ⟨_, ha, hc, hd⟩ := rs_some h1 h2 (k := k) (by omega)
  have hw := wideR_bd (rnd (dotR (nars q) (nars key)) 65536)
  have e1 := ref_Narrow_some' q (by omega) hq (k := k) (by omega)
  have e2 := ref_Narrow_some' key (by omega) hk (k := k) (by omega)
  have e3 := ref_Dot_some (a := nars q) (b := nars key) (by rw [nars_length, nars_length]; exact hl) (by rw [nars_length]; omega) (nars_nb q) (nars_nb key) (k := k) (by rw [nars_length]; omega)
  have e4 : credenzaref01_Ratio.f (dotR (nars q) (nars key)) 65536 = some (rnd (dotR (nars q) (nars key)) 65536) := ref_Ratio_some (by omega) (by omega) (by omega) (by omega)
  have e5 := ref_Wide_some (rnd (dotR (nars q) (nars key)) 65536)
  have e6 : wrap64 ((q.length : Int) * 65536) = (q.length : Int) * 65536 := w64 (by omega) (by omega)
  have e7 : credenzaref01_Mul.f (wideR (rnd (dotR (nars q) (nars key)) 65536)) (rsR q.length) = some (mulR (wideR (rnd (dotR (nars q) (nars key)) 65536)) (rsR q.length)) := ref_Mul_some hw.1 hw.2 (by omega) (by omega)
  rw [credenzaref14_Score.f, e1, Option.bind_some, e2, Option.bind_some, e3, Option.bind_some, e4, Option.bind_some, e5, Option.bind_some, e6, ha, Option.bind_some, e7, Option.bind_some, scoreR, scaledR]
theorem scoreR_comm {q key : List Int} (hl : q.length = key.length) : scoreR q key = scoreR key q := by unfold scoreR; rw [dotR_comm, hl]
end Go.Proofs.Yteflolamihhmdaa.Pure

namespace Go.Proofs.Yteflolamihhmdaa.Q
open Go.RowKit Go.Proofs.YteflolamihhmdaaW.PrintWords Go.Proofs.YteflolamihhmdaaW.PrintLast Go.Proofs.YteflolamihhmdaaW.PrintMore
attribute [local go_sem] max2_int min2_int max_two min_two max_three min_three max_four min_four   -- for this text's walks alone
set_option linter.unusedVariables false
set_option linter.unusedSimpArgs false

/-! ### slices_Max_int32_int32: function 78 -/
def slices_Max_int32_int32.l0 : Nat → List Int → Int → Int → Option (Int)
  | 0, _, _, _ => none
  | k + 1, x0, x3, x4 => if x4 < (x0.length : Int) then (if 0 ≤ x4 then (slices_Max_int32_int32.l0 k x0 (mx x3 (rd x0 x4)) (wrap64 (x4 + 1))) else (none)) else (some x3)
def slices_Max_int32_int32.f (k : Nat) (l0 : List Int) : Option (Int) := if (l0.length : Int) < 1 then (none) else (if 0 < (l0.length : Int) then (slices_Max_int32_int32.l0 k l0 (rd l0 0) 1) else (none))
theorem slices_Max_int32_int32.mono_l : ∀ k, (∀ y0 y1 y2, LeO (slices_Max_int32_int32.l0 k y0 y1 y2) (slices_Max_int32_int32.l0 (k + 1) y0 y1 y2))
  | 0 => fun _ _ _ r h => by simp [slices_Max_int32_int32.l0] at h
  | k + 1 => by
    have ih0 := slices_Max_int32_int32.mono_l k
    · intro y0 y1 y2
      unfold slices_Max_int32_int32.l0
      repeat' first
      | (with_reducible exact ih0 _ _ _)
      | (with_reducible exact LeO.refl _)
      | (with_reducible exact LeO.none _)
      | (with_reducible refine LeO.ite ?_ ?_)
      | (with_reducible refine LeO.bind ?_ (fun _ => ?_))
      | exact ih0 _ _ _
      | exact LeO.none _
      | refine LeO.ite ?_ ?_
      | refine LeO.bind ?_ (fun _ => ?_)
theorem slices_Max_int32_int32.mono : ∀ a0 k, LeO (slices_Max_int32_int32.f k a0) (slices_Max_int32_int32.f (k + 1) a0) := by
  intro a0 k
  have ih0 := slices_Max_int32_int32.mono_l k
  unfold slices_Max_int32_int32.f
  repeat' first
      | (with_reducible exact ih0 _ _ _)
      | (with_reducible exact LeO.refl _)
      | (with_reducible exact LeO.none _)
      | (with_reducible refine LeO.ite ?_ ?_)
      | (with_reducible refine LeO.bind ?_ (fun _ => ?_))
      | exact ih0 _ _ _
      | exact LeO.none _
      | refine LeO.ite ?_ ?_
      | refine LeO.bind ?_ (fun _ => ?_)
set_option maxHeartbeats 8000000 in
set_option maxRecDepth 100000 in
theorem slices_Max_int32_int32.calls (k : Nat) (A0 : Option Addr) (c0 : Nat) (l0 : List Int) (r : Int) (w : World) (hr0 : Kd.C (Kd.int .i32) w A0 l0.length l0) (hc0 : l0.length ≤ c0) (h : slices_Max_int32_int32.f k l0 = some r) :
    Calls Try.prog 78 #[.slice A0 l0.length c0] w fun e w' => e = .returned (.int .i32 r) ∧ Below w.heap.size w w' := by
  have HR0 := Aside0.mk hr0
  have HC0 := Aside0.mk hc0
  clear hr0 hc0
  have HB := Aside0.mk (Below.refl w.heap.size w)
  have H : (if (l0.length : Int) < 1 then (none) else (if 0 < (l0.length : Int) then (slices_Max_int32_int32.l0 k l0 (rd l0 0) 1) else (none))) = some r := h
  clear h
  by_cases c2 : (l0.length : Int) < 1
  · rw [if_pos c2] at H
    exact absurd H (by simp)
  · rw [if_neg c2] at H
    have c2b0 : decide ((l0.length : Int) < 1) = false := decide_eq_false c2
    have c2b1 : decide (l0.length < 1) = false := decide_eq_false (by omega)
    clear c2
    by_cases c3 : 0 < (l0.length : Int)
    · rw [if_pos c3] at H
      have c3b0 : decide (0 < (l0.length : Int)) = true := decide_eq_true c3
      have c3b1 : decide (0 < l0.length) = true := decide_eq_true (by omega)
      clear c3
      have H' := Aside0.mk H
      clear H
      have p134 : 0 ≤ (0 : Int) := (by omega)
      have q134 : 0 < (l0.length : Int) := of_decide_eq_true (by first | (with_reducible assumption) | assumption)
      obtain ⟨ad134, e134, hx134_0⟩ := Kd.at_int HR0.out 0 p134 q134
      cases e134
      have qi134 : (0 < l0.length) = True := eq_true (by omega)
      (try rw [show ((0 : Int)).toNat = 0 from rfl] at hx134_0)
      (try rw [Addr.add_zero'] at hx134_0)
      replace p134 := eq_true p134
      replace q134 := eq_true q134
      go_enter Try.func78, Try.ntmps78
      go_wp2
      go_loopg [3, 4] k (fun kq v3 v4 w' => ∃ (x3_1 : Int) (x4_1 : Int), v3 = .int .i32 x3_1 ∧ v4 = .int .i64 x4_1 ∧ Aside0 (slices_Max_int32_int32.l0 kq l0 x3_1 x4_1 = some r) ∧ Aside0 (kq ≤ k) ∧ Aside0 (Below w.heap.size w w'))
      case atStart => exact ⟨(rd l0 0), (1), (by first | rfl | (simp; done) | (simp [*]; done)), (by first | rfl | (simp; done) | (simp [*]; done)), H', ⟨Nat.le_refl _⟩, ⟨by repeat (first | (with_reducible first | exact HB.out | apply below_alloc | apply pw_below_drewN | apply below_drew1) | exact HB.out)⟩⟩
      case round =>
        clear H'
        try clear p1
        try clear q1
        try clear hx1
        try clear qi1
        try clear c2
        try clear c2b0
        try clear c2b1
        try clear p2
        try clear c3
        try clear c3b0
        try clear c3b1
        try clear hx134_0
        try clear p134
        try clear q134
        obtain ⟨x3_1, x4_1, rfl, rfl, HA, HK1, HB⟩ := hrel
        cases gk with
        | zero => exact absurd HA.out (by simp [slices_Max_int32_int32.l0])
        | succ k1 =>
          have H := HA.out
          clear HA
          simp only [slices_Max_int32_int32.l0] at H
          by_cases c4 : x4_1 < (l0.length : Int)
          · rw [if_pos c4] at H
            have c4b0 : decide (x4_1 < (l0.length : Int)) = true := decide_eq_true c4
            clear c4
            by_cases c5 : 0 ≤ x4_1
            · rw [if_pos c5] at H
              have c5b0 : decide (0 ≤ x4_1) = true := decide_eq_true c5
              clear c5
              obtain ⟨ji6, hji6⟩ : ∃ j_ : Int, (mx x3_1 (rd l0 x4_1)) = j_ := ⟨_, rfl⟩
              replace H : (slices_Max_int32_int32.l0 k1 l0 ji6 (wrap64 (x4_1 + 1))) = some r := by first | (rw [hji6] at H; exact H) | (simp only [hji6] at H ⊢; exact H)
              have hji6_ : (if x3_1 < (rd l0 x4_1) then (rd l0 x4_1) else x3_1) = ji6 := hji6
              have H' := Aside0.mk H
              clear H
              have p135 : 0 ≤ (x4_1 : Int) := of_decide_eq_true (by first | (with_reducible assumption) | assumption)
              have q135 : x4_1 < (l0.length : Int) := of_decide_eq_true (by first | (with_reducible assumption) | assumption)
              obtain ⟨ad135, e135, hx135_0⟩ := Kd.at_int HR0.out x4_1 p135 q135
              obtain rfl : ad134 = ad135 := (by injection e135)
              replace hx135_0 := (HB.out.cell (World.block_lt_of_cell? w _ hx135_0)).trans hx135_0
              replace p135 := eq_true p135
              replace q135 := eq_true q135
              go_wp2
              go_roundg k1
              case measure => have := HK1.out; omega
              case rel => exact ⟨(ji6), (wrap64 (x4_1 + 1)), (by first | rfl | (simp; done) | (simp only [← hji6] <;> (first | rfl | simp)) | (simp [*]; done)), (by first | rfl | (simp; done) | (simp [*]; done)), H', ⟨by have := HK1.out; omega⟩, ⟨by repeat (first | (with_reducible first | exact HB.out | apply below_alloc | apply pw_below_drewN | apply below_drew1) | exact HB.out)⟩⟩
            · rw [if_neg c5] at H
              exact absurd H (by simp)
          · rw [if_neg c4] at H
            have c4b0 : decide (x4_1 < (l0.length : Int)) = false := decide_eq_false c4
            clear c4
            obtain rfl := Option.some.inj H
            go_wp2
            go_ret
            exact ⟨by first | rfl | (simp [errW_none, errW_some] <;> rfl) | (simp [*, errW_none, errW_some] <;> rfl), by repeat (first | (with_reducible first | exact HB.out | apply below_alloc | apply pw_below_drewN | apply below_drew1) | exact HB.out)⟩
    · rw [if_neg c3] at H
      exact absurd H (by simp)

end Go.Proofs.Yteflolamihhmdaa.Q

namespace Go.Proofs.Yteflolamihhmdaa.Q
open Go.RowKit Go.Proofs.YteflolamihhmdaaW.PrintWords Go.Proofs.YteflolamihhmdaaW.PrintLast Go.Proofs.YteflolamihhmdaaW.PrintMore
attribute [local go_sem] max2_int min2_int max_two min_two max_three min_three max_four min_four   -- for this text's walks alone
set_option linter.unusedVariables false
set_option linter.unusedSimpArgs false

/-! ### slices_Index_int32_int32: function 82 -/
def slices_Index_int32_int32.l0 : Nat → List Int → Int → Int → Int → Option (Int)
  | 0, _, _, _, _ => none
  | k + 1, x0, x1, x7, x8 => if x8 < x7 then (if 0 ≤ x8 then (if x8 < (x0.length : Int) then (if x1 = (rd x0 x8) then (some x8) else (slices_Index_int32_int32.l0 k x0 x1 x7 (wrap64 (x8 + 1)))) else (none)) else (none)) else (some (-1))
def slices_Index_int32_int32.f (k : Nat) (l0 : List Int) (a1 : Int) : Option (Int) := slices_Index_int32_int32.l0 k l0 a1 (l0.length : Int) 0
theorem slices_Index_int32_int32.mono_l : ∀ k, (∀ y0 y1 y2 y3, LeO (slices_Index_int32_int32.l0 k y0 y1 y2 y3) (slices_Index_int32_int32.l0 (k + 1) y0 y1 y2 y3))
  | 0 => fun _ _ _ _ r h => by simp [slices_Index_int32_int32.l0] at h
  | k + 1 => by
    have ih0 := slices_Index_int32_int32.mono_l k
    · intro y0 y1 y2 y3
      unfold slices_Index_int32_int32.l0
      repeat' first
      | (with_reducible exact ih0 _ _ _ _)
      | (with_reducible exact LeO.refl _)
      | (with_reducible exact LeO.none _)
      | (with_reducible refine LeO.ite ?_ ?_)
      | (with_reducible refine LeO.bind ?_ (fun _ => ?_))
      | exact ih0 _ _ _ _
      | exact LeO.none _
      | refine LeO.ite ?_ ?_
      | refine LeO.bind ?_ (fun _ => ?_)
theorem slices_Index_int32_int32.mono : ∀ a0 a1 k, LeO (slices_Index_int32_int32.f k a0 a1) (slices_Index_int32_int32.f (k + 1) a0 a1) := by
  intro a0 a1 k
  have ih0 := slices_Index_int32_int32.mono_l k
  unfold slices_Index_int32_int32.f
  repeat' first
      | (with_reducible exact ih0 _ _ _ _)
      | (with_reducible exact LeO.refl _)
      | (with_reducible exact LeO.none _)
      | (with_reducible refine LeO.ite ?_ ?_)
      | (with_reducible refine LeO.bind ?_ (fun _ => ?_))
      | exact ih0 _ _ _ _
      | exact LeO.none _
      | refine LeO.ite ?_ ?_
      | refine LeO.bind ?_ (fun _ => ?_)
set_option maxHeartbeats 8000000 in
set_option maxRecDepth 100000 in
theorem slices_Index_int32_int32.calls (k : Nat) (A0 : Option Addr) (c0 : Nat) (l0 : List Int) (a1 : Int) (r : Int) (w : World) (hr0 : Kd.C (Kd.int .i32) w A0 l0.length l0) (hc0 : l0.length ≤ c0) (h : slices_Index_int32_int32.f k l0 a1 = some r) :
    Calls Try.prog 82 #[.slice A0 l0.length c0, .int .i32 a1] w fun e w' => e = .returned (.int .i64 r) ∧ Drawn0 w w' := by
  have HR0 := Aside0.mk hr0
  have HC0 := Aside0.mk hc0
  clear hr0 hc0
  have H : (slices_Index_int32_int32.l0 k l0 a1 (l0.length : Int) 0) = some r := h
  clear h
  have H' := Aside0.mk H
  clear H
  go_enter Try.func82, Try.ntmps82
  go_wp2
  go_loopg [8] k (fun kq v8 w' => ∃ (x8_1 : Int), v8 = .int .i64 x8_1 ∧ Aside0 (slices_Index_int32_int32.l0 kq l0 a1 (l0.length : Int) x8_1 = some r) ∧ Aside0 (kq ≤ k) ∧ Drawn0 w w')
  case atStart => exact ⟨(0), (by first | rfl | (simp; done) | (simp [*]; done)), H', ⟨Nat.le_refl _⟩, by repeat (first | exact Drawn0.refl _ | apply Drawn0.step)⟩
  case round =>
    clear H'
    try clear p2
    obtain ⟨x8_1, rfl, HA, HK1, ⟨m1, rfl⟩⟩ := hrel
    cases gk with
    | zero => exact absurd HA.out (by simp [slices_Index_int32_int32.l0])
    | succ k1 =>
      have H := HA.out
      clear HA
      simp only [slices_Index_int32_int32.l0] at H
      by_cases c3 : x8_1 < (l0.length : Int)
      · rw [if_pos c3] at H
        have c3b0 : decide (x8_1 < (l0.length : Int)) = true := decide_eq_true c3
        clear c3
        by_cases c4 : 0 ≤ x8_1
        · rw [if_pos c4] at H
          have c4b0 : decide (0 ≤ x8_1) = true := decide_eq_true c4
          clear c4
          by_cases c5 : x8_1 < (l0.length : Int)
          · rw [if_pos c5] at H
            have c5b0 : decide (x8_1 < (l0.length : Int)) = true := decide_eq_true c5
            clear c5
            by_cases c6 : a1 = (rd l0 x8_1)
            · rw [if_pos c6] at H
              have c6b0 : (a1 == (rd l0 x8_1)) = true := beq_iff_eq.mpr c6
              have c6b1 : (a1 != (rd l0 x8_1)) = false := bne_eq_false_iff_eq.mpr c6
              clear c6
              obtain rfl := Option.some.inj H
              have p136 : 0 ≤ (x8_1 : Int) := of_decide_eq_true (by first | (with_reducible assumption) | assumption)
              have q136 : x8_1 < (l0.length : Int) := of_decide_eq_true (by first | (with_reducible assumption) | assumption)
              obtain ⟨ad136, e136, hx136_0⟩ := Kd.at_int HR0.out x8_1 p136 q136
              cases e136
              replace p136 := eq_true p136
              replace q136 := eq_true q136
              go_wp2
              go_ret
              exact ⟨by first | rfl | (simp; done) | (simp [*]; done), by repeat (first | exact Drawn0.refl _ | apply Drawn0.step)⟩
            · rw [if_neg c6] at H
              have c6b0 : (a1 == (rd l0 x8_1)) = false := beq_eq_false_iff_ne.mpr c6
              have c6b1 : (a1 != (rd l0 x8_1)) = true := bne_iff_ne.mpr c6
              have H' := Aside0.mk H
              clear H
              have p136 : 0 ≤ (x8_1 : Int) := of_decide_eq_true (by first | (with_reducible assumption) | assumption)
              have q136 : x8_1 < (l0.length : Int) := of_decide_eq_true (by first | (with_reducible assumption) | assumption)
              obtain ⟨ad136, e136, hx136_0⟩ := Kd.at_int HR0.out x8_1 p136 q136
              cases e136
              replace p136 := eq_true p136
              replace q136 := eq_true q136
              go_wp2
              go_roundg k1
              case measure => have := HK1.out; omega
              case rel => exact ⟨(wrap64 (x8_1 + 1)), (by first | rfl | (simp; done) | (simp [*]; done)), H', ⟨by have := HK1.out; omega⟩, by repeat (first | exact Drawn0.refl _ | apply Drawn0.step)⟩
          · rw [if_neg c5] at H
            exact absurd H (by simp)
        · rw [if_neg c4] at H
          exact absurd H (by simp)
      · rw [if_neg c3] at H
        have c3b0 : decide (x8_1 < (l0.length : Int)) = false := decide_eq_false c3
        clear c3
        obtain rfl := Option.some.inj H
        go_wp2
        go_ret
        exact ⟨by first | rfl | (simp; done) | (simp [*]; done), by repeat (first | exact Drawn0.refl _ | apply Drawn0.step)⟩

end Go.Proofs.Yteflolamihhmdaa.Q

namespace Go.Proofs.Yteflolamihhmdaa.Q
open Go.RowKit Go.Proofs.YteflolamihhmdaaW.PrintWords Go.Proofs.YteflolamihhmdaaW.PrintLast Go.Proofs.YteflolamihhmdaaW.PrintMore
attribute [local go_sem] max2_int min2_int max_two min_two max_three min_three max_four min_four   -- for this text's walks alone
set_option linter.unusedVariables false
set_option linter.unusedSimpArgs false

/-! ### dot_Top: function 63 -/
def dot_Top.f (k : Nat) (l0 : List Int) : Option (Int × Int × Int) := if (l0.length : Int) = 0 then (some (0, 0, 14)) else ((slices_Max_int32_int32.f k l0).bind fun t137 => ((slices_Index_int32_int32.f k l0 t137).bind fun t138 => (some (t138, t137, 0))))
theorem dot_Top.mono : ∀ a0 k, LeO (dot_Top.f k a0) (dot_Top.f (k + 1) a0) := by
  intro a0 k
  unfold dot_Top.f
  repeat' first
      | (with_reducible exact slices_Index_int32_int32.mono _ _ _)
      | (with_reducible exact slices_Max_int32_int32.mono _ _)
      | (with_reducible exact LeO.refl _)
      | (with_reducible exact LeO.none _)
      | (with_reducible refine LeO.ite ?_ ?_)
      | (with_reducible refine LeO.bind ?_ (fun _ => ?_))
      | exact slices_Index_int32_int32.mono _ _ _
      | exact slices_Max_int32_int32.mono _ _
      | exact LeO.none _
      | refine LeO.ite ?_ ?_
      | refine LeO.bind ?_ (fun _ => ?_)
set_option maxHeartbeats 8000000 in
set_option maxRecDepth 100000 in
theorem dot_Top.calls (k : Nat) (A0 : Option Addr) (c0 : Nat) (l0 : List Int) (r1 : Int) (r2 : Int) (r3 : Int) (w : World) (hr0 : Kd.C (Kd.int .i32) w A0 l0.length l0) (hc0 : l0.length ≤ c0) (h : dot_Top.f k l0 = some (r1, r2, r3)) :
    Calls Try.prog 63 #[.slice A0 l0.length c0] w fun e w' => e = .returned (.tuple #[.int .i64 r1, .int .i32 r2, .int .i64 r3]) ∧ Below w.heap.size w w' := by
  have HR0 := Aside0.mk hr0
  have HC0 := Aside0.mk hc0
  clear hr0 hc0
  have HB := Aside0.mk (Below.refl w.heap.size w)
  have H : (if (l0.length : Int) = 0 then (some (0, 0, 14)) else ((slices_Max_int32_int32.f k l0).bind fun t137 => ((slices_Index_int32_int32.f k l0 t137).bind fun t138 => (some (t138, t137, 0))))) = some (r1, r2, r3) := h
  clear h
  by_cases c2 : (l0.length : Int) = 0
  · rw [if_pos c2] at H
    have c2b0 : ((l0.length : Int) == 0) = true := beq_iff_eq.mpr c2
    have c2b1 : ((l0.length : Int) != 0) = false := bne_eq_false_iff_eq.mpr c2
    clear c2
    simp only [Option.some.injEq, Prod.mk.injEq] at H
    obtain ⟨rfl, rfl, rfl⟩ := H
    go_enter Try.func63, Try.ntmps63
    go_wp2
    go_ret3
    exact ⟨by first | rfl | (simp [errW_none, errW_some] <;> rfl) | (simp [*, errW_none, errW_some] <;> rfl), by repeat (first | (with_reducible first | exact HB.out | apply below_alloc | apply pw_below_drewN | apply below_drew1) | exact HB.out)⟩
  · rw [if_neg c2] at H
    have c2b0 : ((l0.length : Int) == 0) = false := beq_eq_false_iff_ne.mpr c2
    have c2b1 : ((l0.length : Int) != 0) = true := bne_iff_ne.mpr c2
    have c2b2 : ¬ (l0 = []) := fun h_ => c2 (by rw [h_]; rfl)
    replace H := Option.bind_eq_some_iff.mp H
    obtain ⟨t137, A30, H⟩ := H
    replace H : ((slices_Index_int32_int32.f k l0 t137).bind fun t138 => (some (t138, t137, 0))) = some (r1, r2, r3) := H
    have A3 := Aside0.mk A30
    clear A30
    replace H := Option.bind_eq_some_iff.mp H
    obtain ⟨t138, A40, H⟩ := H
    replace H : (some (t138, t137, 0)) = some (r1, r2, r3) := H
    have A4 := Aside0.mk A40
    clear A40
    simp only [Option.some.injEq, Prod.mk.injEq] at H
    obtain ⟨rfl, rfl, rfl⟩ := H
    go_enter Try.func63, Try.ntmps63
    go_wp2_with (first | ((with_reducible refine gate_callee (f := 78) rfl ?_); refine goesL_ (some 9) rfl rfl Try.func78 (by kernel_rfl) rfl #[.slice A0 l0.length c0] rfl (by (try simp only [List.map_toArray, List.map_cons, List.map_nil]); first | done | rfl | (simp only [List.length_drop, List.length_take]; rfl)) ?_; (with_reducible refine (slices_Max_int32_int32.calls k _ _ l0 t137 _ ?side1 ?side2 A3.out).mono ?_); (case side1 => repeat (first | exact HR0.out | (with_reducible refine Kd.C_alloc ?_ _) | (with_reducible refine Kd.C_drewN ?_ _) | (with_reducible refine Kd.C_drew ?_))); (case side2 => exact HC0.out); rintro e w5 ⟨rfl, hb⟩; refine ⟨_, rfl, ?_⟩; have n0_ := Aside0.mk (below_step (by repeat (first | (with_reducible first | exact HB.out | apply below_alloc | apply pw_below_drewN | apply below_drew1) | exact HB.out)) hb); clear HB; have HB := n0_; clear n0_; (try clear hb); (try clear hb2); (try clear hk); (try clear hi)) | ((with_reducible refine gate_callee (f := 82) rfl ?_); refine goesL_ (some 12) rfl rfl Try.func82 (by kernel_rfl) rfl #[.slice A0 l0.length c0, .int .i32 t137] rfl (by (try simp only [List.map_toArray, List.map_cons, List.map_nil]); first | done | rfl | (simp only [List.length_drop, List.length_take]; rfl)) ?_; (with_reducible refine (slices_Index_int32_int32.calls k _ _ l0 t137 t138 _ ?side1 ?side2 A4.out).mono ?_); (case side1 => repeat (first | exact (Kd.C_below HR0.out HB.out) | (with_reducible refine Kd.C_alloc ?_ _) | (with_reducible refine Kd.C_drewN ?_ _) | (with_reducible refine Kd.C_drew ?_))); (case side2 => exact HC0.out); rintro e w' ⟨rfl, ⟨nd, rfl⟩⟩; refine ⟨_, rfl, ?_⟩))
    go_ret3
    exact ⟨by first | rfl | (simp [errW_none, errW_some] <;> rfl) | (simp [*, errW_none, errW_some] <;> rfl), by repeat (first | (with_reducible first | exact HB.out | apply below_alloc | apply pw_below_drewN | apply below_drew1) | exact HB.out)⟩

end Go.Proofs.Yteflolamihhmdaa.Q

namespace Go.Proofs.Yteflolamihhmdaa.Q
open Go.RowKit Go.Proofs.YteflolamihhmdaaW.PrintWords Go.Proofs.YteflolamihhmdaaW.PrintLast Go.Proofs.YteflolamihhmdaaW.PrintMore
attribute [local go_sem] max2_int min2_int max_two min_two max_three min_three max_four min_four   -- for this text's walks alone
set_option linter.unusedVariables false
set_option linter.unusedSimpArgs false

/-! ### expo_of2: function 83 -/
def expo_of2.f (a0 : Int) : Option (Int) := some (wrap64 (65536 + ((wrap64 (a0 * (wrap64 (45613 + ((wrap64 (a0 * (wrap64 (14743 + ((wrap64 (a0 * 5180)) / 65536))))) / 65536))))) / 65536)))
set_option maxHeartbeats 8000000 in
set_option maxRecDepth 100000 in
theorem expo_of2.calls (a0 : Int) (r : Int) (w : World) (h : expo_of2.f a0 = some r) :
    Calls Try.prog 83 #[.int .i64 a0] w fun e w' => e = .returned (.int .i64 r) ∧ Drawn0 w w' := by
  have H : (some (wrap64 (65536 + ((wrap64 (a0 * (wrap64 (45613 + ((wrap64 (a0 * (wrap64 (14743 + ((wrap64 (a0 * 5180)) / 65536))))) / 65536))))) / 65536)))) = some r := h
  clear h
  obtain rfl := Option.some.inj H
  go_enter Try.func83, Try.ntmps83
  go_wp2
  go_ret
  exact ⟨by first | rfl | (simp; done) | (simp [*]; done), by repeat (first | exact Drawn0.refl _ | apply Drawn0.step)⟩

end Go.Proofs.Yteflolamihhmdaa.Q

namespace Go.Proofs.Yteflolamihhmdaa.Q
open Go.RowKit Go.Proofs.YteflolamihhmdaaW.PrintWords Go.Proofs.YteflolamihhmdaaW.PrintLast Go.Proofs.YteflolamihhmdaaW.PrintMore
attribute [local go_sem] max2_int min2_int max_two min_two max_three min_three max_four min_four   -- for this text's walks alone
set_option linter.unusedVariables false
set_option linter.unusedSimpArgs false

/-! ### expo_Exp: function 64 -/
def expo_Exp.f (a0 : Int) : Option (Int) := (fix_Half.f (wrap64 ((wrap64 (mn a0 0)) * 94548)) 16).bind fun t139 => (if (wrap64 (-(t139 / 65536))) > 62 then (some 0) else ((expo_of2.f (wrap64 (t139 - (wrap64 ((t139 / 65536) * 65536))))).bind fun t140 => ((fix_Half.f t140 (wrap64 (-(t139 / 65536)))).bind fun t141 => (some t141))))
set_option maxHeartbeats 8000000 in
set_option maxRecDepth 100000 in
theorem expo_Exp.calls (a0 : Int) (r : Int) (w : World) (h : expo_Exp.f a0 = some r) :
    Calls Try.prog 64 #[.int .i32 a0] w fun e w' => e = .returned (.int .i64 r) ∧ Below w.heap.size w w' := by
  have HB := Aside0.mk (Below.refl w.heap.size w)
  have H : ((fix_Half.f (wrap64 ((wrap64 (mn a0 0)) * 94548)) 16).bind fun t139 => (if (wrap64 (-(t139 / 65536))) > 62 then (some 0) else ((expo_of2.f (wrap64 (t139 - (wrap64 ((t139 / 65536) * 65536))))).bind fun t140 => ((fix_Half.f t140 (wrap64 (-(t139 / 65536)))).bind fun t141 => (some t141))))) = some r := h
  clear h
  obtain ⟨ji2, hji2⟩ : ∃ j_ : Int, (mn a0 0) = j_ := ⟨_, rfl⟩
  replace H : ((fix_Half.f (wrap64 ((wrap64 (ji2)) * 94548)) 16).bind fun t139 => (if (wrap64 (-(t139 / 65536))) > 62 then (some 0) else ((expo_of2.f (wrap64 (t139 - (wrap64 ((t139 / 65536) * 65536))))).bind fun t140 => ((fix_Half.f t140 (wrap64 (-(t139 / 65536)))).bind fun t141 => (some t141))))) = some r := by first | (rw [hji2] at H; exact H) | (simp only [hji2] at H ⊢; exact H)
  (try (have hji2h : ji2 ≤ 0 := by (rw [← hji2]; unfold mn; (repeat' split) <;> omega)))
  (try (have hji2g : ji2 ≤ 64 := by omega))
  have hji2_ : (if 0 < a0 then 0 else a0) = ji2 := hji2
  replace H := Option.bind_eq_some_iff.mp H
  obtain ⟨t139, A30, H⟩ := H
  replace H : (if (wrap64 (-(t139 / 65536))) > 62 then (some 0) else ((expo_of2.f (wrap64 (t139 - (wrap64 ((t139 / 65536) * 65536))))).bind fun t140 => ((fix_Half.f t140 (wrap64 (-(t139 / 65536)))).bind fun t141 => (some t141)))) = some r := H
  have A3 := Aside0.mk A30
  clear A30
  by_cases c4 : (wrap64 (-(t139 / 65536))) > 62
  · rw [if_pos c4] at H
    have c4b0 : decide (62 < (wrap64 (-(t139 / 65536)))) = true := decide_eq_true c4
    clear c4
    obtain rfl := Option.some.inj H
    go_enter Try.func64, Try.ntmps64
    go_wp2_with (first | ((with_reducible refine gate_callee (f := 48) rfl ?_); refine goesL_ (some 9) rfl rfl Try.func48 (by kernel_rfl) rfl #[.int .i64 (wrap64 ((wrap64 (ji2)) * 94548)), .int .i64 16] rfl (by (try simp only [List.map_toArray, List.map_cons, List.map_nil]); first | done | (simp only [hji2]; rfl) | rfl | (simp only [List.length_drop, List.length_take]; rfl)) ?_; (with_reducible refine (fix_Half.calls (wrap64 ((wrap64 (ji2)) * 94548)) 16 t139 _ A3.out).mono ?_); rintro e w5 ⟨rfl, hb⟩; refine ⟨_, rfl, ?_⟩; have n0_ := Aside0.mk (below_step (by repeat (first | (with_reducible first | exact HB.out | apply below_alloc | apply pw_below_drewN | apply below_drew1) | exact HB.out)) hb); clear HB; have HB := n0_; clear n0_; (try clear hb); (try clear hb2); (try clear hk); (try clear hi)))
    go_ret
    exact ⟨by first | rfl | (simp [errW_none, errW_some] <;> rfl) | (simp only [← hji2]; first | rfl | (simp [errW_none, errW_some] <;> rfl)) | (simp [*, errW_none, errW_some] <;> rfl), by repeat (first | (with_reducible first | exact HB.out | apply below_alloc | apply pw_below_drewN | apply below_drew1) | exact HB.out)⟩
  · rw [if_neg c4] at H
    have c4b0 : decide (62 < (wrap64 (-(t139 / 65536)))) = false := decide_eq_false c4
    clear c4
    replace H := Option.bind_eq_some_iff.mp H
    obtain ⟨t140, A60, H⟩ := H
    replace H : ((fix_Half.f t140 (wrap64 (-(t139 / 65536)))).bind fun t141 => (some t141)) = some r := H
    have A6 := Aside0.mk A60
    clear A60
    replace H := Option.bind_eq_some_iff.mp H
    obtain ⟨t141, A70, H⟩ := H
    replace H : (some t141) = some r := H
    have A7 := Aside0.mk A70
    clear A70
    obtain rfl := Option.some.inj H
    go_enter Try.func64, Try.ntmps64
    go_wp2_with (first | ((with_reducible refine gate_callee (f := 48) rfl ?_); refine goesL_ (some 9) rfl rfl Try.func48 (by kernel_rfl) rfl #[.int .i64 (wrap64 ((wrap64 (ji2)) * 94548)), .int .i64 16] rfl (by (try simp only [List.map_toArray, List.map_cons, List.map_nil]); first | done | (simp only [hji2]; rfl) | rfl | (simp only [List.length_drop, List.length_take]; rfl)) ?_; (with_reducible refine (fix_Half.calls (wrap64 ((wrap64 (ji2)) * 94548)) 16 t139 _ A3.out).mono ?_); rintro e w8 ⟨rfl, hb⟩; refine ⟨_, rfl, ?_⟩; have n0_ := Aside0.mk (below_step (by repeat (first | (with_reducible first | exact HB.out | apply below_alloc | apply pw_below_drewN | apply below_drew1) | exact HB.out)) hb); clear HB; have HB := n0_; clear n0_; (try clear hb); (try clear hb2); (try clear hk); (try clear hi)) | ((with_reducible refine gate_callee (f := 83) rfl ?_); refine goesL_ (some 19) rfl rfl Try.func83 (by kernel_rfl) rfl #[.int .i64 (wrap64 (t139 - (wrap64 ((t139 / 65536) * 65536))))] rfl (by (try simp only [List.map_toArray, List.map_cons, List.map_nil]); first | done | rfl | (simp only [List.length_drop, List.length_take]; rfl)) ?_; (with_reducible refine (expo_of2.calls (wrap64 (t139 - (wrap64 ((t139 / 65536) * 65536)))) t140 _ A6.out).mono ?_); rintro e w' ⟨rfl, ⟨nd, rfl⟩⟩; refine ⟨_, rfl, ?_⟩) | ((with_reducible refine gate_callee (f := 48) rfl ?_); refine goesL_ (some 22) rfl rfl Try.func48 (by kernel_rfl) rfl #[.int .i64 t140, .int .i64 (wrap64 (-(t139 / 65536)))] rfl (by (try simp only [List.map_toArray, List.map_cons, List.map_nil]); first | done | rfl | (simp only [List.length_drop, List.length_take]; rfl)) ?_; (with_reducible refine (fix_Half.calls t140 (wrap64 (-(t139 / 65536))) t141 _ A7.out).mono ?_); rintro e w9 ⟨rfl, hb⟩; refine ⟨_, rfl, ?_⟩; have n0_ := Aside0.mk (below_step (by repeat (first | (with_reducible first | exact HB.out | apply below_alloc | apply pw_below_drewN | apply below_drew1) | exact HB.out)) hb); clear HB; have HB := n0_; clear n0_; (try clear hb); (try clear hb2); (try clear hk); (try clear hi)))
    go_ret
    exact ⟨by first | rfl | (simp [errW_none, errW_some] <;> rfl) | (simp only [← hji2]; first | rfl | (simp [errW_none, errW_some] <;> rfl)) | (simp [*, errW_none, errW_some] <;> rfl), by repeat (first | (with_reducible first | exact HB.out | apply below_alloc | apply pw_below_drewN | apply below_drew1) | exact HB.out)⟩

end Go.Proofs.Yteflolamihhmdaa.Q
