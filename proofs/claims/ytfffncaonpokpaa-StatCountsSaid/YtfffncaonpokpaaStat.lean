/- The walks of package stat's methods: a meter is nine counts; conditions: the receiver is such a meter. -/
import Derived.Test.YtfffncaonpokpaaProg
import Derived.Test.YtfffncaonpokpaaKit
import Derived.Laws.LoneSync
import Derived.Laws.Pointers
namespace Go.Proofs.Ytfffncaonpokpaa
open Go.RowKit

theorem stat_info_int : (Try.prog.info? 3).map (fun i => (i.zero, i.size, i.bytes)) = some (some (.int .i64 0), 1, 8) := by kernel_rfl

def intsS (xs : List Int) : List Value := xs.map (Value.int .i64)

/-- block p is a meter of the counts cs -/
def IsMeter (w : World) (p B : Nat) (cs : List Int) : Prop := B ≤ p ∧ cs.length = 9 ∧ Blk w p 91 (intsS cs).toArray

theorem IsMeter.cell {w : World} {p B : Nat} {cs : List Int} (h : IsMeter w p B cs) (k : Nat) (hk : k < 9) : w.cell? ⟨p, k, none⟩ = some (.int .i64 (cs[k]?.getD 0)) := by
  rw [h.2.2.cell k]
  have : k < cs.length := by rw [h.2.1]; exact hk
  simp [intsS, this]
theorem IsMeter.frozen {w : World} {p B : Nat} {cs : List Int} (h : IsMeter w p B cs) (k : Nat) : w.frozen? ⟨p, k, none⟩ = false := h.2.2.frozen k
theorem IsMeter.set_ {w : World} {p B : Nat} {cs : List Int} (h : IsMeter w p B cs) (k : Nat) (v : Int) : IsMeter (w.setCell ⟨p, k, none⟩ (.int .i64 v)) p B (cs.set k v) := by
  refine ⟨h.1, by simp [h.2.1], ?_⟩
  have := h.2.2.set_ k (.int .i64 v)
  rwa [show (intsS cs).toArray.setIfInBounds k (.int .i64 v) = (intsS (cs.set k v)).toArray from by simp [intsS, List.map_set]] at this
theorem IsMeter.drewN {w : World} {p B : Nat} {cs : List Int} (h : IsMeter w p B cs) (n : Nat) : IsMeter (w.drewN n) p B cs := h
theorem IsMeter.below {w w' : World} {p B C : Nat} {cs : List Int} (h : IsMeter w p B cs) (hb : Below C w w') (hC : w.heap.size ≤ C) : IsMeter w' p B cs :=
  ⟨h.1, h.2.1, h.2.2.below hb (Nat.lt_of_lt_of_le h.2.2.lt hC)⟩
theorem IsMeter.others {w w' : World} {p B : Nat} {cs : List Int} {T : List TypeId} (h : IsMeter w p B cs) (hb : Others T w w') (hT : 91 ∉ T) : IsMeter w' p B cs :=
  ⟨h.1, h.2.1, hb.blk h.2.2 hT⟩

set_option maxHeartbeats 400000 in
theorem stat_new (w : World) : Calls Try.prog 29 #[] w fun e w' => e = .returned (.pointer (some ⟨w.heap.size, 0, none⟩)) ∧ IsMeter w' w.heap.size w.heap.size (List.replicate 9 0) ∧ Below w.heap.size w w' := by
  go_enter Try.func29, Try.ntmps29
  go_wp2
  go_ret
  exact ⟨rfl, ⟨Nat.le_refl _, by simp, Blk.new _ _ _⟩, (Below.refl _ _).alloc (Nat.le_refl _) _⟩

set_option maxHeartbeats 400000 in
theorem stat_of_yes (p : Nat) (k : Nat) (hk : k < 9) (w : World) :
    Calls Try.prog 53 #[.pointer (some ⟨p, 0, none⟩), .int .i64 k] w fun e w' => e = .returned (.pointer (some ⟨p, k, none⟩)) ∧ w = w' := by
  go_enter Try.func53, Try.ntmps53
  go_wp2
  go_ret
  exact ⟨rfl, rfl⟩

set_option maxHeartbeats 400000 in
theorem stat_of_no (p : Nat) (k : Int) (hk : k < 0 ∨ 9 ≤ k) (w : World) :
    Calls Try.prog 53 #[.pointer (some ⟨p, 0, none⟩), .int .i64 k] w fun e w' => e = .returned (.pointer none) ∧ w = w' := by
  rcases hk with hk | hk
  · go_enter Try.func53, Try.ntmps53
    go_wp2
    go_ret
    exact ⟨rfl, rfl⟩
  · have h0 : ¬ k < 0 := by omega
    go_enter Try.func53, Try.ntmps53
    go_wp2
    go_ret
    exact ⟨rfl, rfl⟩

set_option maxHeartbeats 400000 in
theorem atom_add (p k : Nat) (v n : Int) (w : World) (h0 : w.cell? ⟨p, k, none⟩ = some (.int .i64 v)) (f0 : w.frozen? ⟨p, k, none⟩ = false) :
    Calls Try.prog 54 #[.pointer (some ⟨p, k, none⟩), .int .i64 n] w fun e w' => e = .returned (.int .i64 (wrap64 (v + n))) ∧ w' = w.setCell ⟨p, k, none⟩ (.int .i64 (wrap64 (v + n))) := by
  have hadd := run_call_add (P := Try.prog) Try.func60 (by kernel_rfl) (by kernel_rfl) (by kernel_rfl) .i64 (by kernel_rfl) (y := n) (s := wrap64 (v + n)) h0 f0 (by simp [go_sem, wrap64, IntKind.wrap_i64])
  go_enter Try.func54, Try.ntmps54
  go_wp2
  go_ret
  exact ⟨rfl, rfl⟩

set_option maxHeartbeats 400000 in
theorem atom_load (p k : Nat) (v : Int) (w : World) (h0 : w.cell? ⟨p, k, none⟩ = some (.int .i64 v)) :
    Calls Try.prog 55 #[.pointer (some ⟨p, k, none⟩)] w fun e w' => e = .returned (.int .i64 v) ∧ w = w' := by
  have hl := run_call_load (P := Try.prog) Try.func61 (by kernel_rfl) (by kernel_rfl) (by kernel_rfl) .i64 (by kernel_rfl) h0
  go_enter Try.func55, Try.ntmps55
  go_wp2
  go_ret
  exact ⟨rfl, rfl⟩

set_option maxHeartbeats 400000 in
theorem atom_cas (p k : Nat) (v n : Int) (w : World) (h0 : w.cell? ⟨p, k, none⟩ = some (.int .i64 v)) (f0 : w.frozen? ⟨p, k, none⟩ = false) :
    Calls Try.prog 56 #[.pointer (some ⟨p, k, none⟩), .int .i64 v, .int .i64 n] w fun e w' => e = .returned (.bool true) ∧ w' = w.setCell ⟨p, k, none⟩ (.int .i64 n) := by
  have hcas := run_call_cas_hit (P := Try.prog) Try.func62 (by kernel_rfl) (by kernel_rfl) (by kernel_rfl) .i64 (by kernel_rfl) (y := n) h0 f0
  go_enter Try.func56, Try.ntmps56
  go_wp2
  go_ret
  exact ⟨rfl, rfl⟩

def there9 (k : Int) : Prop := 0 ≤ k ∧ k < 9

/-- what Add leaves -/
def addAt (cs : List Int) (k n : Int) : List Int := if 0 ≤ k ∧ k < 9 then cs.set k.toNat (wrap64 (cs[k.toNat]?.getD 0 + n)) else cs
/-- what Raise leaves -/
def raiseAt (cs : List Int) (k n : Int) : List Int := if 0 ≤ k ∧ k < 9 then cs.set k.toNat (max (cs[k.toNat]?.getD 0) n) else cs
/-- what Get tells -/
def getAt (cs : List Int) (k : Int) : Int := if 0 ≤ k ∧ k < 9 then cs[k.toNat]?.getD 0 else 0

set_option maxHeartbeats 400000 in
theorem stat_add (p B : Nat) (cs : List Int) (k n : Int) (w : World) (h : IsMeter w p B cs) :
    Calls Try.prog 30 #[.pointer (some ⟨p, 0, none⟩), .int .i64 k, .int .i64 n] w fun e w' => e = .returned (.tuple #[]) ∧ IsMeter w' p B (addAt cs k n) ∧ Below B w w' ∧ Others [91] w w' ∧ w.grownBy w' (some p) := by
  by_cases hk : 0 ≤ k ∧ k < 9
  · obtain ⟨j, rfl⟩ : ∃ j : Nat, k = j := ⟨k.toNat, by omega⟩
    have hj : j < 9 := by omega
    have e : addAt cs j n = cs.set j (wrap64 (cs[j]?.getD 0 + n)) := by
      unfold addAt
      rw [if_pos hk]
      rfl
    rw [e]
    have hc := h.cell j hj
    have hf := h.frozen j
    have H := Lib.hid h
    clear h e hk
    go_enter Try.func30, Try.ntmps30
    go_wp2_with fail
    refine (stat_of_yes p j hj _).mono ?_
    rintro e w1 ⟨rfl, rfl⟩
    go_wp2_with fail
    refine (atom_add p j _ n _ hc hf).mono ?_
    rintro e w1 ⟨rfl, rfl⟩
    go_wp2_with fail
    go_end0
    exact ⟨rfl, H.out.set_ j _, (Below.refl _ _).setCell H.out.1 _, Others.refl.setCell H.out.2.2 (by simp) _ _, only_setCell (World.grownBy.refl _ _) (.inl rfl) _⟩
  · have e : addAt cs k n = cs := if_neg hk
    rw [e]
    go_enter Try.func30, Try.ntmps30
    go_wp2_with fail
    refine (stat_of_no p k (by omega) _).mono ?_
    rintro e w1 ⟨rfl, rfl⟩
    go_wp2_with fail
    go_end0
    exact ⟨rfl, h, Below.refl _ _, Others.refl, World.grownBy.refl _ _⟩

set_option maxHeartbeats 400000 in
theorem stat_get (p B : Nat) (cs : List Int) (k : Int) (w : World) (h : IsMeter w p B cs) :
    Calls Try.prog 35 #[.pointer (some ⟨p, 0, none⟩), .int .i64 k] w fun e w' => e = .returned (.int .i64 (getAt cs k)) ∧ w = w' := by
  by_cases hk : 0 ≤ k ∧ k < 9
  · obtain ⟨j, rfl⟩ : ∃ j : Nat, k = j := ⟨k.toNat, by omega⟩
    have hj : j < 9 := by omega
    have e : getAt cs j = cs[j]?.getD 0 := if_pos hk
    rw [e]
    have hc := h.cell j hj
    clear h e hk
    go_enter Try.func35, Try.ntmps35
    go_wp2_with fail
    refine (stat_of_yes p j hj _).mono ?_
    rintro e w1 ⟨rfl, rfl⟩
    go_wp2_with fail
    refine (atom_load p j _ _ hc).mono ?_
    rintro e w1 ⟨rfl, rfl⟩
    go_wp2_with fail
    go_ret
    exact ⟨rfl, rfl⟩
  · have e : getAt cs k = 0 := if_neg hk
    rw [e]
    go_enter Try.func35, Try.ntmps35
    go_wp2_with fail
    refine (stat_of_no p k (by omega) _).mono ?_
    rintro e w1 ⟨rfl, rfl⟩
    go_wp2_with fail
    go_ret
    exact ⟨rfl, rfl⟩

set_option maxHeartbeats 400000 in
theorem stat_raise (p B : Nat) (cs : List Int) (k n : Int) (w : World) (h : IsMeter w p B cs) :
    Calls Try.prog 31 #[.pointer (some ⟨p, 0, none⟩), .int .i64 k, .int .i64 n] w fun e w' => e = .returned (.tuple #[]) ∧ IsMeter w' p B (raiseAt cs k n) ∧ Below B w w' ∧ Others [91] w w' ∧ w.grownBy w' (some p) := by
  by_cases hk : 0 ≤ k ∧ k < 9
  · obtain ⟨j, rfl⟩ : ∃ j : Nat, k = j := ⟨k.toNat, by omega⟩
    have hj : j < 9 := by omega
    have e : raiseAt cs j n = cs.set j (max (cs[j]?.getD 0) n) := if_pos hk
    rw [e]
    have hc := h.cell j hj
    have hf := h.frozen j
    have H := Lib.hid h
    have hl := h.2.1
    generalize hv : cs[j]?.getD 0 = v at hc
    have Hv := Lib.hid hv
    have Hl := Lib.hid hl
    clear h e hk hv hl
    by_cases hn : n ≤ v
    · go_enter Try.func31, Try.ntmps31
      go_wp2_with fail
      refine (stat_of_yes p j hj _).mono ?_
      rintro e w1 ⟨rfl, rfl⟩
      go_wp2_with fail
      refine wp_loop_rounds 1 ?_
      rw [rounds_succ]
      go_wp2_with fail
      refine (atom_load p j _ _ hc).mono ?_
      rintro e w1 ⟨rfl, rfl⟩
      go_wp2_with fail
      refine bodyPost_ret (results_none rfl _ _ _) rfl ?_
      have em : cs.set j (max v n) = cs := by
        rw [Int.max_eq_left hn, ← Hv.out]
        apply List.ext_getElem (by simp)
        intro i h1 h2
        rw [List.getElem_set]
        split
        · subst_vars; simp [h2]
        · rfl
      rw [em]
      exact ⟨rfl, H.out, Below.refl _ _, Others.refl, World.grownBy.refl _ _⟩
    · go_enter Try.func31, Try.ntmps31
      go_wp2_with fail
      refine (stat_of_yes p j hj _).mono ?_
      rintro e w1 ⟨rfl, rfl⟩
      go_wp2_with fail
      refine wp_loop_rounds 1 ?_
      rw [rounds_succ]
      go_wp2_with fail
      refine (atom_load p j _ _ hc).mono ?_
      rintro e w1 ⟨rfl, rfl⟩
      go_wp2_with fail
      refine (atom_cas p j _ n _ hc hf).mono ?_
      rintro e w1 ⟨rfl, rfl⟩
      go_wp2_with fail
      refine bodyPost_ret (results_none rfl _ _ _) rfl ?_
      rw [Int.max_eq_right (by omega)]
      exact ⟨rfl, H.out.set_ j _, (Below.refl _ _).setCell H.out.1 _, Others.refl.setCell H.out.2.2 (by simp) _ _, only_setCell (World.grownBy.refl _ _) (.inl rfl) _⟩
  · have e : raiseAt cs k n = cs := if_neg hk
    rw [e]
    go_enter Try.func31, Try.ntmps31
    go_wp2_with fail
    refine (stat_of_no p k (by omega) _).mono ?_
    rintro e w1 ⟨rfl, rfl⟩
    go_wp2_with fail
    refine bodyPost_ret (results_none rfl _ _ _) rfl ?_
    exact ⟨rfl, h, Below.refl _ _, Others.refl, World.grownBy.refl _ _⟩

end Go.Proofs.Ytfffncaonpokpaa
