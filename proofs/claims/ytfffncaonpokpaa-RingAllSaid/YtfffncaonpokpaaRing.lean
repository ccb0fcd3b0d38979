/- The walks of package ring's methods over a ring of whole numbers; conditions: the receiver is such a ring (its size at most 1024). -/
import Derived.Test.YtfffncaonpokpaaLine
import Derived.Test.YtfffncaonpokpaaRingL
import Derived.Deep.RegionHeld3
import Derived.Deep.DrawnRows
namespace Go.Proofs.Ytfffncaonpokpaa
open Go.RowKit

/-- block p is a ring of so many places, over the row g, with the things xs -/
def IsRing (w : World) (p g size : Nat) (xs : List Int) : Prop :=
  size ≤ 1024 ∧ g ≠ p ∧ ∃ (cap first : Nat) (buf : List Int), Blk w p 83 #[.slice (some ⟨g, 0, none⟩) size cap, .int .i64 first, .int .i64 xs.length] ∧ w.ownsRow 0 3 1 (.slice (some ⟨g, 0, none⟩) size cap) size (ints buf) ∧ RB buf first xs ∧ buf.length = size

theorem IsRing.len_le {w : World} {p g size : Nat} {xs : List Int} (h : IsRing w p g size xs) : xs.length ≤ size := by
  obtain ⟨_, _, cap, first, buf, _, _, hr, hb⟩ := h
  rw [← hb]; exact hr.1
theorem IsRing.lt {w : World} {p g size : Nat} {xs : List Int} (h : IsRing w p g size xs) : p < w.heap.size ∧ g < w.heap.size := by
  obtain ⟨_, _, cap, first, buf, hv, ho, _⟩ := h
  exact ⟨hv.lt, (ho.lt g rfl).2⟩
theorem IsRing.only {w w' : World} {p g size : Nat} {xs : List Int} {ks : List Nat} (h : IsRing w p g size xs) (ho : Only ks w w') (hp : p ∉ ks) (hg : g ∉ ks) : IsRing w' p g size xs := by
  obtain ⟨hs, hne, cap, first, buf, hv, hr, hb⟩ := h
  exact ⟨hs, hne, cap, first, buf, ho.blk hv hp, ho.own hr (fun k e => by simp [Value.ownBlock] at e; subst e; exact hg), hb⟩
theorem IsRing.below {w w' : World} {p g size : Nat} {xs : List Int} (h : IsRing w p g size xs) {C : Nat} (hb : Below C w w') (hC : w.heap.size ≤ C) : IsRing w' p g size xs :=
  h.only (ks := []) (Only.of_below (hb.mono hC)) (by simp) (by simp)
theorem IsRing.alloc {w : World} {p g size : Nat} {xs : List Int} (h : IsRing w p g size xs) (o : Obj) : IsRing (w.alloc o) p g size xs := h.below ((Below.refl w.heap.size w).alloc (Nat.le_refl _) o) (Nat.le_refl _)
theorem IsRing.drewN {w : World} {p g size : Nat} {xs : List Int} (h : IsRing w p g size xs) (n : Nat) : IsRing (w.drewN n) p g size xs := h

set_option maxRecDepth 100000 in
set_option maxHeartbeats 400000 in
theorem ring_new_ok (size : Nat) (h : size ≤ 1024) (w : World) :
    Calls Try.prog 24 #[.int .i64 size] w fun e w' => ∃ p g, e = .returned (.tuple #[.pointer (some ⟨p, 0, none⟩), .int .i64 0]) ∧ w.heap.size ≤ p ∧ w.heap.size ≤ g ∧ IsRing w' p g size [] ∧ Below w.heap.size w w' := by
  obtain ⟨i0, hi, hz0, hz1, hz2⟩ := info_parts info_int
  go_enter Try.func24, Try.ntmps24
  go_wp2_with (at_make; refine wpList_make_full _ rfl _ _ 34 rfl 0 3 i0 (.int .i64 0) 1 Try.underlying34 hi hz0 hz1 .i64 .i64 _ _ size rfl rfl rfl rfl (by rw [hz2]; omega) (by unfold maxLen; omega) (Nat.zero_le _) ?_; intro w1 hown hgrow)
  go_ret2
  have hs := hgrow.size
  have hown' : w1.ownsRow 0 3 1 (.slice (some ⟨w.heap.size, 0, none⟩) size size) size (ints (List.replicate size 0)) := by
    have := hown
    rw [show (Value.int IntKind.i64 0).cells = #[.int .i64 0] from rfl, toList_madeCells_one, Nat.mul_one] at this
    simpa [ints] using this
  have hlt := (hown'.lt w.heap.size rfl).2
  exact ⟨_, _, rfl, hs, Nat.le_refl _, ⟨h, by omega, size, 0, List.replicate size 0, Blk.new _ _ _, hown'.alloc _, RB.nil_ _, by simp⟩, ((Below.refl _ _).grown hgrow (Nat.le_refl _) (fun k e => by cases e)).alloc hs _⟩

set_option maxHeartbeats 400000 in
theorem ring_new_no (size : Int) (h : size < 0 ∨ 1024 < size) (w : World) :
    Calls Try.prog 24 #[.int .i64 size] w fun e w' => e = .returned (.tuple #[.pointer none, .int .i64 11]) ∧ w = w' := by
  rcases h with h | h
  · go_enter Try.func24, Try.ntmps24
    go_wp2
    go_ret2
    exact ⟨rfl, rfl⟩
  · have h0 : ¬ size < 0 := by omega
    go_enter Try.func24, Try.ntmps24
    go_wp2
    go_ret2
    exact ⟨rfl, rfl⟩

set_option maxHeartbeats 400000 in
theorem ring_len {p g size : Nat} {xs : List Int} (w : World) (h : IsRing w p g size xs) :
    Calls Try.prog 27 #[.pointer (some ⟨p, 0, none⟩)] w fun e w' => e = .returned (.int .i64 xs.length) ∧ w = w' := by
  obtain ⟨_, _, cap, first, buf, hv, _⟩ := h
  have h2 := hv.cell 2
  simp at h2
  clear hv
  go_enter Try.func27, Try.ntmps27
  go_wp2
  go_ret
  exact ⟨rfl, rfl⟩

set_option maxHeartbeats 400000 in
theorem ring_size {p g size : Nat} {xs : List Int} (w : World) (h : IsRing w p g size xs) :
    Calls Try.prog 42 #[.pointer (some ⟨p, 0, none⟩)] w fun e w' => e = .returned (.int .i64 size) ∧ w = w' := by
  obtain ⟨_, _, cap, first, buf, hv, _⟩ := h
  have h2 := hv.cell 0
  simp at h2
  clear hv
  go_enter Try.func42, Try.ntmps42
  go_wp2
  go_ret
  exact ⟨rfl, rfl⟩

set_option maxHeartbeats 400000 in
/-- place, out of the ring's own three cells -/
theorem ring_place_raw (p g cap first size i : Nat) (w : World) (hs : 0 < size) (hs' : size ≤ 1024) (hf : first < size) (hi : i ≤ size) (h0 : w.cell? ⟨p, 0, none⟩ = some (.slice (some ⟨g, 0, none⟩) size cap)) (h1 : w.cell? ⟨p, 1, none⟩ = some (.int .i64 first)) :
    Calls Try.prog 51 #[.pointer (some ⟨p, 0, none⟩), .int .i64 i] w fun e w' => e = .returned (.int .i64 ((first + i) % size : Nat)) ∧ ∃ n, w.drewN n = w' := by
  have hne : ((size : Int) == 0) = false := by rw [beq_eq_false_iff_ne]; omega
  go_enter Try.func51, Try.ntmps51
  go_wp2_with fail
  go_quiet (fail)
  go_wp2
  go_ret
  exact ⟨by simp, nq, rfl⟩


theorem IsRing.at_ {w : World} {p g size : Nat} {xs : List Int} (h : IsRing w p g size xs) : ∃ (cap first : Nat), w.cell? ⟨p, 0, none⟩ = some (.slice (some ⟨g, 0, none⟩) size cap) ∧ w.cell? ⟨p, 1, none⟩ = some (.int .i64 first) ∧ w.cell? ⟨p, 2, none⟩ = some (.int .i64 xs.length) ∧
    (0 < size → first < size) ∧ size ≤ cap ∧ ∀ i, i < xs.length → w.cell? ⟨g, (first + i) % size, none⟩ = some (.int .i64 (xs[i]?.getD 0)) := by
  obtain ⟨_, _, cap, first, buf, hv, ho, hr, hl⟩ := h
  have h0 := hv.cell 0
  have h1 := hv.cell 1
  have h2 := hv.cell 2
  simp at h0 h1 h2
  refine ⟨cap, first, h0, h1, h2, fun hs => by have := hr.2.1 (by omega); omega, ?_, fun i hi => ?_⟩
  · rcases ho.2 with ⟨h', _⟩ | ⟨g', cap', cur, h', _, _, hn, _⟩
    · simp at h'
    · injection h' with _ _ h'; omega
  · have hlt : (first + i) % size < size := Nat.mod_lt _ (by have := hr.1; omega)
    rw [ho.cellAt _ (by omega)]
    have hb : (first + i) % size < buf.length := by omega
    have := hr.2.2 i hi
    rw [hl] at this
    rw [← this]
    simp [ints, hb]

set_option maxHeartbeats 1000000 in
theorem ring_at_yes {p g size : Nat} {xs : List Int} (w : World) (h : IsRing w p g size xs) (k : Nat) (hk : k < xs.length) :
    Calls Try.prog 50 #[.pointer (some ⟨p, 0, none⟩), .int .i64 k] w fun e w' => e = .returned (.tuple #[.int .i64 (xs[k]?.getD 0), .bool true]) ∧ ∃ n, w.drewN n = w' := by
  have hle := h.len_le
  have hsz := h.1
  obtain ⟨cap, first, h0, h1, h2, hf, hcap, hx⟩ := h.at_
  have hxk := hx k hk
  have hf' := hf (by omega)
  have hlt : (first + k) % size < size := Nat.mod_lt _ (by omega)
  have pl := fun W (c0 : W.cell? ⟨p, 0, none⟩ = some (.slice (some ⟨g, 0, none⟩) size cap)) (c1 : W.cell? ⟨p, 1, none⟩ = some (.int .i64 first)) => ring_place_raw p g cap first size k W (by omega) hsz hf' (by omega) c0 c1
  have PL := Lib.hid pl
  generalize (first + k) % size = m at hxk hlt PL
  generalize xs[k]?.getD 0 = z at hxk
  clear hx hf pl
  go_enter Try.func50, Try.ntmps50
  go_wp2_with fail
  go_quiet ((go_at_call 51; exact quiet_ex (PL.out _ h0 h1)))
  go_wp2
  go_ret2
  exact ⟨rfl, nq, rfl⟩

end Go.Proofs.Ytfffncaonpokpaa
