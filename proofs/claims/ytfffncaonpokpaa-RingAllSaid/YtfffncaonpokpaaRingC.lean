/- More walks of package ring: Cut, Copy; conditions: the receiver is a ring. -/
import Derived.Test.YtfffncaonpokpaaRingP
namespace Go.Proofs.Ytfffncaonpokpaa
open Go.RowKit

attribute [local go_sem ↓] Go.wp_at_zero Go.wp_at_succ

set_option maxHeartbeats 400000 in
theorem ring_cut_no {p g size : Nat} {xs : List Int} (w : World) (h : IsRing w p g size xs) (n : Int) (hn : n < 0 ∨ (xs.length : Int) < n) :
    Calls Try.prog 47 #[.pointer (some ⟨p, 0, none⟩), .int .i64 n] w fun e w' => e = .returned (.bool false) ∧ w = w' := by
  obtain ⟨cap, first, h0, h1, h2, _, hcap, hx⟩ := h.at_
  clear hx
  rcases hn with hn | hn
  · go_enter Try.func47, Try.ntmps47
    go_wp2
    go_ret
    exact ⟨rfl, rfl⟩
  · have hn0 : ¬ n < 0 := by omega
    go_enter Try.func47, Try.ntmps47
    go_wp2
    go_ret
    exact ⟨rfl, rfl⟩

set_option maxHeartbeats 1000000 in
theorem ring_cut_yes {p g size : Nat} {xs : List Int} (w : World) (h : IsRing w p g size xs) (n : Nat) (hn : n ≤ xs.length) :
    Calls Try.prog 47 #[.pointer (some ⟨p, 0, none⟩), .int .i64 n] w fun e w' => e = .returned (.bool true) ∧ IsRing w' p g size (xs.take n) ∧ Only [p, g] w w' := by
  obtain ⟨hsz, hne, cap, first, buf, hv, ho, hr, hbl⟩ := h
  have hle := hr.1
  have h2 := hv.cell 2
  simp at h2
  have hF := ring_forget_raw p g cap first size n (xs.length - n) buf w hsz (fun hs => by have := hr.2.1 (by omega); omega) hbl (by omega) (.int .i64 xs.length) (n : Int) (xs.length : Int) rfl (by omega) hv ho
  have hrt := forgot_take (xs.length - n) n buf (hr.take_ n) (by simp; omega) (by omega)
  have hfl := forgot_length first (xs.length - n) n buf
  have HF := Lib.hid hF
  have HR := Lib.hid (And.intro hrt hfl)
  clear hF hrt hfl hr hv ho
  go_enter Try.func47, Try.ntmps47
  go_wp2_with fail
  refine HF.out.mono ?_
  rintro e w1 ⟨rfl, hv1, ho1, hg1⟩
  have hf2 := hv1.frozen 2
  have h2' := hv1.cell 2
  simp at h2'
  have Hv := Lib.hid hv1
  have hO1 : Only [p, g] w w1 := Only.refl.grown hg1 (fun k e => by cases e; exact .inl (by simp))
  clear hv1
  go_wp2
  go_ret
  refine ⟨rfl, ⟨hsz, hne, cap, first, _, ?_, ownsRow_setCell_other (a := ⟨p, 2, none⟩) ho1 (by simp [Value.ownBlock, hne]) _, HR.out.1, by rw [HR.out.2]; exact hbl⟩, hO1.setCell (.inl (by simp)) _⟩
  have := Hv.out.set_ 2 (.int .i64 (n : Int))
  rw [show ((xs.take n).length : Int) = n by simp; omega]
  simpa using this

theorem own_base {w : World} {B e size n : Nat} {v : Value} {xs : List Value} (h : w.ownsRow B e size v n xs) : w.ownsRow 0 e size v n xs := by
  refine ⟨h.1, ?_⟩
  rcases h.2 with h0 | ⟨g, cap, cur, rfl, _, hg, rest⟩
  · exact .inl h0
  · exact .inr ⟨g, cap, cur, rfl, Nat.zero_le _, hg, rest⟩

set_option maxHeartbeats 2000000 in
theorem ring_copy {p g size : Nat} {xs : List Int} (w : World) (h : IsRing w p g size xs) :
    Calls Try.prog 46 #[.pointer (some ⟨p, 0, none⟩)] w fun e w' => ∃ p' g', e = .returned (.pointer (some ⟨p', 0, none⟩)) ∧ w.heap.size ≤ p' ∧ w.heap.size ≤ g' ∧ IsRing w' p' g' size xs ∧ Below w.heap.size w w' := by
  obtain ⟨hsz, hne, cap, first, buf, hv, ho, hr, hbl⟩ := h
  have h0 := hv.cell 0
  have h1 := hv.cell 1
  have h2 := hv.cell 2
  simp at h0 h1 h2
  have hpl := hv.lt
  have hcl := fun (n : Nat) => Try.slices_Clone_int g 0 size cap buf (w.drewN n) (by omega) (by omega) (fun j hj => by
    show w.cell? _ = _
    rw [Nat.zero_add, ho.cellAt j (by omega)]
    simp [ints, hj])
  rw [List.take_of_length_le (by omega)] at hcl
  have HC := Lib.hid hcl
  have HR := Lib.hid hr
  clear hcl hr hv ho
  go_enter Try.func46, Try.ntmps46
  go_wp2_with fail
  go_region_held3 (fun w' => w'.cell? ⟨p, 0, none⟩ = some (.slice (some ⟨g, 0, none⟩) size cap) ∧ w'.cell? ⟨p, 1, none⟩ = some (.int .i64 first) ∧ w'.cell? ⟨p, 2, none⟩ = some (.int .i64 xs.length)) (go_keep)
    (first | (go_at_call 59; refine (HC.out 1).mono ?_; rintro e w1 ⟨v', rfl, hown, hnn, hb⟩; obtain ⟨g', cap', rfl, hg', hgl'⟩ := own_shape hown hnn; have q0 := (hb.cell (p := ⟨p, 0, none⟩) hpl).trans h0; have q1 := (hb.cell (p := ⟨p, 1, none⟩) hpl).trans h1; have q2 := (hb.cell (p := ⟨p, 2, none⟩) hpl).trans h2))
  go_wp2
  go_ret
  have hb' : Below w.heap.size w w1 := ⟨hb.os, hb.tape, hb.output, hb.size, hb.block⟩
  have hs := hb'.size
  have hne' : g' ≠ w1.heap.size := by omega
  refine ⟨_, _, rfl, hs, hg', ⟨hsz, hne', cap', first, buf, Blk.new _ _ _, (own_base hown).alloc _, HR.out, hbl⟩, hb'.alloc hs _⟩

end Go.Proofs.Ytfffncaonpokpaa
