/- The statements' step on a line: Remove of one that waits; conditions as in LineP. -/
import Derived.Test.YtfffncaonpokpaaLineW
namespace Go.Proofs.Ytfffncaonpokpaa
open Go.RowKit

attribute [local go_sem ↓] Go.wp_at_zero Go.wp_at_succ
attribute [local go_sem] sliced_zero

theorem lineR_cut2 {w : World} {p B : Nat} {r : Option Nat} {most : Int} {i k : Nat} {xs ys : List Int} (h : IsLineR w p B r most ((xs ++ ys).take i ++ (xs ++ ys).drop (i + 1)) (runsBut i xs.length)) (hi : i = xs.length + k) : IsLineR w p B r most (xs ++ (ys.take k ++ ys.drop (k + 1))) xs.length := by
  subst hi
  have e1 : (xs ++ ys).take (xs.length + k) = xs ++ ys.take k := by rw [List.take_append, List.take_of_length_le (by omega)]; simp
  have e2 : (xs ++ ys).drop (xs.length + k + 1) = ys.drop (k + 1) := by rw [Nat.add_assoc]; simp [List.drop_append]
  rw [e1, e2, show runsBut (xs.length + k) xs.length = xs.length from if_neg (by omega), List.append_assoc] at h
  exact h

set_option maxRecDepth 100000 in
set_option maxHeartbeats 4000000 in
theorem step24_remove_wait {p B c1 c2 : Nat} {r : Option Nat} {A1 A2 : Option Addr} {most : Int} {xs ys : List Int} (i k : Nat) (w : World) (hI : IsLineR w p B r most (xs ++ ys) xs.length) (h1 : Lst w p (rowOr p r) (.slice A1 xs.length c1) xs) (h2 : Lst w p (rowOr p r) (.slice A2 ys.length c2) ys) (hml : xs.length + ys.length ≤ 32) (hk : k < ys.length) (hik : i = xs.length + k) :
    Calls Try.prog 37 #[.pointer (some ⟨p, 0, none⟩), .slice A1 xs.length c1, .slice A2 ys.length c2, .int .i64 most, .agg #[.int .i64 4, .int .i64 i]] w (StepL p B r most w) := by
  have n1 : (0 : Int) ≤ (i : Int) := by omega
  have n2 : (i : Int) < (xs.length : Int) + (ys.length : Int) := by omega
  have n3 : ¬ ((i : Int) < (xs.length : Int)) := by omega
  have n4 : (i : Int) - (xs.length : Int) = (k : Int) := by omega
  have m1 : (0 : Int) ≤ (k : Int) := by omega
  have m3 : (k : Int) < (ys.length : Int) := by omega
  have m5 : (k : Int) + 1 ≤ (ys.length : Int) := by omega
  have m6 : (0 : Int) ≤ (k : Int) + 1 := by omega
  have m7 : (k : Int) ≤ (k : Int) + 1 := by omega
  have m8 : ((k : Int) + 1).toNat = k + 1 := by omega
  have hlc : ys.length ≤ c2 := by obtain ⟨_, _, e, hc, h00⟩ := h2; cases e; exact hc
  have m4 : (k : Int) ≤ (c2 : Int) := by omega
  have HK := Lib.hid hk
  have HIK := Lib.hid hik
  clear hik
  obtain ⟨i0, hi, hz0, hz1, hz2⟩ := info_parts info_int
  have hpr : p < w.heap.size ∧ ∀ k, r = some k → k < w.heap.size := ⟨hI.lt.1, fun k e => (hI.lt.2 k e).2.1⟩
  have hH0 := lineHeld_new 4 i hI h1 h2
  have hl1 : xs.length ≤ 32 := by omega
  have hl2 : ys.length ≤ 32 := by omega
  have hsB : (w.alloc (.cells #[.int .i64 4, .int .i64 i] 29)).heap.size = w.heap.size + 1 := by simp
  go_enter Try.func37, Try.ntmps37
  go_wp2_with (at_builtin; first
    | (refine wpList_append_any _ rfl _ _ 34 rfl (w.heap.size + 1) 3 i0 (.int .i64 0) 1 8 Try.underlying34 hi hz0 hz1 hz2 rfl (by decide) _ 0 [] rfl (ownsRow_fresh' _ (w.heap.size + 1) hsB) w.heap.size A1 xs.length c1 (ints xs) rfl (hH0.alloc hpr _).r1 ints_one (by unfold maxLen; omega) (by omega) (by simp) ?_; intro va wa howna hgrowa hvba; have hHa := (hH0.alloc hpr (.cells #[] 3)).grown hpr hgrowa (by intro k e; cases e; first | (simp; done) | (simp; omega) | omega); have hsa := hgrowa.size; simp at hsa; have hca := hHa.box.cell 1; simp at hca)
    | (refine wpList_append_any _ rfl _ _ 34 rfl (w.heap.size + 1) 3 i0 (.int .i64 0) 1 8 Try.underlying34 hi hz0 hz1 hz2 rfl (by decide) va _ _ rfl howna w.heap.size A2 ys.length c2 (ints ys) rfl hHa.r2 ints_one (by unfold maxLen; omega) (by omega) (by omega) ?_; intro vb wb hownb hgrowb hvbb; have hHb := hHa.grown hpr hgrowb (by intro k e; have := (howna.lt k e).1; omega); have hsb := hgrowb.size; rw [Nat.zero_add, List.nil_append] at hownb; obtain ⟨Aall, call, rfl, _⟩ := own_form hownb; have hcb := hHb.box.cell 1; have hcb0 := hHb.box.cell 0; simp at hcb hcb0))
  all_goals (refine (lineR_remove _ hHb.line i (by have := HIK.out; have := HK.out; rw [List.length_append]; omega) (by rw [List.length_append]; omega) (by rw [List.length_append]; omega)).mono ?_)
  all_goals (rintro e w5 ⟨rfl, hI5, ho5⟩)
  all_goals (have l15 := hHb.l1.lined ho5)
  all_goals (have l25 := hHb.l2.lined ho5)
  all_goals (have hbx := Lib.hid (ho5.1.blk hHb.box (box_out hpr)))
  all_goals (have hc5 := hbx.out.cell 1)
  all_goals simp at hc5
  all_goals (by_cases hcn : c2 = k + 1)
  all_goals (have R1a : Hid (∀ q, Reads ((w5.alloc (.cells #[] 3)).drewN q) w5.heap.size 1 A2 k (ints (ys.take k))) := Lib.hid (fun q => by rw [ints_sub.1]; exact ((l25.reads.alloc (Nat.le_refl _) _).drewN q).take_ (by omega)))
  all_goals (have R1b : ∃ AA, AA = (if c2 = k + 1 then A2 else A2.map (·.add (k + 1))) ∧ Hid (∀ W, Only [] w5 W → Reads W w5.heap.size 1 AA (ys.length - (k + 1)) (ints (ys.drop (k + 1)))) := ⟨_, rfl, Lib.hid (fun W ho => by
    have h5 := (l25.reads.below (ho.below (Nat.le_refl _) (by simp))).cut (k := k + 1) (cap := c2) (by omega) hlc
    rw [ints_sub.2]
    simpa using h5)⟩)
  all_goals (obtain ⟨AA, hAA, R1b⟩ := R1b)
  all_goals (first | rw [if_pos hcn] at hAA | rw [if_neg hcn] at hAA)
  all_goals (rw [hAA] at R1b)
  all_goals (clear hAA AA)
  all_goals (first | subst hcn | skip)
  all_goals go_wp2_with fail
  all_goals (have m10 : IntKind.i64.wrap ((k : Int) + 1) = (k : Int) + 1 := IntWalk.i64_in _ ⟨by omega, by omega⟩)
  all_goals go_region_held3 (fun w' => w'.cell? ⟨w.heap.size, 1, none⟩ = some (.int .i64 i)) (go_keep) (first
    | (refine step_append_any _ rfl _ _ 34 rfl w5.heap.size 3 i0 (.int .i64 0) 1 8 Try.underlying34 hi hz0 hz1 hz2 rfl (by decide) _ 0 [] rfl (own_drewN (ownsRow_fresh' w5 w5.heap.size rfl) 1) w5.heap.size A2 k _ (ints (ys.take k)) rfl (R1a.out _) ints_one (by unfold maxLen; omega) (by omega) (by first | (simp; done) | (simp; omega) | omega) ?_; intro v3 w3 hown3 hgrow3 hvb3; have hO3 : Only [] w5 w3 := ((Only.refl.alloc (.cells #[] 3)).drewN 1).grown hgrow3 (by intro j e; cases e; exact .inr (Nat.le_refl _)); have hc3 := (hO3.blk hbx.out List.not_mem_nil).cell 1; simp at hc3; have hs3 := hO3.size)
    | (refine step_append_any _ rfl _ _ 34 rfl w5.heap.size 3 i0 (.int .i64 0) 1 8 Try.underlying34 hi hz0 hz1 hz2 rfl (by decide) _ _ _ rfl hown3 w5.heap.size _ _ _ (ints (ys.drop (k + 1))) rfl (by first | exact R1b.out _ hO3 | (have h := R1b.out _ hO3; rw [show ys.length - (k + 1) = 0 by omega] at h; exact h)) ints_one (by unfold maxLen; omega) (by omega) (by omega) ?_; intro v7 w7 hown7 hgrow7 hvb7; have hO7 : Only [] w5 w7 := hO3.grown hgrow7 (by intro j e; exact .inr (hown3.lt j e).1); have hc7 := (hO7.blk hbx.out List.not_mem_nil).cell 1; simp at hc7; have hs7 := hO7.size))
  all_goals go_wp2_with fail
  all_goals go_ret3
  all_goals (have hrw : rowOr p r < w5.heap.size := Nat.lt_of_lt_of_le (rowOr_lt hpr) (Nat.le_trans hHb.below.size ho5.1.size))
  all_goals (have hpw : p < w5.heap.size := hI5.lt.1)
  all_goals (have h10 := own_cut hown7)
  all_goals (have h11 := Lst.of_own (p := p) (g := rowOr p r) h10 hpw hrw)
  all_goals (have h12 := l15.keep hO7 (by simp))
  all_goals (have h13 := lineR_cut2 (hI5.only hO7 List.not_mem_nil (fun _ _ => List.not_mem_nil)) HIK.out)
  all_goals exact stepL_tuple h13 h12 h11 (Lined.then_ hHb.below ⟨ho5.1.trans (Only.of_below (hO7.below (Nat.le_refl _) (by simp))), ho5.2⟩)

end Go.Proofs.Ytfffncaonpokpaa
