/- The statements' step on a line, the other kinds; conditions as in LineP. -/
import Derived.Test.YtfffncaonpokpaaLineP
namespace Go.Proofs.Ytfffncaonpokpaa
open Go.RowKit

attribute [local go_sem ↓] Go.wp_at_zero Go.wp_at_succ
attribute [local go_sem] sliced_cut

set_option maxRecDepth 100000 in
set_option maxHeartbeats 4000000 in
theorem step24_at_no {p B c1 c2 : Nat} {r : Option Nat} {A1 A2 : Option Addr} {most : Int} {xs ys : List Int} (kind N : Int) (w : World) (hI : IsLineR w p B r most (xs ++ ys) xs.length) (h1 : Lst w p (rowOr p r) (.slice A1 xs.length c1) xs) (h2 : Lst w p (rowOr p r) (.slice A2 ys.length c2) ys) (hml : xs.length + ys.length ≤ 32) (hk : kind ≠ 1 ∧ kind ≠ 2 ∧ kind ≠ 3 ∧ kind ≠ 4) (hf : N < 0 ∨ ((xs ++ ys).length : Int) ≤ N) :
    Calls Try.prog 37 #[.pointer (some ⟨p, 0, none⟩), .slice A1 xs.length c1, .slice A2 ys.length c2, .int .i64 most, .agg #[.int .i64 kind, .int .i64 N]] w (StepL p B r most w) := by
  have HF := Lib.hid hf
  have k1 : ¬ (0 ≤ N) ∨ (0 ≤ N ∧ ¬ (N < (xs.length : Int) + (ys.length : Int))) := by rw [List.length_append] at hf; omega
  clear hf
  obtain ⟨q1, q2, q3, q4⟩ := hk
  rcases k1 with k1 | ⟨k1, k2⟩
  · skip
    obtain ⟨i0, hi, hz0, hz1, hz2⟩ := info_parts info_int
    have hpr : p < w.heap.size ∧ ∀ k, r = some k → k < w.heap.size := ⟨hI.lt.1, fun k e => (hI.lt.2 k e).2.1⟩
    have hH0 := lineHeld_new kind N hI h1 h2
    have hl1 : xs.length ≤ 32 := by omega
    have hl2 : ys.length ≤ 32 := by omega
    have hsB : (w.alloc (.cells #[.int .i64 kind, .int .i64 N] 29)).heap.size = w.heap.size + 1 := by simp
    go_enter Try.func37, Try.ntmps37
    go_wp2_with (at_builtin; first
      | (refine wpList_append_any _ rfl _ _ 34 rfl (w.heap.size + 1) 3 i0 (.int .i64 0) 1 8 Try.underlying34 hi hz0 hz1 hz2 rfl (by decide) _ 0 [] rfl (ownsRow_fresh' _ (w.heap.size + 1) hsB) w.heap.size A1 xs.length c1 (ints xs) rfl (hH0.alloc hpr _).r1 ints_one (by unfold maxLen; omega) (by omega) (by simp) ?_; intro va wa howna hgrowa hvba; have hHa := (hH0.alloc hpr (.cells #[] 3)).grown hpr hgrowa (by intro k e; cases e; first | (simp; done) | (simp; omega) | omega); have hsa := hgrowa.size; simp at hsa; have hca := hHa.box.cell 1; simp at hca)
      | (refine wpList_append_any _ rfl _ _ 34 rfl (w.heap.size + 1) 3 i0 (.int .i64 0) 1 8 Try.underlying34 hi hz0 hz1 hz2 rfl (by decide) va _ _ rfl howna w.heap.size A2 ys.length c2 (ints ys) rfl hHa.r2 ints_one (by unfold maxLen; omega) (by omega) (by omega) ?_; intro vb wb hownb hgrowb hvbb; have hHb := hHa.grown hpr hgrowb (by intro k e; have := (howna.lt k e).1; omega); have hsb := hgrowb.size; rw [Nat.zero_add, List.nil_append] at hownb; obtain ⟨Aall, call, rfl, _⟩ := own_form hownb; have hcb := hHb.box.cell 1; have hcb0 := hHb.box.cell 0; simp at hcb hcb0))
    all_goals (refine (line_at_no _ hHb.line.line N HF.out).mono ?_)
    all_goals (rintro e w5 ⟨rfl, rfl⟩)
    all_goals (go_wp2_with fail)
    all_goals (go_ret3)
    all_goals (exact stepL_tuple hHb.line hHb.l1 hHb.l2 (Lined.of_below hHb.below))
  · skip
    obtain ⟨i0, hi, hz0, hz1, hz2⟩ := info_parts info_int
    have hpr : p < w.heap.size ∧ ∀ k, r = some k → k < w.heap.size := ⟨hI.lt.1, fun k e => (hI.lt.2 k e).2.1⟩
    have hH0 := lineHeld_new kind N hI h1 h2
    have hl1 : xs.length ≤ 32 := by omega
    have hl2 : ys.length ≤ 32 := by omega
    have hsB : (w.alloc (.cells #[.int .i64 kind, .int .i64 N] 29)).heap.size = w.heap.size + 1 := by simp
    go_enter Try.func37, Try.ntmps37
    go_wp2_with (at_builtin; first
      | (refine wpList_append_any _ rfl _ _ 34 rfl (w.heap.size + 1) 3 i0 (.int .i64 0) 1 8 Try.underlying34 hi hz0 hz1 hz2 rfl (by decide) _ 0 [] rfl (ownsRow_fresh' _ (w.heap.size + 1) hsB) w.heap.size A1 xs.length c1 (ints xs) rfl (hH0.alloc hpr _).r1 ints_one (by unfold maxLen; omega) (by omega) (by simp) ?_; intro va wa howna hgrowa hvba; have hHa := (hH0.alloc hpr (.cells #[] 3)).grown hpr hgrowa (by intro k e; cases e; first | (simp; done) | (simp; omega) | omega); have hsa := hgrowa.size; simp at hsa; have hca := hHa.box.cell 1; simp at hca)
      | (refine wpList_append_any _ rfl _ _ 34 rfl (w.heap.size + 1) 3 i0 (.int .i64 0) 1 8 Try.underlying34 hi hz0 hz1 hz2 rfl (by decide) va _ _ rfl howna w.heap.size A2 ys.length c2 (ints ys) rfl hHa.r2 ints_one (by unfold maxLen; omega) (by omega) (by omega) ?_; intro vb wb hownb hgrowb hvbb; have hHb := hHa.grown hpr hgrowb (by intro k e; have := (howna.lt k e).1; omega); have hsb := hgrowb.size; rw [Nat.zero_add, List.nil_append] at hownb; obtain ⟨Aall, call, rfl, _⟩ := own_form hownb; have hcb := hHb.box.cell 1; have hcb0 := hHb.box.cell 0; simp at hcb hcb0))
    all_goals (refine (line_at_no _ hHb.line.line N HF.out).mono ?_)
    all_goals (rintro e w5 ⟨rfl, rfl⟩)
    all_goals (go_wp2_with fail)
    all_goals (go_ret3)
    all_goals (exact stepL_tuple hHb.line hHb.l1 hHb.l2 (Lined.of_below hHb.below))

set_option maxRecDepth 100000 in
set_option maxHeartbeats 4000000 in
theorem step24_at_yes {p B c1 c2 : Nat} {r : Option Nat} {A1 A2 : Option Addr} {most : Int} {xs ys : List Int} (kind : Int) (n : Nat) (w : World) (hI : IsLineR w p B r most (xs ++ ys) xs.length) (h1 : Lst w p (rowOr p r) (.slice A1 xs.length c1) xs) (h2 : Lst w p (rowOr p r) (.slice A2 ys.length c2) ys) (hml : xs.length + ys.length ≤ 32) (hk : kind ≠ 1 ∧ kind ≠ 2 ∧ kind ≠ 3 ∧ kind ≠ 4) (hn : n < (xs ++ ys).length) :
    Calls Try.prog 37 #[.pointer (some ⟨p, 0, none⟩), .slice A1 xs.length c1, .slice A2 ys.length c2, .int .i64 most, .agg #[.int .i64 kind, .int .i64 n]] w (StepL p B r most w) := by
  obtain ⟨q1, q2, q3, q4⟩ := hk
  have HN := Lib.hid hn
  have k0 : (0 : Int) ≤ (n : Int) := by omega
  have k1 : (n : Int) < (xs.length : Int) + (ys.length : Int) := by rw [List.length_append] at hn; omega
  clear hn
  obtain ⟨i0, hi, hz0, hz1, hz2⟩ := info_parts info_int
  have hpr : p < w.heap.size ∧ ∀ k, r = some k → k < w.heap.size := ⟨hI.lt.1, fun k e => (hI.lt.2 k e).2.1⟩
  have hH0 := lineHeld_new kind n hI h1 h2
  have hl1 : xs.length ≤ 32 := by omega
  have hl2 : ys.length ≤ 32 := by omega
  have hsB : (w.alloc (.cells #[.int .i64 kind, .int .i64 n] 29)).heap.size = w.heap.size + 1 := by simp
  go_enter Try.func37, Try.ntmps37
  go_wp2_with (at_builtin; first
    | (refine wpList_append_any _ rfl _ _ 34 rfl (w.heap.size + 1) 3 i0 (.int .i64 0) 1 8 Try.underlying34 hi hz0 hz1 hz2 rfl (by decide) _ 0 [] rfl (ownsRow_fresh' _ (w.heap.size + 1) hsB) w.heap.size A1 xs.length c1 (ints xs) rfl (hH0.alloc hpr _).r1 ints_one (by unfold maxLen; omega) (by omega) (by simp) ?_; intro va wa howna hgrowa hvba; have hHa := (hH0.alloc hpr (.cells #[] 3)).grown hpr hgrowa (by intro k e; cases e; first | (simp; done) | (simp; omega) | omega); have hsa := hgrowa.size; simp at hsa; have hca := hHa.box.cell 1; simp at hca)
    | (refine wpList_append_any _ rfl _ _ 34 rfl (w.heap.size + 1) 3 i0 (.int .i64 0) 1 8 Try.underlying34 hi hz0 hz1 hz2 rfl (by decide) va _ _ rfl howna w.heap.size A2 ys.length c2 (ints ys) rfl hHa.r2 ints_one (by unfold maxLen; omega) (by omega) (by omega) ?_; intro vb wb hownb hgrowb hvbb; have hHb := hHa.grown hpr hgrowb (by intro k e; have := (howna.lt k e).1; omega); have hsb := hgrowb.size; rw [Nat.zero_add, List.nil_append] at hownb; obtain ⟨Aall, call, rfl, _⟩ := own_form hownb; have hcb := hHb.box.cell 1; have hcb0 := hHb.box.cell 0; simp at hcb hcb0))
  all_goals (have hAt := line_at_yes _ hHb.line.line n HN.out (by rw [List.length_append]; omega))
  all_goals (rw [show ints xs ++ ints ys = ints (xs ++ ys) by simp [ints]] at hownb)
  all_goals (obtain ⟨b, off, rfl, _, hcl⟩ := intsAt_own hownb n HN.out)
  all_goals (generalize (xs ++ ys)[n]?.getD 0 = z at hcl hAt)
  all_goals (clear hownb)
  all_goals (refine hAt.mono ?_)
  all_goals (rintro e w5 ⟨rfl, rfl⟩)
  all_goals (go_wp2_with fail)
  all_goals (go_ret3)
  all_goals (exact stepL_tuple hHb.line hHb.l1 hHb.l2 (Lined.of_below hHb.below))

end Go.Proofs.Ytfffncaonpokpaa
