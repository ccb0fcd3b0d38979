/- The statements' step on a line: Start; conditions as in LineP. -/
import Derived.Test.YtfffncaonpokpaaLineT
namespace Go.Proofs.Ytfffncaonpokpaa
open Go.RowKit

attribute [local go_sem ↓] Go.wp_at_zero Go.wp_at_succ
attribute [local go_sem] sliced_cut

theorem Lst.first {W : World} {p g c b off : Nat} {xs : List Int} {z : Int} (h : Lst W p g (.slice (some ⟨b, off, none⟩) xs.length c) xs) (h0 : 0 < xs.length) (hz : xs[0]?.getD 0 = z) : W.cell? ⟨b, off, none⟩ = some (.int .i64 z) := by
  obtain ⟨b', off', e, _, hc⟩ := h.at_ 0 h0
  cases e
  rw [Nat.add_zero, hz] at hc
  exact hc

set_option maxRecDepth 100000 in
set_option maxHeartbeats 4000000 in
theorem step24_start_yes {p B c1 c2 : Nat} {r : Option Nat} {A1 A2 : Option Addr} {most : Int} {xs ys : List Int} (N : Int) (w : World) (hI : IsLineR w p B r most (xs ++ ys) xs.length) (h1 : Lst w p (rowOr p r) (.slice A1 xs.length c1) xs) (h2 : Lst w p (rowOr p r) (.slice A2 ys.length c2) ys) (hml : xs.length + ys.length ≤ 32) (hf : 0 < ys.length) :
    Calls Try.prog 37 #[.pointer (some ⟨p, 0, none⟩), .slice A1 xs.length c1, .slice A2 ys.length c2, .int .i64 most, .agg #[.int .i64 2, .int .i64 N]] w (StepL p B r most w) := by
  have hfe : ((ys.length : Int) == 0) = false := by rw [beq_eq_false_iff_ne]; omega
  obtain ⟨b, off, rfl, hbl, hcl⟩ := h2.at_ 0 hf
  have m2 : (0 : Int) < (ys.length : Int) := by omega
  have m3 : (1 : Int) ≤ (ys.length : Int) := by omega
  have m4 : ¬ ys = [] := by intro e; subst e; simp at hf
  have m5 : 0 < ys.length := hf
  have m6 : 1 ≤ ys.length := hf
  have m7 : ¬ (ys.length = 0) := by omega
  have hlc : ys.length ≤ c2 := by obtain ⟨_, _, e, hc, h00⟩ := h2; cases e; exact hc
  obtain ⟨y0, hy0⟩ : ∃ y0, ys[0]?.getD 0 = y0 := ⟨_, rfl⟩
  have hyd : ys = [y0] ++ ys.drop 1 := by
    cases ys with
    | nil => simp at hf
    | cons a t => simp at hy0; simp [hy0]
  have HY := Lib.hid hy0
  have HD := Lib.hid hyd
  have HF := Lib.hid hf
  clear hf hy0 hyd hcl
  obtain ⟨i0, hi, hz0, hz1, hz2⟩ := info_parts info_int
  have hpr : p < w.heap.size ∧ ∀ k, r = some k → k < w.heap.size := ⟨hI.lt.1, fun k e => (hI.lt.2 k e).2.1⟩
  have hH0 := lineHeld_new 2 N hI h1 h2
  have hl1 : xs.length ≤ 32 := by omega
  have hl2 : ys.length ≤ 32 := by omega
  have hsB : (w.alloc (.cells #[.int .i64 2, .int .i64 N] 29)).heap.size = w.heap.size + 1 := by simp
  go_enter Try.func37, Try.ntmps37
  go_wp2_with (at_builtin; first
    | (refine wpList_append_any _ rfl _ _ 34 rfl (w.heap.size + 1) 3 i0 (.int .i64 0) 1 8 Try.underlying34 hi hz0 hz1 hz2 rfl (by decide) _ 0 [] rfl (ownsRow_fresh' _ (w.heap.size + 1) hsB) w.heap.size A1 xs.length c1 (ints xs) rfl (hH0.alloc hpr _).r1 ints_one (by unfold maxLen; omega) (by omega) (by simp) ?_; intro va wa howna hgrowa hvba; have hHa := (hH0.alloc hpr (.cells #[] 3)).grown hpr hgrowa (by intro k e; cases e; first | (simp; done) | (simp; omega) | omega); have hsa := hgrowa.size; simp at hsa; have hca := hHa.box.cell 1; simp at hca)
    | (refine wpList_append_any _ rfl _ _ 34 rfl (w.heap.size + 1) 3 i0 (.int .i64 0) 1 8 Try.underlying34 hi hz0 hz1 hz2 rfl (by decide) va _ _ rfl howna w.heap.size (some ⟨b, off, none⟩) ys.length c2 (ints ys) rfl hHa.r2 ints_one (by unfold maxLen; omega) (by omega) (by omega) ?_; intro vb wb hownb hgrowb hvbb; have hHb := hHa.grown hpr hgrowb (by intro k e; have := (howna.lt k e).1; omega); have hsb := hgrowb.size; rw [Nat.zero_add, List.nil_append] at hownb; obtain ⟨Aall, call, rfl, _⟩ := own_form hownb; have hcb := hHb.box.cell 1; have hcb0 := hHb.box.cell 0; simp at hcb hcb0))
  all_goals have hswb := hHb.box.lt
  all_goals have hcw := hHb.l2.first HF.out HY.out
  all_goals (by_cases hcn : c2 = 1)
  all_goals go_region_held3 (fun w' => w'.cell? ⟨b, off, none⟩ = some (.int .i64 y0)) (go_keep) (first
    | (refine step_append_any _ rfl (.tmp 73) (.tmp 74) 34 rfl wb.heap.size 3 i0 (.int .i64 0) 1 8 Try.underlying34 hi hz0 hz1 hz2 rfl (by decide) _ 0 [] rfl (own_drewN (ownsRow_fresh' wb wb.heap.size rfl) 1) w.heap.size A1 xs.length c1 (ints xs) rfl ((hHb.alloc hpr (.cells #[] 3)).drewN hpr 1).r1 ints_one (by unfold maxLen; omega) (by omega) (by first | (simp; done) | (simp; omega) | omega) ?_; intro v3 w3 hown3 hgrow3 hvb3; have hH3 := ((hHb.alloc hpr (.cells #[] 3)).drewN hpr 1).grown hpr hgrow3 (by intro k e; cases e; first | (simp; done) | (simp; omega) | omega); have hc3 := hH3.l2.first HF.out HY.out; have hs3 := hgrow3.size; simp at hs3)
    | (refine step_append_any _ rfl (.tmp 73) (.tmp 74) 34 rfl wb.heap.size 3 i0 (.int .i64 0) 1 8 Try.underlying34 hi hz0 hz1 hz2 rfl (by decide) _ 0 [] rfl (own_drewN ((ownsRow_fresh' wb wb.heap.size rfl).alloc (.cells #[.int .i64 y0] 3)) 1) w.heap.size A1 xs.length c1 (ints xs) rfl (((hHb.alloc hpr (.cells #[] 3)).alloc hpr (.cells #[.int .i64 y0] 3)).drewN hpr 1).r1 ints_one (by unfold maxLen; omega) (by omega) (by first | (simp; done) | (simp; omega) | omega) ?_; intro v3 w3 hown3 hgrow3 hvb3; have hH3 := (((hHb.alloc hpr (.cells #[] 3)).alloc hpr (.cells #[.int .i64 y0] 3)).drewN hpr 1).grown hpr hgrow3 (by intro k e; cases e; first | (simp; done) | (simp; omega) | omega); have hc3 := hH3.l2.first HF.out HY.out; have hs3 := hgrow3.size; simp at hs3; have hN3 : w3.cell? ⟨wb.heap.size + 1, 0, none⟩ = some (.int .i64 y0) := (World.cell?_of_block (hgrow3.block (wb.heap.size + 1) (by first | (simp; done) | (simp; omega)) (fun e => by have e' := Option.some.inj e; dsimp only at e'; omega))).trans (by simp))
    | (refine step_append_any _ rfl (.tmp 73) (.tmp 74) 34 rfl wb.heap.size 3 i0 (.int .i64 0) 1 8 Try.underlying34 hi hz0 hz1 hz2 rfl (by decide) _ 0 [] rfl (own_weaken (own_drewN (ownsRow_fresh' (wb.alloc (.cells #[.int .i64 y0] 3)) (wb.heap.size + 1) (by simp)) 1) (by omega)) w.heap.size A1 xs.length c1 (ints xs) rfl (((hHb.alloc hpr (.cells #[.int .i64 y0] 3)).alloc hpr (.cells #[] 3)).drewN hpr 1).r1 ints_one (by unfold maxLen; omega) (by omega) (by first | (simp; done) | (simp; omega) | omega) ?_; intro v3 w3 hown3 hgrow3 hvb3; have hH3 := (((hHb.alloc hpr (.cells #[.int .i64 y0] 3)).alloc hpr (.cells #[] 3)).drewN hpr 1).grown hpr hgrow3 (by intro k e; cases e; first | (simp; done) | (simp; omega) | omega); have hc3 := hH3.l2.first HF.out HY.out; have hs3 := hgrow3.size; simp at hs3; have hN3 : w3.cell? ⟨wb.heap.size, 0, none⟩ = some (.int .i64 y0) := (World.cell?_of_block (hgrow3.block (wb.heap.size) (by first | (simp; done) | (simp; omega)) (fun e => by have e' := Option.some.inj e; dsimp only at e'; omega))).trans (by simp))
    | (refine step_append_any _ rfl (.tmp 75) (.tmp 79) 34 rfl wb.heap.size 3 i0 (.int .i64 0) 1 8 Try.underlying34 hi hz0 hz1 hz2 rfl (by decide) _ _ _ rfl (hown3.alloc _) (w3.heap.size + 1) (some ⟨w3.heap.size, 0, none⟩) 1 1 [.int .i64 y0] rfl ⟨rfl, fun _ => ⟨_, rfl, by simp, cell_one_new _ _ _⟩⟩ (by simp [Value.oneCell']) (by unfold maxLen; omega) (by omega) (by first | (simp; done) | (simp; omega) | omega) ?_; intro v7 w7 hown7 hgrow7 hvb7; have hH7 := (hH3.alloc hpr _).grown hpr hgrow7 (by intro k e; have := (hown3.lt k e).1; omega); have hc7 := hH7.l2.first HF.out HY.out; have hs7 := hgrow7.size)
    | (refine step_append_any _ rfl (.tmp 75) (.tmp 79) 34 rfl wb.heap.size 3 i0 (.int .i64 0) 1 8 Try.underlying34 hi hz0 hz1 hz2 rfl (by decide) _ _ _ rfl (hown3) (wb.heap.size + 1 + 1) (some ⟨wb.heap.size + 1, 0, none⟩) 1 1 [.int .i64 y0] rfl ⟨rfl, fun _ => ⟨_, rfl, Nat.lt_succ_self _, fun j u hu => by match j, hu with | 0, hu => simp at hu; subst hu; simpa [Addr.add] using hN3⟩⟩ (by simp [Value.oneCell']) (by unfold maxLen; omega) (by omega) (by omega) ?_; intro v7 w7 hown7 hgrow7 hvb7; have hH7 := (hH3).grown hpr hgrow7 (by intro k e; have := (hown3.lt k e).1; omega); have hc7 := hH7.l2.first HF.out HY.out; have hs7 := hgrow7.size)
    | (refine step_append_any _ rfl (.tmp 75) (.tmp 79) 34 rfl wb.heap.size 3 i0 (.int .i64 0) 1 8 Try.underlying34 hi hz0 hz1 hz2 rfl (by decide) _ _ _ rfl (hown3) (wb.heap.size + 1) (some ⟨wb.heap.size, 0, none⟩) 1 1 [.int .i64 y0] rfl ⟨rfl, fun _ => ⟨_, rfl, Nat.lt_succ_self _, fun j u hu => by match j, hu with | 0, hu => simp at hu; subst hu; simpa [Addr.add] using hN3⟩⟩ (by simp [Value.oneCell']) (by unfold maxLen; omega) (by omega) (by omega) ?_; intro v7 w7 hown7 hgrow7 hvb7; have hH7 := (hH3).grown hpr hgrow7 (by intro k e; have := (hown3.lt k e).1; omega); have hc7 := hH7.l2.first HF.out HY.out; have hs7 := hgrow7.size)
    | (go_at_call 19; refine (lineR_start _ hH7.line (by rw [List.length_append]; have := HF.out; omega) (by rw [List.length_append]; omega)).mono ?_; rintro e w9 ⟨rfl, hI9, ho9⟩; have hc9 := (hH7.l2.lined ho9).first HF.out HY.out))
  all_goals go_wp2_with fail
  all_goals go_ret3
  all_goals (have hrw : rowOr p r < wb.heap.size := Nat.lt_of_lt_of_le (rowOr_lt hpr) hHb.below.size)
  all_goals (have h10 : w7.ownsRow wb.heap.size 3 1 v7 (xs ++ [y0]).length (ints (xs ++ [y0])) := by simpa [ints] using hown7)
  all_goals (have h11 := (Lst.of_own (p := p) (g := rowOr p r) h10 (by omega) hrw).lined ho9)
  all_goals (have h12 := (hH7.l2.drop_ (n := 1) HF.out).lined ho9)
  all_goals (have h13 : IsLineR w9 p B r most ((xs ++ [y0]) ++ ys.drop 1) (xs ++ [y0]).length := by rw [List.append_assoc, ← HD.out]; simpa using hI9)
  all_goals first
    | (rw [cutA_def, if_pos hcn, show c2 - 1 = 0 by omega] at h12; exact stepL_tuple h13 h11 h12 (Lined.then_ hH7.below ho9))
    | (rw [cutA_def, if_neg hcn] at h12; exact stepL_tuple h13 h11 h12 (Lined.then_ hH7.below ho9))

end Go.Proofs.Ytfffncaonpokpaa
