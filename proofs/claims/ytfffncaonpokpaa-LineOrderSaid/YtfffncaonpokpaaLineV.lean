/- The statements' step on a line: Stop; conditions as in LineP. -/
import Derived.Test.YtfffncaonpokpaaLineU
namespace Go.Proofs.Ytfffncaonpokpaa
open Go.RowKit

attribute [local go_sem ↓] Go.wp_at_zero Go.wp_at_succ
attribute [local go_sem] sliced_zero

theorem ownsRow_one (w : World) (z : Int) : (w.alloc (.cells #[.int .i64 z] 3)).ownsRow w.heap.size 3 1 (.slice (some ⟨w.heap.size, 0, none⟩) 1 1) 1 [.int .i64 z] :=
  ⟨rfl, .inr ⟨w.heap.size, 1, #[.int .i64 z], rfl, Nat.le_refl _, heap_alloc_new w _, Nat.le_refl _, by unfold maxLen; omega, rfl, rfl⟩⟩
theorem Lst.nth {W : World} {p g c b off n : Nat} {xs : List Int} {z : Int} (h : Lst W p g (.slice (some ⟨b, off, none⟩) xs.length c) xs) (h0 : n < xs.length) (hz : xs[n]?.getD 0 = z) : W.cell? ⟨b, off + n, none⟩ = some (.int .i64 z) := by
  obtain ⟨b', off', e, _, hc⟩ := h.at_ n h0
  cases e
  rw [hz] at hc
  exact hc

set_option maxRecDepth 100000 in
set_option maxHeartbeats 4000000 in
theorem step24_stop_yes {p B c1 c2 : Nat} {r : Option Nat} {A1 A2 : Option Addr} {most : Int} {xs ys : List Int} (N : Int) (n : Nat) (w : World) (hI : IsLineR w p B r most (xs ++ ys) xs.length) (h1 : Lst w p (rowOr p r) (.slice A1 xs.length c1) xs) (h2 : Lst w p (rowOr p r) (.slice A2 ys.length c2) ys) (hml : xs.length + ys.length ≤ 32) (hn : xs.length = n + 1) :
    Calls Try.prog 37 #[.pointer (some ⟨p, 0, none⟩), .slice A1 xs.length c1, .slice A2 ys.length c2, .int .i64 most, .agg #[.int .i64 3, .int .i64 N]] w (StepL p B r most w) := by
  have hnl : n < xs.length := by omega
  obtain ⟨b, off, rfl, hbl, hcl⟩ := h1.at_ n hnl
  have hxn : (xs.length : Int) - 1 = (n : Int) := by omega
  have m1 : (0 : Int) ≤ (n : Int) := by omega
  have m2 : (n : Int) < (xs.length : Int) := by omega
  have m3 : ¬ ((n : Int) < 0) := by omega
  have hlc : xs.length ≤ c1 := by obtain ⟨_, _, e, hc, h00⟩ := h1; cases e; exact hc
  have m4 : (n : Int) ≤ (c1 : Int) := by omega
  obtain ⟨x0, hx0⟩ : ∃ x0, xs[n]?.getD 0 = x0 := ⟨_, rfl⟩
  have hxd : xs.take n ++ [x0] = xs := by
    rw [← hx0, List.getElem?_eq_getElem hnl, Option.getD_some, List.take_append_getElem hnl, ← hn, List.take_length]
  have HX := Lib.hid hx0
  have HD := Lib.hid hxd
  have HF := Lib.hid hnl
  have HL := Lib.hid hn
  clear hn hx0 hxd hcl hnl
  obtain ⟨i0, hi, hz0, hz1, hz2⟩ := info_parts info_int
  have hpr : p < w.heap.size ∧ ∀ k, r = some k → k < w.heap.size := ⟨hI.lt.1, fun k e => (hI.lt.2 k e).2.1⟩
  have hH0 := lineHeld_new 3 N hI h1 h2
  have hl1 : xs.length ≤ 32 := by omega
  have hl2 : ys.length ≤ 32 := by omega
  have hsB : (w.alloc (.cells #[.int .i64 3, .int .i64 N] 29)).heap.size = w.heap.size + 1 := by simp
  go_enter Try.func37, Try.ntmps37
  go_wp2_with (at_builtin; first
    | (refine wpList_append_any _ rfl _ _ 34 rfl (w.heap.size + 1) 3 i0 (.int .i64 0) 1 8 Try.underlying34 hi hz0 hz1 hz2 rfl (by decide) _ 0 [] rfl (ownsRow_fresh' _ (w.heap.size + 1) hsB) w.heap.size (some ⟨b, off, none⟩) xs.length c1 (ints xs) rfl (hH0.alloc hpr _).r1 ints_one (by unfold maxLen; omega) (by omega) (by simp) ?_; intro va wa howna hgrowa hvba; have hHa := (hH0.alloc hpr (.cells #[] 3)).grown hpr hgrowa (by intro k e; cases e; first | (simp; done) | (simp; omega) | omega); have hsa := hgrowa.size; simp at hsa; have hca := hHa.box.cell 1; simp at hca)
    | (refine wpList_append_any _ rfl _ _ 34 rfl (w.heap.size + 1) 3 i0 (.int .i64 0) 1 8 Try.underlying34 hi hz0 hz1 hz2 rfl (by decide) va _ _ rfl howna w.heap.size A2 ys.length c2 (ints ys) rfl hHa.r2 ints_one (by unfold maxLen; omega) (by omega) (by omega) ?_; intro vb wb hownb hgrowb hvbb; have hHb := hHa.grown hpr hgrowb (by intro k e; have := (howna.lt k e).1; omega); have hsb := hgrowb.size; rw [Nat.zero_add, List.nil_append] at hownb; obtain ⟨Aall, call, rfl, _⟩ := own_form hownb; have hcb := hHb.box.cell 1; have hcb0 := hHb.box.cell 0; simp at hcb hcb0))
  all_goals have hswb := hHb.box.lt
  all_goals have hcw := hHb.l1.nth HF.out HX.out
  all_goals go_region_held3 (fun w' => w'.cell? ⟨b, off + n, none⟩ = some (.int .i64 x0)) (go_keep) (first
    | (refine step_append_any _ rfl _ _ 34 rfl wb.heap.size 3 i0 (.int .i64 0) 1 8 Try.underlying34 hi hz0 hz1 hz2 rfl (by decide) _ 1 [.int .i64 x0] rfl (own_drewN (ownsRow_one wb x0) 1) w.heap.size A2 ys.length c2 (ints ys) rfl ((hHb.alloc hpr (.cells #[.int .i64 x0] 3)).drewN hpr 1).r2 ints_one (by unfold maxLen; omega) (by omega) (by first | (simp; done) | (simp; omega) | omega) ?_; intro v7 w7 hown7 hgrow7 hvb7; have hH7 := ((hHb.alloc hpr (.cells #[.int .i64 x0] 3)).drewN hpr 1).grown hpr hgrow7 (by intro k e; cases e; first | (simp; done) | (simp; omega) | omega); have hc7 := hH7.l1.nth HF.out HX.out; have hs7 := hgrow7.size)
    | (go_at_call 20; refine (lineR_stop (runs := n) _ (by have := hH7.line; rw [HL.out] at this; exact this) (by omega)).mono ?_; rintro e w9 ⟨rfl, hI9, ho9⟩; have hc9 := (hH7.l1.lined ho9).nth HF.out HX.out))
  all_goals go_wp2_with fail
  all_goals go_ret3
  all_goals (have hrw : rowOr p r < wb.heap.size := Nat.lt_of_lt_of_le (rowOr_lt hpr) hHb.below.size)
  all_goals (have h10 : w7.ownsRow wb.heap.size 3 1 v7 ([x0] ++ ys).length (ints ([x0] ++ ys)) := by simpa [ints, Nat.add_comm] using hown7)
  all_goals (have h11 := (Lst.of_own (p := p) (g := rowOr p r) h10 (by omega) hrw).lined ho9)
  all_goals (have h12 := (hH7.l1.take_ (n := n) (by omega)).lined ho9)
  all_goals (have h14 : (xs.take n).length = n := by rw [List.length_take]; omega)
  all_goals (have h13 : IsLineR w9 p B r most (xs.take n ++ ([x0] ++ ys)) (xs.take n).length := by rw [← List.append_assoc, HD.out, h14]; exact hI9)
  all_goals exact stepL_tuple h13 h12 h11 (Lined.then_ hH7.below ho9)

end Go.Proofs.Ytfffncaonpokpaa
