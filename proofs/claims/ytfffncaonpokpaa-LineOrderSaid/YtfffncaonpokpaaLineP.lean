/- The statements' step on a line and two plain lists, kind by kind; conditions: the line is one, the lists can be read and lie apart from it. -/
import Derived.Test.YtfffncaonpokpaaLst
import Derived.Deep.RegionHeld3
import Derived.Deep.DrawnRows
namespace Go.Proofs.Ytfffncaonpokpaa
open Go.RowKit

attribute [local go_sem ↓] Go.wp_at_zero Go.wp_at_succ
attribute [local go_sem] sliced_cut

/-- what a step leaves -/
def StepL (p B : Nat) (r : Option Nat) (most : Int) (w : World) (e : Ending) (w' : World) : Prop :=
  ∃ r' v1 v2 xs ys, e = .returned (.tuple #[v1, v2, .bool true]) ∧ IsLineR w' p B r' most (xs ++ ys) xs.length ∧ Lst w' p (rowOr p r') v1 xs ∧ Lst w' p (rowOr p r') v2 ys ∧ Lined p r r' w w'
theorem stepL_tuple {p B : Nat} {r r' : Option Nat} {most : Int} {w w' : World} {v1 v2 : Value} {xs ys : List Int} (h : IsLineR w' p B r' most (xs ++ ys) xs.length) (h1 : Lst w' p (rowOr p r') v1 xs) (h2 : Lst w' p (rowOr p r') v2 ys) (hl : Lined p r r' w w') :
    StepL p B r most w (.returned (.tuple #[v1, v2, .bool true])) w' := ⟨r', v1, v2, xs, ys, rfl, h, h1, h2, hl⟩
theorem Lined.of_below {p : Nat} {r : Option Nat} {w w' : World} (h : Below w.heap.size w w') : Lined p r r w w' := ⟨Only.of_below h, .inl rfl⟩
theorem Lined.then_ {p : Nat} {r r' : Option Nat} {w w1 w2 : World} (h : Below w.heap.size w w1) (hl : Lined p r r' w1 w2) : Lined p r r' w w2 :=
  ⟨(Only.of_below h).trans hl.1, hl.2.imp id (fun ⟨k, e, hk⟩ => ⟨k, e, Nat.le_trans h.size hk⟩)⟩

/-- what a step holds, whatever it made -/
structure LineHeld (w : World) (p B : Nat) (r : Option Nat) (most : Int) (A1 A2 : Option Addr) (c1 c2 : Nat) (xs ys : List Int) (kind N : Int) (W : World) : Prop where
  line : IsLineR W p B r most (xs ++ ys) xs.length
  l1 : Lst W p (rowOr p r) (.slice A1 xs.length c1) xs
  l2 : Lst W p (rowOr p r) (.slice A2 ys.length c2) ys
  r1 : Reads W w.heap.size 1 A1 xs.length (ints xs)
  r2 : Reads W w.heap.size 1 A2 ys.length (ints ys)
  below : Below w.heap.size w W
  box : Blk W w.heap.size 29 #[.int .i64 kind, .int .i64 N]
section
variable {w W W' : World} {p B : Nat} {r : Option Nat} {most : Int} {A1 A2 : Option Addr} {c1 c2 : Nat} {xs ys : List Int} {kind N : Int}
theorem LineHeld.only (h : LineHeld w p B r most A1 A2 c1 c2 xs ys kind N W) {ks : List Nat} (hpr : p < w.heap.size ∧ ∀ k, r = some k → k < w.heap.size) (ho : Only ks W W') (hk : ∀ k, k ∈ ks → w.heap.size < k) : LineHeld w p B r most A1 A2 c1 c2 xs ys kind N W' := by
  have hb : Below (w.heap.size + 1) W W' := ho.below (by have := h.box.lt; omega) (fun k hm => hk k hm)
  have hL : ∀ {A : Option Addr} {n c : Nat} {zs : List Int}, Lst W p (rowOr p r) (.slice A n c) zs → Reads W w.heap.size 1 A n (ints zs) → Lst W' p (rowOr p r) (.slice A n c) zs := by
    intro A n c zs hl hr
    obtain ⟨A', c', e, hc, hx⟩ := hl
    cases e
    refine ⟨A, c, rfl, hc, fun h0 => ?_⟩
    obtain ⟨b, off, rfl, hbb, h1, h2, hcell⟩ := hx h0
    obtain ⟨ad, e2, hlt, _⟩ := hr.2 h0
    cases e2
    dsimp only at hlt
    exact ⟨b, off, rfl, Nat.lt_of_lt_of_le hbb hb.size, h1, h2, fun j hj => (hb.cell (p := ⟨b, off + j, none⟩) (Nat.lt_succ_of_lt hlt)).trans (hcell j hj)⟩
  exact ⟨h.line.only ho (fun hm => by have := hk _ hm; omega) (fun k e hm => by have := hk _ hm; have := hpr.2 k e; omega), hL h.l1 h.r1, hL h.l2 h.r2, h.r1.below (hb.mono (by omega)), h.r2.below (hb.mono (by omega)), h.below.trans (hb.mono (by omega)), h.box.below hb (by omega)⟩
theorem LineHeld.alloc (h : LineHeld w p B r most A1 A2 c1 c2 xs ys kind N W) (hpr : p < w.heap.size ∧ ∀ k, r = some k → k < w.heap.size) (o : Obj) : LineHeld w p B r most A1 A2 c1 c2 xs ys kind N (W.alloc o) := h.only (ks := []) hpr (Only.refl.alloc o) (by simp)
theorem LineHeld.drewN (h : LineHeld w p B r most A1 A2 c1 c2 xs ys kind N W) (hpr : p < w.heap.size ∧ ∀ k, r = some k → k < w.heap.size) (n : Nat) : LineHeld w p B r most A1 A2 c1 c2 xs ys kind N (W.drewN n) := h.only (ks := []) hpr (Only.refl.drewN n) (by simp)
theorem LineHeld.grown (h : LineHeld w p B r most A1 A2 c1 c2 xs ys kind N W) (hpr : p < w.heap.size ∧ ∀ k, r = some k → k < w.heap.size) {row : Option Nat} (hg : W.grownBy W' row) (hr : ∀ k, row = some k → w.heap.size < k) : LineHeld w p B r most A1 A2 c1 c2 xs ys kind N W' :=
  h.only (ks := row.toList) hpr (Only.refl.grown hg (fun k e => by subst e; exact .inl (by simp))) (fun k hm => hr k (by simpa using hm))
theorem lineHeld_new {w : World} {p B : Nat} {r : Option Nat} {most : Int} {A1 A2 : Option Addr} {c1 c2 : Nat} {xs ys : List Int} (kind N : Int) (hI : IsLineR w p B r most (xs ++ ys) xs.length) (h1 : Lst w p (rowOr p r) (.slice A1 xs.length c1) xs) (h2 : Lst w p (rowOr p r) (.slice A2 ys.length c2) ys) :
    LineHeld w p B r most A1 A2 c1 c2 xs ys kind N (w.alloc (.cells #[.int .i64 kind, .int .i64 N] 29)) := by
  have hb := (Below.refl w.heap.size w).alloc (Nat.le_refl _) (.cells #[.int .i64 kind, .int .i64 N] 29)
  exact ⟨hI.below hb, h1.below hb, h2.below hb, h1.reads.below hb, h2.reads.below hb, hb, Blk.new _ _ _⟩
end

set_option maxRecDepth 100000 in
set_option maxHeartbeats 4000000 in
theorem step24_add_no {p B c1 c2 : Nat} {r : Option Nat} {A1 A2 : Option Addr} {most : Int} {xs ys : List Int} (N : Int) (w : World) (hI : IsLineR w p B r most (xs ++ ys) xs.length) (h1 : Lst w p (rowOr p r) (.slice A1 xs.length c1) xs) (h2 : Lst w p (rowOr p r) (.slice A2 ys.length c2) ys) (hml : xs.length + ys.length ≤ 32) (hf : ((xs ++ ys).length : Int) = most) :
    Calls Try.prog 37 #[.pointer (some ⟨p, 0, none⟩), .slice A1 xs.length c1, .slice A2 ys.length c2, .int .i64 most, .agg #[.int .i64 1, .int .i64 N]] w (StepL p B r most w) := by
  have hfe : ((xs.length : Int) + (ys.length : Int) == most) = true := by rw [List.length_append] at hf; simp; omega
  have HF := Lib.hid hf
  clear hf
  obtain ⟨i0, hi, hz0, hz1, hz2⟩ := info_parts info_int
  have hpr : p < w.heap.size ∧ ∀ k, r = some k → k < w.heap.size := ⟨hI.lt.1, fun k e => (hI.lt.2 k e).2.1⟩
  have hH0 := lineHeld_new 1 N hI h1 h2
  have hl1 : xs.length ≤ 32 := by omega
  have hl2 : ys.length ≤ 32 := by omega
  have hsB : (w.alloc (.cells #[.int .i64 1, .int .i64 N] 29)).heap.size = w.heap.size + 1 := by simp
  go_enter Try.func37, Try.ntmps37
  go_wp2_with (at_builtin; first
    | (refine wpList_append_any _ rfl _ _ 34 rfl (w.heap.size + 1) 3 i0 (.int .i64 0) 1 8 Try.underlying34 hi hz0 hz1 hz2 rfl (by decide) _ 0 [] rfl (ownsRow_fresh' _ (w.heap.size + 1) hsB) w.heap.size A1 xs.length c1 (ints xs) rfl (hH0.alloc hpr _).r1 ints_one (by unfold maxLen; omega) (by omega) (by simp) ?_; intro va wa howna hgrowa hvba; have hHa := (hH0.alloc hpr (.cells #[] 3)).grown hpr hgrowa (by intro k e; cases e; first | (simp; done) | (simp; omega) | omega); have hsa := hgrowa.size; simp at hsa; have hca := hHa.box.cell 1; simp at hca)
    | (refine wpList_append_any _ rfl _ _ 34 rfl (w.heap.size + 1) 3 i0 (.int .i64 0) 1 8 Try.underlying34 hi hz0 hz1 hz2 rfl (by decide) va _ _ rfl howna w.heap.size A2 ys.length c2 (ints ys) rfl hHa.r2 ints_one (by unfold maxLen; omega) (by omega) (by omega) ?_; intro vb wb hownb hgrowb hvbb; have hHb := hHa.grown hpr hgrowb (by intro k e; have := (howna.lt k e).1; omega); have hsb := hgrowb.size; rw [Nat.zero_add, List.nil_append] at hownb; obtain ⟨Aall, call, rfl, _⟩ := own_form hownb; have hcb := hHb.box.cell 1; have hcb0 := hHb.box.cell 0; simp at hcb hcb0))
  all_goals (refine (line_add_no _ hHb.line.line N HF.out).mono ?_)
  all_goals (rintro e w5 ⟨rfl, n5, rfl⟩)
  all_goals (go_wp2_with fail)
  all_goals (go_ret3)
  all_goals (exact stepL_tuple (hHb.line.drewN n5) (hHb.l1.drewN n5) (hHb.l2.drewN n5) (Lined.of_below (below_drewN hHb.below n5)))

set_option maxRecDepth 100000 in
set_option maxHeartbeats 4000000 in
theorem step24_start_no {p B c1 c2 : Nat} {r : Option Nat} {A1 A2 : Option Addr} {most : Int} {xs ys : List Int} (N : Int) (w : World) (hI : IsLineR w p B r most (xs ++ ys) xs.length) (h1 : Lst w p (rowOr p r) (.slice A1 xs.length c1) xs) (h2 : Lst w p (rowOr p r) (.slice A2 ys.length c2) ys) (hml : xs.length + ys.length ≤ 32) (hf : ys.length = 0) :
    Calls Try.prog 37 #[.pointer (some ⟨p, 0, none⟩), .slice A1 xs.length c1, .slice A2 ys.length c2, .int .i64 most, .agg #[.int .i64 2, .int .i64 N]] w (StepL p B r most w) := by
  have hfe : ((ys.length : Int) == 0) = true := by rw [beq_iff_eq]; omega
  have HF := Lib.hid hf
  clear hf
  obtain ⟨i0, hi, hz0, hz1, hz2⟩ := info_parts info_int
  have hpr : p < w.heap.size ∧ ∀ k, r = some k → k < w.heap.size := ⟨hI.lt.1, fun k e => (hI.lt.2 k e).2.1⟩
  have hH0 := lineHeld_new 2 N hI h1 h2
  have hl1 : xs.length ≤ 32 := by omega
  have hl2 : ys.length ≤ 32 := by omega
  have hsB : (w.alloc (.cells #[.int .i64 2, .int .i64 N] 29)).heap.size = w.heap.size + 1 := by simp
  go_enter Try.func37, Try.ntmps37
  go_wp2_with (at_builtin; first
    | (refine wpList_append_any _ rfl _ _ 34 rfl (w.heap.size + 1) 3 i0 (.int .i64 0) 1 8 Try.underlying34 hi hz0 hz1 hz2 rfl (by decide) _ 0 [] rfl (ownsRow_fresh' _ (w.heap.size + 1) hsB) w.heap.size A1 xs.length c1 (ints xs) rfl (hH0.alloc hpr _).r1 ints_one (by unfold maxLen; omega) (by omega) (by simp) ?_; intro va wa howna hgrowa hvba; have hHa := (hH0.alloc hpr (.cells #[] 3)).grown hpr hgrowa (by intro k e; cases e; first | (simp; done) | (simp; omega) | omega); have hsa := hgrowa.size; simp at hsa; have hca := hHa.box.cell 1; simp at hca)
    | (refine wpList_append_any _ rfl _ _ 34 rfl (w.heap.size + 1) 3 i0 (.int .i64 0) 1 8 Try.underlying34 hi hz0 hz1 hz2 rfl (by decide) va _ _ rfl howna w.heap.size A2 ys.length c2 (ints ys) rfl hHa.r2 ints_one (by unfold maxLen; omega) (by omega) (by omega) ?_; intro vb wb hownb hgrowb hvbb; have hHb := hHa.grown hpr hgrowb (by intro k e; have := (howna.lt k e).1; omega); have hsb := hgrowb.size; rw [Nat.zero_add, List.nil_append] at hownb; obtain ⟨Aall, call, rfl, _⟩ := own_form hownb; have hcb := hHb.box.cell 1; have hcb0 := hHb.box.cell 0; simp at hcb hcb0))
  all_goals (refine (line_start_no _ hHb.line.line (by have := HF.out; rw [List.length_append]; omega)).mono ?_)
  all_goals (rintro e w5 ⟨rfl, n5, rfl⟩)
  all_goals (go_wp2_with fail)
  all_goals (go_ret3)
  all_goals (exact stepL_tuple (hHb.line.drewN n5) (hHb.l1.drewN n5) (hHb.l2.drewN n5) (Lined.of_below (below_drewN hHb.below n5)))

set_option maxRecDepth 100000 in
set_option maxHeartbeats 4000000 in
theorem step24_stop_no {p B c1 c2 : Nat} {r : Option Nat} {A1 A2 : Option Addr} {most : Int} {xs ys : List Int} (N : Int) (w : World) (hI : IsLineR w p B r most (xs ++ ys) xs.length) (h1 : Lst w p (rowOr p r) (.slice A1 xs.length c1) xs) (h2 : Lst w p (rowOr p r) (.slice A2 ys.length c2) ys) (hml : xs.length + ys.length ≤ 32) (hf : xs.length = 0) :
    Calls Try.prog 37 #[.pointer (some ⟨p, 0, none⟩), .slice A1 xs.length c1, .slice A2 ys.length c2, .int .i64 most, .agg #[.int .i64 3, .int .i64 N]] w (StepL p B r most w) := by
  have hfe : (xs.length : Int) - 1 < 0 := by omega
  have HF := Lib.hid hf
  clear hf
  obtain ⟨i0, hi, hz0, hz1, hz2⟩ := info_parts info_int
  have hpr : p < w.heap.size ∧ ∀ k, r = some k → k < w.heap.size := ⟨hI.lt.1, fun k e => (hI.lt.2 k e).2.1⟩
  have hH0 := lineHeld_new 3 N hI h1 h2
  have hl1 : xs.length ≤ 32 := by omega
  have hl2 : ys.length ≤ 32 := by omega
  have hsB : (w.alloc (.cells #[.int .i64 3, .int .i64 N] 29)).heap.size = w.heap.size + 1 := by simp
  go_enter Try.func37, Try.ntmps37
  go_wp2_with (at_builtin; first
    | (refine wpList_append_any _ rfl _ _ 34 rfl (w.heap.size + 1) 3 i0 (.int .i64 0) 1 8 Try.underlying34 hi hz0 hz1 hz2 rfl (by decide) _ 0 [] rfl (ownsRow_fresh' _ (w.heap.size + 1) hsB) w.heap.size A1 xs.length c1 (ints xs) rfl (hH0.alloc hpr _).r1 ints_one (by unfold maxLen; omega) (by omega) (by simp) ?_; intro va wa howna hgrowa hvba; have hHa := (hH0.alloc hpr (.cells #[] 3)).grown hpr hgrowa (by intro k e; cases e; first | (simp; done) | (simp; omega) | omega); have hsa := hgrowa.size; simp at hsa; have hca := hHa.box.cell 1; simp at hca)
    | (refine wpList_append_any _ rfl _ _ 34 rfl (w.heap.size + 1) 3 i0 (.int .i64 0) 1 8 Try.underlying34 hi hz0 hz1 hz2 rfl (by decide) va _ _ rfl howna w.heap.size A2 ys.length c2 (ints ys) rfl hHa.r2 ints_one (by unfold maxLen; omega) (by omega) (by omega) ?_; intro vb wb hownb hgrowb hvbb; have hHb := hHa.grown hpr hgrowb (by intro k e; have := (howna.lt k e).1; omega); have hsb := hgrowb.size; rw [Nat.zero_add, List.nil_append] at hownb; obtain ⟨Aall, call, rfl, _⟩ := own_form hownb; have hcb := hHb.box.cell 1; have hcb0 := hHb.box.cell 0; simp at hcb hcb0))
  all_goals (refine (line_stop_no _ (by have := hHb.line.line; rw [HF.out] at this; exact this)).mono ?_)
  all_goals (rintro e w5 ⟨rfl, rfl⟩)
  all_goals (go_wp2_with fail)
  all_goals (go_ret3)
  all_goals (exact stepL_tuple hHb.line hHb.l1 hHb.l2 (Lined.of_below hHb.below))

set_option maxRecDepth 100000 in
set_option maxHeartbeats 4000000 in
theorem step24_remove_no {p B c1 c2 : Nat} {r : Option Nat} {A1 A2 : Option Addr} {most : Int} {xs ys : List Int} (N : Int) (w : World) (hI : IsLineR w p B r most (xs ++ ys) xs.length) (h1 : Lst w p (rowOr p r) (.slice A1 xs.length c1) xs) (h2 : Lst w p (rowOr p r) (.slice A2 ys.length c2) ys) (hml : xs.length + ys.length ≤ 32) (hf : N < 0 ∨ ((xs ++ ys).length : Int) ≤ N) :
    Calls Try.prog 37 #[.pointer (some ⟨p, 0, none⟩), .slice A1 xs.length c1, .slice A2 ys.length c2, .int .i64 most, .agg #[.int .i64 4, .int .i64 N]] w (StepL p B r most w) := by
  have HF := Lib.hid hf
  have k1 : ¬ (0 ≤ N) ∨ (0 ≤ N ∧ ¬ (N < (xs.length : Int) + (ys.length : Int))) := by rw [List.length_append] at hf; omega
  clear hf
  rcases k1 with k1 | ⟨k1, k2⟩
  · skip
    obtain ⟨i0, hi, hz0, hz1, hz2⟩ := info_parts info_int
    have hpr : p < w.heap.size ∧ ∀ k, r = some k → k < w.heap.size := ⟨hI.lt.1, fun k e => (hI.lt.2 k e).2.1⟩
    have hH0 := lineHeld_new 4 N hI h1 h2
    have hl1 : xs.length ≤ 32 := by omega
    have hl2 : ys.length ≤ 32 := by omega
    have hsB : (w.alloc (.cells #[.int .i64 4, .int .i64 N] 29)).heap.size = w.heap.size + 1 := by simp
    go_enter Try.func37, Try.ntmps37
    go_wp2_with (at_builtin; first
      | (refine wpList_append_any _ rfl _ _ 34 rfl (w.heap.size + 1) 3 i0 (.int .i64 0) 1 8 Try.underlying34 hi hz0 hz1 hz2 rfl (by decide) _ 0 [] rfl (ownsRow_fresh' _ (w.heap.size + 1) hsB) w.heap.size A1 xs.length c1 (ints xs) rfl (hH0.alloc hpr _).r1 ints_one (by unfold maxLen; omega) (by omega) (by simp) ?_; intro va wa howna hgrowa hvba; have hHa := (hH0.alloc hpr (.cells #[] 3)).grown hpr hgrowa (by intro k e; cases e; first | (simp; done) | (simp; omega) | omega); have hsa := hgrowa.size; simp at hsa; have hca := hHa.box.cell 1; simp at hca)
      | (refine wpList_append_any _ rfl _ _ 34 rfl (w.heap.size + 1) 3 i0 (.int .i64 0) 1 8 Try.underlying34 hi hz0 hz1 hz2 rfl (by decide) va _ _ rfl howna w.heap.size A2 ys.length c2 (ints ys) rfl hHa.r2 ints_one (by unfold maxLen; omega) (by omega) (by omega) ?_; intro vb wb hownb hgrowb hvbb; have hHb := hHa.grown hpr hgrowb (by intro k e; have := (howna.lt k e).1; omega); have hsb := hgrowb.size; rw [Nat.zero_add, List.nil_append] at hownb; obtain ⟨Aall, call, rfl, _⟩ := own_form hownb; have hcb := hHb.box.cell 1; have hcb0 := hHb.box.cell 0; simp at hcb hcb0))
    all_goals (refine (line_remove_no _ hHb.line.line N HF.out).mono ?_)
    all_goals (rintro e w5 ⟨rfl, rfl⟩)
    all_goals (go_wp2_with fail)
    all_goals (go_ret3)
    all_goals (exact stepL_tuple hHb.line hHb.l1 hHb.l2 (Lined.of_below hHb.below))
  · skip
    obtain ⟨i0, hi, hz0, hz1, hz2⟩ := info_parts info_int
    have hpr : p < w.heap.size ∧ ∀ k, r = some k → k < w.heap.size := ⟨hI.lt.1, fun k e => (hI.lt.2 k e).2.1⟩
    have hH0 := lineHeld_new 4 N hI h1 h2
    have hl1 : xs.length ≤ 32 := by omega
    have hl2 : ys.length ≤ 32 := by omega
    have hsB : (w.alloc (.cells #[.int .i64 4, .int .i64 N] 29)).heap.size = w.heap.size + 1 := by simp
    go_enter Try.func37, Try.ntmps37
    go_wp2_with (at_builtin; first
      | (refine wpList_append_any _ rfl _ _ 34 rfl (w.heap.size + 1) 3 i0 (.int .i64 0) 1 8 Try.underlying34 hi hz0 hz1 hz2 rfl (by decide) _ 0 [] rfl (ownsRow_fresh' _ (w.heap.size + 1) hsB) w.heap.size A1 xs.length c1 (ints xs) rfl (hH0.alloc hpr _).r1 ints_one (by unfold maxLen; omega) (by omega) (by simp) ?_; intro va wa howna hgrowa hvba; have hHa := (hH0.alloc hpr (.cells #[] 3)).grown hpr hgrowa (by intro k e; cases e; first | (simp; done) | (simp; omega) | omega); have hsa := hgrowa.size; simp at hsa; have hca := hHa.box.cell 1; simp at hca)
      | (refine wpList_append_any _ rfl _ _ 34 rfl (w.heap.size + 1) 3 i0 (.int .i64 0) 1 8 Try.underlying34 hi hz0 hz1 hz2 rfl (by decide) va _ _ rfl howna w.heap.size A2 ys.length c2 (ints ys) rfl hHa.r2 ints_one (by unfold maxLen; omega) (by omega) (by omega) ?_; intro vb wb hownb hgrowb hvbb; have hHb := hHa.grown hpr hgrowb (by intro k e; have := (howna.lt k e).1; omega); have hsb := hgrowb.size; rw [Nat.zero_add, List.nil_append] at hownb; obtain ⟨Aall, call, rfl, _⟩ := own_form hownb; have hcb := hHb.box.cell 1; have hcb0 := hHb.box.cell 0; simp at hcb hcb0))
    all_goals (refine (line_remove_no _ hHb.line.line N HF.out).mono ?_)
    all_goals (rintro e w5 ⟨rfl, rfl⟩)
    all_goals (go_wp2_with fail)
    all_goals (go_ret3)
    all_goals (exact stepL_tuple hHb.line hHb.l1 hHb.l2 (Lined.of_below hHb.below))

end Go.Proofs.Ytfffncaonpokpaa
