/- The statements' step: Push; conditions as in RingN. -/
import Derived.Test.YtfffncaonpokpaaRingN
import Derived.Deep.RegionHeld3
import Derived.Deep.DrawnRows
namespace Go.Proofs.Ytfffncaonpokpaa
open Go.RowKit

attribute [local go_sem ↓] Go.wp_at_zero Go.wp_at_succ

set_option maxRecDepth 100000 in
set_option maxHeartbeats 2000000 in
theorem step12_push_no {p g size c : Nat} {A : Option Addr} {xs : List Int} (N : Int) (w : World) (hI : IsRing w p g size xs) (hL : Lst w p g (.slice A xs.length c) xs) (hf : xs.length = size) :
    Calls Try.prog 41 #[.pointer (some ⟨p, 0, none⟩), .slice A xs.length c, .int .i64 size, .agg #[.int .i64 1, .int .i64 N]] w (StepPost size p g w) := by
  have hB0 : Below w.heap.size w (w.alloc (.cells #[.int .i64 1, .int .i64 N] 66)) := (Below.refl w.heap.size w).alloc (Nat.le_refl _) _
  have hb0 : Only [p, g] w (w.alloc (.cells #[.int .i64 1, .int .i64 N] 66)) := Only.of_below hB0
  have hL0 := hL.below hB0
  have hI0 := hI.below hB0 (Nat.le_refl _)
  have hfe : ((xs.length : Int) == (size : Int)) = true := by simp; omega
  have HF := Lib.hid hf
  clear hf
  go_enter Try.func41, Try.ntmps41
  go_wp2_with fail
  refine (ring_push_no _ hI0 N HF.out).mono ?_
  rintro e w1 ⟨rfl, n1, rfl⟩
  go_wp2_with fail
  go_ret3
  exact stepPost_tuple (hI0.drewN n1) (hL0.drewN n1) (.inl ⟨rfl, rfl⟩) (hb0.drewN n1)

theorem ownsRow_fresh' (w : World) (b : Nat) (h : w.heap.size = b) : (w.alloc (.cells #[] 3)).ownsRow b 3 1 (.slice (some ⟨b, 0, none⟩) 0 0) 0 [] := h ▸ ownsRow_fresh w

/-- what the region of a Push holds, whatever was made -/
structure PushHeld (w : World) (p g size : Nat) (A : Option Addr) (xs : List Int) (N : Int) (W : World) : Prop where
  ring : IsRing W p g size xs
  reads : Reads W w.heap.size 1 A xs.length (ints xs)
  below : Below w.heap.size w W
  box : Blk W w.heap.size 66 #[.int .i64 1, .int .i64 N]
theorem PushHeld.alloc {w W : World} {p g size : Nat} {A : Option Addr} {xs : List Int} {N : Int} (h : PushHeld w p g size A xs N W) (o : Obj) : PushHeld w p g size A xs N (W.alloc o) :=
  ⟨h.ring.alloc o, h.reads.alloc h.below.size o, h.below.alloc h.below.size o, h.box.alloc o⟩
theorem PushHeld.drewN {w W : World} {p g size : Nat} {A : Option Addr} {xs : List Int} {N : Int} (h : PushHeld w p g size A xs N W) (n : Nat) : PushHeld w p g size A xs N (W.drewN n) :=
  ⟨h.ring.drewN n, h.reads.drewN n, below_drewN h.below n, h.box.drewN n⟩
theorem PushHeld.grown {w W W' : World} {p g size : Nat} {A : Option Addr} {xs : List Int} {N : Int} (h : PushHeld w p g size A xs N W) (hpg : p < w.heap.size ∧ g < w.heap.size) {row : Option Nat} (hg : W.grownBy W' row) (hr : ∀ k, row = some k → w.heap.size < k) : PushHeld w p g size A xs N W' :=
  ⟨h.ring.grown hg (fun k e => by have := hr k e; omega), h.reads.grown hg h.below.size (fun k e => by have := hr k e; omega), h.below.grown hg h.below.size (fun k e => by have := hr k e; omega), h.box.grown hg (fun e => by have := hr _ e.symm; omega)⟩

set_option maxRecDepth 100000 in
set_option maxHeartbeats 4000000 in
theorem step12_push_yes {p g size c : Nat} {A : Option Addr} {xs : List Int} (N : Int) (w : World) (hI : IsRing w p g size xs) (hL : Lst w p g (.slice A xs.length c) xs) (hf : xs.length < size) :
    Calls Try.prog 41 #[.pointer (some ⟨p, 0, none⟩), .slice A xs.length c, .int .i64 size, .agg #[.int .i64 1, .int .i64 N]] w (StepPost size p g w) := by
  obtain ⟨i0, hi, hz0, hz1, hz2⟩ := info_parts info_int
  have hlt := hI.lt
  have h1024 := hI.1
  have hxl : xs.length ≤ 1024 := by omega
  have hB0 : Below w.heap.size w (w.alloc (.cells #[.int .i64 1, .int .i64 N] 66)) := (Below.refl w.heap.size w).alloc (Nat.le_refl _) _
  have hH : PushHeld w p g size A xs N (w.alloc (.cells #[.int .i64 1, .int .i64 N] 66)) := ⟨hI.alloc _, hL.reads.alloc (Nat.le_refl _) _, hB0, Blk.new _ _ _⟩
  have hfe : ((xs.length : Int) == (size : Int)) = false := by simp; omega
  have HF := Lib.hid (And.intro hf (And.intro hI hL))
  clear hf hI hL
  go_enter Try.func41, Try.ntmps41
  go_wp2_with fail
  generalize hW0 : w.alloc (.cells #[.int .i64 1, .int .i64 N] 66) = W0 at hB0 hH ⊢
  have hs0 : W0.heap.size = w.heap.size + 1 := by subst hW0; simp
  clear hW0
  have hc1 := hH.box.cell 1
  simp at hc1
  go_region_held3 (fun w' => w'.cell? ⟨w.heap.size, 1, none⟩ = some (.int .i64 N)) (go_keep) (first
    | (refine step_append_any _ rfl (.tmp 32) (.tmp 33) 34 rfl (w.heap.size + 1) 3 i0 (.int .i64 0) 1 8 Try.underlying34 hi hz0 hz1 hz2 rfl (by decide) _ 0 [] rfl (own_drewN (ownsRow_fresh' W0 (w.heap.size + 1) hs0) 1) w.heap.size A xs.length c (ints xs) rfl ((hH.alloc (.cells #[] 3)).drewN 1).reads ints_one (by unfold maxLen; omega) (by omega) (by simp; omega) ?_; intro v3 w3 hown3 hgrow3 hvb3; have hH3 : PushHeld w p g size A xs N w3 := ((hH.alloc (.cells #[] 3)).drewN 1).grown hlt hgrow3 (by intro k e; cases e; first | (simp; done) | (simp; omega) | omega); have hc3 := hH3.box.cell 1; simp at hc3; have hs3 := hgrow3.size; simp at hs3)
    | (refine step_append_any _ rfl (.tmp 32) (.tmp 33) 34 rfl (w.heap.size + 1) 3 i0 (.int .i64 0) 1 8 Try.underlying34 hi hz0 hz1 hz2 rfl (by decide) _ 0 [] rfl (own_drewN ((ownsRow_fresh' W0 (w.heap.size + 1) hs0).alloc (.cells #[.int .i64 N] 3)) 1) w.heap.size A xs.length c (ints xs) rfl (((hH.alloc (.cells #[] 3)).alloc (.cells #[.int .i64 N] 3)).drewN 1).reads ints_one (by unfold maxLen; omega) (by omega) (by simp; omega) ?_; intro v3 w3 hown3 hgrow3 hvb3; have hH3 : PushHeld w p g size A xs N w3 := (((hH.alloc (.cells #[] 3)).alloc (.cells #[.int .i64 N] 3)).drewN 1).grown hlt hgrow3 (by intro k e; cases e; first | (simp; done) | (simp; omega) | omega); have hc3 := hH3.box.cell 1; simp at hc3; have hs3 := hgrow3.size; simp at hs3; have hN3 : w3.cell? ⟨w.heap.size + 1 + 1, 0, none⟩ = some (.int .i64 N) := (World.cell?_of_block (hgrow3.block (w.heap.size + 1 + 1) (by simp; omega) (fun e => by have e' := Option.some.inj e; dsimp only at e'; omega))).trans (by have := (Blk.new (W0.alloc (.cells #[] 3)) 3 #[.int .i64 N]).cell 0; rw [World.size_alloc, hs0] at this; simpa using this))
    | (refine step_append_any _ rfl (.tmp 32) (.tmp 33) 34 rfl (w.heap.size + 1) 3 i0 (.int .i64 0) 1 8 Try.underlying34 hi hz0 hz1 hz2 rfl (by decide) _ 0 [] rfl (own_weaken (own_drewN (ownsRow_fresh' (W0.alloc (.cells #[.int .i64 N] 3)) (w.heap.size + 1 + 1) (by simp [hs0])) 1) (by omega)) w.heap.size A xs.length c (ints xs) rfl (((hH.alloc (.cells #[.int .i64 N] 3)).alloc (.cells #[] 3)).drewN 1).reads ints_one (by unfold maxLen; omega) (by omega) (by simp; omega) ?_; intro v3 w3 hown3 hgrow3 hvb3; have hH3 : PushHeld w p g size A xs N w3 := (((hH.alloc (.cells #[.int .i64 N] 3)).alloc (.cells #[] 3)).drewN 1).grown hlt hgrow3 (by intro k e; cases e; first | (simp; done) | (simp; omega) | omega); have hc3 := hH3.box.cell 1; simp at hc3; have hs3 := hgrow3.size; simp at hs3; have hN3 : w3.cell? ⟨w.heap.size + 1, 0, none⟩ = some (.int .i64 N) := (World.cell?_of_block (hgrow3.block (w.heap.size + 1) (by simp; omega) (fun e => by have e' := Option.some.inj e; dsimp only at e'; omega))).trans (by have := ((Blk.new W0 3 #[.int .i64 N]).alloc (.cells #[] 3)).cell 0; rw [hs0] at this; simpa using this))
    | (refine step_append_any _ rfl (.tmp 34) (.tmp 37) 34 rfl (w.heap.size + 1) 3 i0 (.int .i64 0) 1 8 Try.underlying34 hi hz0 hz1 hz2 rfl (by decide) _ _ _ rfl (hown3.alloc _) (w3.heap.size + 1) (some ⟨w3.heap.size, 0, none⟩) 1 1 [.int .i64 N] rfl ⟨rfl, fun _ => ⟨_, rfl, by simp, cell_one_new _ _ _⟩⟩ (by simp [Value.oneCell']) (by unfold maxLen; omega) (by omega) (by simp; omega) ?_; intro v7 w7 hown7 hgrow7 hvb7; have hH7 : PushHeld w p g size A xs N w7 := (hH3.alloc _).grown hlt hgrow7 (by intro k e; have := (hown3.lt k e).1; omega); have hc7 := hH7.box.cell 1; simp at hc7; have hs7 := hgrow7.size; simp at hs7)
    | (refine step_append_any _ rfl (.tmp 34) (.tmp 37) 34 rfl (w.heap.size + 1) 3 i0 (.int .i64 0) 1 8 Try.underlying34 hi hz0 hz1 hz2 rfl (by decide) _ _ _ rfl hown3 (w.heap.size + 1 + 1 + 1) (some ⟨w.heap.size + 1 + 1, 0, none⟩) 1 1 [.int .i64 N] rfl ⟨rfl, fun _ => ⟨_, rfl, Nat.lt_succ_self _, fun j u hu => by match j, hu with | 0, hu => simp at hu; subst hu; simpa [Addr.add] using hN3⟩⟩ (by simp [Value.oneCell']) (by unfold maxLen; omega) (by omega) (by omega) ?_; intro v7 w7 hown7 hgrow7 hvb7; have hH7 : PushHeld w p g size A xs N w7 := hH3.grown hlt hgrow7 (by intro k e; have := (hown3.lt k e).1; omega); have hc7 := hH7.box.cell 1; simp at hc7; have hs7 := hgrow7.size)
    | (refine step_append_any _ rfl (.tmp 34) (.tmp 37) 34 rfl (w.heap.size + 1) 3 i0 (.int .i64 0) 1 8 Try.underlying34 hi hz0 hz1 hz2 rfl (by decide) _ _ _ rfl hown3 (w.heap.size + 1 + 1) (some ⟨w.heap.size + 1, 0, none⟩) 1 1 [.int .i64 N] rfl ⟨rfl, fun _ => ⟨_, rfl, Nat.lt_succ_self _, fun j u hu => by match j, hu with | 0, hu => simp at hu; subst hu; simpa [Addr.add] using hN3⟩⟩ (by simp [Value.oneCell']) (by unfold maxLen; omega) (by omega) (by omega) ?_; intro v7 w7 hown7 hgrow7 hvb7; have hH7 : PushHeld w p g size A xs N w7 := hH3.grown hlt hgrow7 (by intro k e; have := (hown3.lt k e).1; omega); have hc7 := hH7.box.cell 1; simp at hc7; have hs7 := hgrow7.size)
    | (go_at_call 25; refine (ring_push_yes _ hH7.ring N HF.out.1).mono ?_; rintro e w9 ⟨rfl, hI9, ho9⟩; have hc9 := (ho9.blk hH7.box (by simp; omega)).cell 1; simp at hc9))
  all_goals go_wp2_with fail
  all_goals go_ret3
  all_goals (have h9 := ho9.own hown7 (fun k e => by have := (hown7.lt k e).1; simp; omega))
  all_goals (have h10 : w9.ownsRow (w.heap.size + 1) 3 1 v7 (xs ++ [N]).length (ints (xs ++ [N])) := by simpa [ints] using h9)
  all_goals (have hsz := hH7.below.size)
  all_goals exact stepPost_tuple hI9 (Lst.of_own h10 (by omega) (by omega)) (.inl ⟨rfl, rfl⟩) ((Only.of_below hH7.below).trans ho9)

end Go.Proofs.Ytfffncaonpokpaa
