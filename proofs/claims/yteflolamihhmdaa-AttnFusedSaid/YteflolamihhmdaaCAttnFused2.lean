/- AttnFused: of any pages and plain tokens a query gathers just what it gathers of what they mean, as lists. (part 2: functions of the program as plain functions, and what is shown of them.) Conditions: as each theorem states; the last one has none. -/
import Derived.Test.YteflolamihhmdaaShelf
import Derived.Deep.DrawnRows
import Derived.Test.YteflolamihhmdaaCAttnFused1
set_option maxHeartbeats 8000000
set_option maxRecDepth 100000
set_option linter.unusedVariables false
set_option linter.unusedSimpArgs false
namespace Go.Proofs.Yteflolamihhmdaa.Q
open Go.RowKit Go.Proofs.YteflolamihhmdaaW.PrintWords Go.Proofs.YteflolamihhmdaaW.PrintLast Go.Proofs.YteflolamihhmdaaW.PrintMore
attribute [local go_sem] max2_int min2_int max_two min_two max_three min_three max_four min_four
def credenzaref01_Narrow.f (a0 : Int) : Option (Int) := (credenzaref01_Cut.f a0 (-8388608) 8388608).bind fun t193 => (some (wrap32 (t193)))
theorem credenzaref01_Narrow.calls (a0 : Int) (r : Int) (w : World) (h : credenzaref01_Narrow.f a0 = some r) :
  Calls Try.prog 34 #[.int .i64 a0] w fun e w' => e = .returned (.int .i32 r) ∧ Drawn0 w w' := by
 have H := h
 unfold credenzaref01_Narrow.f at H
 clear h
 replace H := ob_ H
 obtain ⟨t193, A2, H⟩ := H
 try dsimp only at H
 obtain rfl := Option.some.inj H
 go_enter Try.func34, Try.ntmps34
 go_wp2_with (first | (refine goesL_ (some 4) rfl rfl Try.func50 (by kernel_rfl) rfl #[.int .i64 a0, .int .i64 (-8388608), .int .i64 8388608] rfl ar_ ?_; (with_reducible refine (credenzaref01_Cut.calls a0 (-8388608) 8388608 t193 _ A2.out).mono ?_); rintro e w' ⟨rfl, ⟨nd, rfl⟩⟩; refine ⟨_, rfl, ?_⟩))
 go_ret
 exact ⟨rs_, d0_⟩
end Go.Proofs.Yteflolamihhmdaa.Q

namespace Go.Proofs.Yteflolamihhmdaa.Pure
open Go.RowKit Go.Proofs.Yteflolamihhmdaa.Q Go.Proofs.YteflolamihhmdaaW.PrintWords Go.Proofs.YteflolamihhmdaaW.PrintLast
theorem fix_Narrow_some (v : Int) : fix_Narrow.f v = some (narR v) := by
 unfold fix_Narrow.f
 rw [fix_cut_some v _ _ (by omega) (by omega) (by omega)]
 rfl
theorem ref_Narrow_some (v : Int) : credenzaref01_Narrow.f v = some (narR v) := by
 have hb := narR_bd v
 unfold credenzaref01_Narrow.f
 rw [ref_Cut_some]
 show some (wrap32 (narR v)) = _
 rw [w32 (by omega) (by omega)]
theorem fix_Mul_some {a b : Int} (h1 : -2147483648 ≤ a) (h2 : a ≤ 2147483647) (h3 : -2147483648 ≤ b) (h4 : b ≤ 2147483647) : fix_Mul.f a b = some (mulR a b) := by
 have h := mul32_bd (a := a) (b := b) (by omega) (by omega) (by omega) (by omega)
 unfold fix_Mul.f
 rw [w64 (x := a) (by omega) (by omega), w64 (x := b) (by omega) (by omega), w64 (x := a * b) (by omega) (by omega), fix_Half_16 h.1 h.2]
 simp only [Option.bind_some]
 rw [fix_Wide_some]
 rfl
theorem ref_Mul_some {a b : Int} (h1 : -2147483648 ≤ a) (h2 : a ≤ 2147483647) (h3 : -2147483648 ≤ b) (h4 : b ≤ 2147483647) : credenzaref01_Mul.f a b = some (mulR a b) := by
 have h := mul32_bd (a := a) (b := b) (by omega) (by omega) (by omega) (by omega)
 unfold credenzaref01_Mul.f
 rw [w64 (x := a) (by omega) (by omega), w64 (x := b) (by omega) (by omega), w64 (x := a * b) (by omega) (by omega), ref_Ratio_some (by omega) h.1 h.2 (by omega)]
 simp only [Option.bind_some]
 rw [ref_Wide_some]
 rfl
end Go.Proofs.Yteflolamihhmdaa.Pure

namespace Go.Proofs.Yteflolamihhmdaa.Q
open Go.RowKit Go.Proofs.YteflolamihhmdaaW.PrintWords Go.Proofs.YteflolamihhmdaaW.PrintLast Go.Proofs.YteflolamihhmdaaW.PrintMore
attribute [local go_sem] max2_int min2_int max_two min_two max_three min_three max_four min_four
def attn_plain_count.f (l0_0 : List (List Int)) (l0_1 : List (List Int)) : Option (Int) := some (l0_0.length : Int)
theorem attn_plain_count.calls (A0_0 : Option Addr) (c0_0 : Nat) (l0_0 : List (List Int)) (A0_1 : Option Addr) (c0_1 : Nat) (l0_1 : List (List Int)) (r : Int) (w : World) (hr0_0 : Kd.C (Kd.slice 21 (Kd.int .i32)) w A0_0 l0_0.length l0_0) (hc0_0 : l0_0.length ≤ c0_0) (hr0_1 : Kd.C (Kd.slice 21 (Kd.int .i32)) w A0_1 l0_1.length l0_1) (hc0_1 : l0_1.length ≤ c0_1) (h : attn_plain_count.f l0_0 l0_1 = some r) :
  Calls Try.prog 119 #[.agg #[.slice A0_0 l0_0.length c0_0, .slice A0_1 l0_1.length c0_1]] w fun e w' => e = .returned (.int .i64 r) ∧ Below w.heap.size w w' := by
 have hu81 := Try.underlying81
 have HR0_0 := A_ hr0_0
 have HC0_0 := A_ hc0_0
 clear hr0_0 hc0_0
 have HR0_1 := A_ hr0_1
 have HC0_1 := A_ hc0_1
 clear hr0_1 hc0_1
 have HB := A_ (Below.refl w.heap.size w)
 have H := h
 unfold attn_plain_count.f at H
 clear h
 obtain rfl := Option.some.inj H
 go_enter Try.func119, Try.ntmps119
 go_wp2_with (first | (refine box_event rfl (N := 1) rfl (cs := #[.slice A0_0 l0_0.length c0_0, .slice A0_1 l0_1.length c0_1]) (t := 81) ?hr ?_; (case hr => first | (go_simp; done) | (go_simp; rfl)); intro gb572 hg w2 hbox hb; have BK572 := A_ hbox; have GW572 := A_ (gw_ w hg); have GE572 := A_ (gw_ w hg); replace HB := A_ (below_step bl_ hb); clear hb hbox hg; have ⟨_, _, _, _⟩ := k2_ BK572.out))
 go_ret
 exact ⟨ew_, bl_⟩
def attn_plain_key.f (l0_0 : List (List Int)) (l0_1 : List (List Int)) (a1 : Int) (a2 : Int) : Option (Int) := if 0 ≤ a1 then (if a1 < (l0_0.length : Int) then (if 0 ≤ a2 then (if a2 < ((rd_L11 l0_0 a1).length : Int) then (some (rd (rd_L11 l0_0 a1) a2)) else (none)) else (none)) else (none)) else (none)
theorem attn_plain_key.calls (A0_0 : Option Addr) (c0_0 : Nat) (l0_0 : List (List Int)) (A0_1 : Option Addr) (c0_1 : Nat) (l0_1 : List (List Int)) (a1 : Int) (a2 : Int) (r : Int) (w : World) (hr0_0 : Kd.C (Kd.slice 21 (Kd.int .i32)) w A0_0 l0_0.length l0_0) (hc0_0 : l0_0.length ≤ c0_0) (hr0_1 : Kd.C (Kd.slice 21 (Kd.int .i32)) w A0_1 l0_1.length l0_1) (hc0_1 : l0_1.length ≤ c0_1) (h : attn_plain_key.f l0_0 l0_1 a1 a2 = some r) :
  Calls Try.prog 120 #[.agg #[.slice A0_0 l0_0.length c0_0, .slice A0_1 l0_1.length c0_1], .int .i64 a1, .int .i64 a2] w fun e w' => e = .returned (.int .i32 r) ∧ Below w.heap.size w w' := by
 have hu81 := Try.underlying81
 have HR0_0 := A_ hr0_0
 have HC0_0 := A_ hc0_0
 clear hr0_0 hc0_0
 have HR0_1 := A_ hr0_1
 have HC0_1 := A_ hc0_1
 clear hr0_1 hc0_1
 have HB := A_ (Below.refl w.heap.size w)
 have H := h
 unfold attn_plain_key.f at H
 clear h
 by_cases c4 : 0 ≤ a1
 ·rw [if_pos c4] at H
  have c4b0 : decide (0 ≤ a1) = true := decide_eq_true c4
  clear c4
  by_cases c5 : a1 < (l0_0.length : Int)
  ·rw [if_pos c5] at H
   have c5b0 : decide (a1 < (l0_0.length : Int)) = true := decide_eq_true c5
   clear c5
   by_cases c6 : 0 ≤ a2
   ·rw [if_pos c6] at H
    have c6b0 : decide (0 ≤ a2) = true := decide_eq_true c6
    clear c6
    by_cases c7 : a2 < ((rd_L11 l0_0 a1).length : Int)
    ·rw [if_pos c7] at H
     have c7b0 : decide (a2 < ((rd_L11 l0_0 a1).length : Int)) = true := decide_eq_true c7
     clear c7
     obtain rfl := Option.some.inj H
     go_enter Try.func120, Try.ntmps120
     go_wp2_with (first | (refine box_event rfl (N := 3) rfl (cs := #[.slice A0_0 l0_0.length c0_0, .slice A0_1 l0_1.length c0_1]) (t := 81) ?hr ?_; (case hr => first | (go_simp; done) | (go_simp; rfl)); intro gb573 hg w8 hbox hb; have BK573 := A_ hbox; have GW573 := A_ (gw_ w hg); have GE573 := A_ (gw_ w hg); replace HB := A_ (below_step bl_ hb); clear hb hbox hg; have ⟨_, _, _, _⟩ := k2_ BK573.out; have p574 : 0 ≤ (a1 : Int) := od_; have q574 : a1 < (l0_0.length : Int) := od_; obtain ⟨ad574, A574_0, c574_0, e574, hx574_0, hl574_0, hi574_0⟩ := at_L11 HR0_0.out a1 p574 q574; cases e574; replace hx574_0 := hc_ HB.out hx574_0; have HR574_0 := A_ hi574_0; have HC574_0 := A_ hl574_0; clear hi574_0 hl574_0; replace p574 := eq_true p574; replace q574 := eq_true q574; have p575 : 0 ≤ (a2 : Int) := od_; have q575 : a2 < ((rd_L11 l0_0 a1).length : Int) := od_; obtain ⟨ad575, e575, hx575_0⟩ := Kd.at_int HR574_0.out a2 p575 q575; cases e575; replace hx575_0 := hc_ HB.out hx575_0; replace p575 := eq_true p575; replace q575 := eq_true q575))
     go_ret
     exact ⟨ew_, bl_⟩
    ·rw [if_neg c7] at H
     exact absurd H (by simp)
   ·rw [if_neg c6] at H
    exact absurd H (by simp)
  ·rw [if_neg c5] at H
   exact absurd H (by simp)
 ·rw [if_neg c4] at H
  exact absurd H (by simp)
def bits_Len64.f (a0 : Int) : Option Int := if 0 ≤ a0 then (if a0 ≤ 18446744073709551615 then some (Lib.bitLen a0.toNat : Int) else none) else none
theorem bits_Len64.calls (a0 : Int) (r : Int) (w : World) (h : bits_Len64.f a0 = some r) :
  Calls Try.prog 85 #[.int .u64 a0] w fun e w' => e = .returned (.int .i64 r) ∧ Drawn0 w w' := by
 unfold bits_Len64.f at h
 by_cases h0 : 0 ≤ a0
 ·by_cases h1 : a0 ≤ 18446744073709551615
  ·rw [if_pos h0, if_pos h1] at h
   obtain rfl := Option.some.inj h
   refine (Go.Proofs.Try.bits_Len64 a0 w h0 h1).mono ?_
   rintro e w' ⟨rfl, rfl⟩
   exact ⟨rfl, Drawn0.refl _⟩
  ·rw [if_pos h0, if_neg h1] at h
   exact absurd h (by simp)
 ·rw [if_neg h0] at h
  exact absurd h (by simp)
def expo_Root.l0 : Nat → Int → Int → Int → Option (Int)
 | 0, _, _, _ => none
 | k + 1, x0, x3, x4 => if x4 ≥ 0 then (if 0 ≤ x4 then (if (IntKind.u64.wrap ((Go.bits .or .u64 x3 (shl .u64 1 x4)) * (Go.bits .or .u64 x3 (shl .u64 1 x4)))) ≤ x0 then (expo_Root.l0 k x0 (Go.bits .or .u64 x3 (shl .u64 1 x4)) (wrap64 (x4 - 1))) else (expo_Root.l0 k x0 x3 (wrap64 (x4 - 1)))) else (none)) else (some x3)
def expo_Root.f (k : Nat) (a0 : Int) : Option (Int) := (bits_Len64.f a0).bind fun t117 => (expo_Root.l0 k a0 0 (wrap64 (Int.tdiv (wrap64 (t117 - 1)) 2)))
theorem expo_Root.mono_l : ∀ k, (∀ y0 y1 y2, LeO (expo_Root.l0 k y0 y1 y2) (expo_Root.l0 (k + 1) y0 y1 y2))
 | 0 => fun _ _ _ r h => by simp [expo_Root.l0] at h
 | k + 1 => by
  have ih0 := expo_Root.mono_l k
  ·intro y0 y1 y2
   unfold expo_Root.l0
   repeat' with_reducible first | apply ih0 | apply LeO.refl | apply LeO.none | refine LeO.ite ?_ ?_ | refine LeO.bind ?_ (fun _ => ?_)
theorem expo_Root.mono : ∀ a0 k, LeO (expo_Root.f k a0) (expo_Root.f (k + 1) a0) := by
 intro a0 k
 have ih0 := expo_Root.mono_l k
 unfold expo_Root.f
 repeat' with_reducible first | apply ih0 | apply LeO.refl | apply LeO.none | refine LeO.ite ?_ ?_ | refine LeO.bind ?_ (fun _ => ?_)
theorem expo_Root.calls (k : Nat) (a0 : Int) (r : Int) (w : World) (h : expo_Root.f k a0 = some r) :
  Calls Try.prog 72 #[.int .u64 a0] w fun e w' => e = .returned (.int .u64 r) ∧ Drawn0 w w' := by
 have H := h
 unfold expo_Root.f at H
 clear h
 replace H := ob_ H
 obtain ⟨t117, A2, H⟩ := H
 try dsimp only at H
 have H' := A_ H
 clear H
 go_enter Try.func72, Try.ntmps72
 go_wp2_with (first | (refine goesL_ (some 7) rfl rfl Try.func85 (by kernel_rfl) rfl #[.int .u64 a0] rfl ar_ ?_; (with_reducible refine (bits_Len64.calls a0 t117 _ A2.out).mono ?_); rintro e w' ⟨rfl, ⟨nd, rfl⟩⟩; refine ⟨_, rfl, ?_⟩))
 go_loopg [3, 4] k (fun kq v3 v4 w' => ∃ (x3_1 : Int) (x4_1 : Int), v3 = .int .u64 x3_1 ∧ v4 = .int .i64 x4_1 ∧ Aside0 (expo_Root.l0 kq a0 x3_1 x4_1 = some r) ∧ Aside0 (kq ≤ k) ∧ Drawn0 w w')
 case atStart => exact ⟨(0), (wrap64 (Int.tdiv (wrap64 (t117 - 1)) 2)), rs_, rs_, H', ⟨Nat.le_refl _⟩, d0_⟩
 case round =>
  clear H'
  obtain ⟨x3_1, x4_1, rfl, rfl, HA, HK1, ⟨m1, rfl⟩⟩ := hrel
  cases gk with
  | zero => exact absurd HA.out (by simp [expo_Root.l0])
  | succ k1 =>
   have H := HA.out
   clear HA
   simp only [expo_Root.l0] at H
   by_cases c3 : x4_1 ≥ 0
   ·rw [if_pos c3] at H
    have c3b0 : decide (0 ≤ x4_1) = true := decide_eq_true c3
    clear c3
    by_cases c4 : 0 ≤ x4_1
    ·rw [if_pos c4] at H
     have c4b0 := eq_true c4
     have c4b1 : decide (0 ≤ x4_1) = true := decide_eq_true c4
     clear c4
     obtain ⟨ji5, hji5⟩ : ∃ j_ : Int, (shl .u64 1 x4_1) = j_ := ⟨_, rfl⟩
     replace H : (if (IntKind.u64.wrap ((Go.bits .or .u64 x3_1 (ji5)) * (Go.bits .or .u64 x3_1 (ji5)))) ≤ a0 then (expo_Root.l0 k1 a0 (Go.bits .or .u64 x3_1 (ji5)) (wrap64 (x4_1 - 1))) else (expo_Root.l0 k1 a0 x3_1 (wrap64 (x4_1 - 1)))) = some r := by first | (rw [hji5] at H; exact H) | (simp only [hji5] at H ⊢; exact H)
     have hji5_ : (IntKind.u64.wrap (1 * 2 ^ min x4_1.toNat 64)) = ji5 := hji5
     have hji5z : x4_1 ≤ 64 → (IntKind.u64.wrap (1 * 2 ^ x4_1.toNat)) = ji5 := shl_small hji5
     have hji5u : (IntKind.u64.wrap (2 ^ min x4_1.toNat 64)) = ji5 := by have h_ := hji5_; rw [Int.one_mul] at h_; exact h_
     have hji5v : x4_1 ≤ 64 → (IntKind.u64.wrap (2 ^ x4_1.toNat)) = ji5 := fun hle_ => by have h_ := hji5z hle_; rw [Int.one_mul] at h_; exact h_
     by_cases c6 : (IntKind.u64.wrap ((Go.bits .or .u64 x3_1 (ji5)) * (Go.bits .or .u64 x3_1 (ji5)))) ≤ a0
     ·rw [if_pos c6] at H
      have c6b0 : decide ((IntKind.u64.wrap ((Go.bits .or .u64 x3_1 (ji5)) * (Go.bits .or .u64 x3_1 (ji5)))) ≤ a0) = true := decide_eq_true c6
      clear c6
      have H' := A_ H
      clear H
      go_wp2
      go_roundg k1
      case measure => have := HK1.out; omega
      case rel => exact ⟨(Go.bits .or .u64 x3_1 (ji5)), (wrap64 (x4_1 - 1)), (by first | rfl | (simp; done) | (simp only [← hji5] <;> (first | rfl | simp)) | (simp [*]; done)), rs_, H', ⟨by have := HK1.out; omega⟩, d0_⟩
     ·rw [if_neg c6] at H
      have c6b0 : decide ((IntKind.u64.wrap ((Go.bits .or .u64 x3_1 (ji5)) * (Go.bits .or .u64 x3_1 (ji5)))) ≤ a0) = false := decide_eq_false c6
      clear c6
      have H' := A_ H
      clear H
      go_wp2
      go_roundg k1
      case measure => have := HK1.out; omega
      case rel => exact ⟨(x3_1), (wrap64 (x4_1 - 1)), rs_, rs_, H', ⟨by have := HK1.out; omega⟩, d0_⟩
    ·rw [if_neg c4] at H
     exact absurd H (by simp)
   ·rw [if_neg c3] at H
    have c3b0 : decide (0 ≤ x4_1) = false := decide_eq_false c3
    clear c3
    obtain rfl := Option.some.inj H
    go_wp2
    go_ret
    exact ⟨rs_, d0_⟩
def expo_Rsqrt.f (k : Nat) (a0 : Int) : Option (Int) := if a0 ≤ 9223372036854775807 then ((expo_Root.f k (281474976710656 / (if a0 < 1 then 1 else a0))).bind fun t => (some (wrap32 (t)))) else none
theorem expo_Rsqrt.mono : ∀ a0 k, LeO (expo_Rsqrt.f k a0) (expo_Rsqrt.f (k + 1) a0) := by
 intro a0 k
 unfold expo_Rsqrt.f
 repeat' with_reducible first | apply expo_Root.mono | apply LeO.refl | apply LeO.none | refine LeO.ite ?_ ?_ | refine LeO.bind ?_ (fun _ => ?_)
theorem expo_Rsqrt.calls (k : Nat) (a0 : Int) (r : Int) (w : World) (h : expo_Rsqrt.f k a0 = some r) :
  Calls Try.prog 49 #[.int .i64 a0] w fun e w' => e = .returned (.int .i32 r) ∧ Below w.heap.size w w' := by
 unfold expo_Rsqrt.f at h
 by_cases h1 : a0 ≤ 9223372036854775807
 ·rw [if_pos h1] at h
  by_cases h0 : a0 < 1
  ·rw [if_pos h0] at h
   obtain ⟨t, ht, h⟩ := Option.bind_eq_some_iff.1 h
   obtain rfl := Option.some.inj h
   have HT := A_ ht
   clear ht h
   have hm : mx a0 1 = 1 := by unfold mx; omega
   go_enter Try.func49, Try.ntmps49
   go_wp2_with ((with_reducible refine (expo_Root.calls k 281474976710656 t _ (by simpa using HT.out)).mono ?_); rintro e w' ⟨rfl, ⟨nd, rfl⟩⟩)
   go_ret
   exact ⟨rfl, br_⟩
  ·rw [if_neg h0] at h
   obtain ⟨t, ht, h⟩ := Option.bind_eq_some_iff.1 h
   obtain rfl := Option.some.inj h
   have HT := A_ ht
   clear ht h
   have h2 : 1 ≤ a0 := by omega
   have hm : mx a0 1 = a0 := by unfold mx; omega
   clear h0
   go_enter Try.func49, Try.ntmps49
   go_wp2_with ((with_reducible refine (expo_Root.calls k (281474976710656 / a0) t _ HT.out).mono ?_); rintro e w' ⟨rfl, ⟨nd, rfl⟩⟩)
   go_ret
   exact ⟨rfl, br_⟩
 ·rw [if_neg h1] at h
  exact absurd h (by simp)
def attn_scaled.f (k : Nat) (a0 : Int) (a1 : Int) : Option (Int) := (fix_Half.f a0 16).bind fun t118 => ((fix_Wide.f t118).bind fun t119 => ((expo_Rsqrt.f k (wrap64 (a1 * 65536))).bind fun t120 => ((fix_Mul.f t119 t120).bind fun t121 => (some t121))))
theorem attn_scaled.mono : ∀ a0 a1 k, LeO (attn_scaled.f k a0 a1) (attn_scaled.f (k + 1) a0 a1) := by
 intro a0 a1 k
 unfold attn_scaled.f
 repeat' with_reducible first | apply expo_Rsqrt.mono | apply LeO.refl | apply LeO.none | refine LeO.ite ?_ ?_ | refine LeO.bind ?_ (fun _ => ?_)
theorem attn_scaled.calls (k : Nat) (a0 : Int) (a1 : Int) (r : Int) (w : World) (h : attn_scaled.f k a0 a1 = some r) :
  Calls Try.prog 26 #[.int .i64 a0, .int .i64 a1] w fun e w' => e = .returned (.int .i32 r) ∧ Below w.heap.size w w' := by
 have HB := A_ (Below.refl w.heap.size w)
 have H := h
 unfold attn_scaled.f at H
 clear h
 replace H := ob_ H
 obtain ⟨t118, A3, H⟩ := H
 try dsimp only at H
 replace H := ob_ H
 obtain ⟨t119, A4, H⟩ := H
 try dsimp only at H
 replace H := ob_ H
 obtain ⟨t120, A5, H⟩ := H
 try dsimp only at H
 replace H := ob_ H
 obtain ⟨t121, A6, H⟩ := H
 try dsimp only at H
 obtain rfl := Option.some.inj H
 go_enter Try.func26, Try.ntmps26
 go_wp2_with (first | (refine goesL_ (some 6) rfl rfl Try.func48 (by kernel_rfl) rfl #[.int .i64 a0, .int .i64 16] rfl ar_ ?_; (with_reducible refine (fix_Half.calls a0 16 t118 _ A3.out).mono ?_); rintro e w7 ⟨rfl, hb⟩; refine ⟨_, rfl, ?_⟩; replace HB := A_ (below_step bl_ hb)) | (refine goesL_ (some 7) rfl rfl Try.func47 (by kernel_rfl) rfl #[.int .i64 t118] rfl ar_ ?_; (with_reducible refine (fix_Wide.calls t118 t119 _ A4.out).mono ?_); rintro e w8 ⟨rfl, hb⟩; refine ⟨_, rfl, ?_⟩; replace HB := A_ (below_step bl_ hb)) | (refine goesL_ (some 10) rfl rfl Try.func49 (by kernel_rfl) rfl #[.int .i64 (wrap64 (a1 * 65536))] rfl ar_ ?_; (with_reducible refine (expo_Rsqrt.calls k (wrap64 (a1 * 65536)) t120 _ A5.out).mono ?_); rintro e w9 ⟨rfl, hb⟩; refine ⟨_, rfl, ?_⟩; replace HB := A_ (below_step bl_ hb)) | (refine goesL_ (some 11) rfl rfl Try.func46 (by kernel_rfl) rfl #[.int .i32 t119, .int .i32 t120] rfl ar_ ?_; (with_reducible refine (fix_Mul.calls t119 t120 t121 _ A6.out).mono ?_); rintro e w10 ⟨rfl, hb⟩; refine ⟨_, rfl, ?_⟩; replace HB := A_ (below_step bl_ hb)))
 go_ret
 exact ⟨ew_, bl_⟩
def attn_narrow.f (a0 : Int) : Option (Int) := (fix_Narrow.f (wrap64 (a0))).bind fun t107 => (some (wrap64 (t107)))
theorem attn_narrow.calls (a0 : Int) (r : Int) (w : World) (h : attn_narrow.f a0 = some r) :
  Calls Try.prog 45 #[.int .i32 a0] w fun e w' => e = .returned (.int .i64 r) ∧ Below w.heap.size w w' := by
 have HB := A_ (Below.refl w.heap.size w)
 have H := h
 unfold attn_narrow.f at H
 clear h
 replace H := ob_ H
 obtain ⟨t107, A2, H⟩ := H
 try dsimp only at H
 obtain rfl := Option.some.inj H
 go_enter Try.func45, Try.ntmps45
 go_wp2_with (first | (refine goesL_ (some 5) rfl rfl Try.func66 (by kernel_rfl) rfl #[.int .i64 (wrap64 (a0))] rfl ar_ ?_; (with_reducible refine (fix_Narrow.calls (wrap64 (a0)) t107 _ A2.out).mono ?_); rintro e w3 ⟨rfl, hb⟩; refine ⟨_, rfl, ?_⟩; replace HB := A_ (below_step bl_ hb)))
 go_ret
 exact ⟨ew_, bl_⟩
structure attn_Src where
 keys : List (List Int)
 vals : List (List Int)
def attn_IsSrc (w : World) (v : Value) (s : attn_Src) : Prop :=
 ∃ Ak ck Av cv, v = .iface 81 (.agg #[.slice Ak s.keys.length ck, .slice Av s.vals.length cv]) ∧ s.keys.length ≤ ck ∧ s.vals.length ≤ cv ∧
  Kd.C (Kd.slice 21 (Kd.int .i32)) w Ak s.keys.length s.keys ∧ Kd.C (Kd.slice 21 (Kd.int .i32)) w Av s.vals.length s.vals
theorem attn_IsSrc.below {w w1 : World} {v : Value} {s : attn_Src} (h : attn_IsSrc w v s) (hb : Below w.heap.size w w1) : attn_IsSrc w1 v s := by
 obtain ⟨Ak, ck, Av, cv, rfl, h1, h2, h3, h4⟩ := h
 exact ⟨Ak, ck, Av, cv, rfl, h1, h2, Kd.C_below h3 hb, Kd.C_below h4 hb⟩
def attn_Row (w : World) (A : Option Addr) (vs : List Value) : Prop := ∀ j : Nat, j < vs.length → ∃ ad, A = some ad ∧ w.cell? (ad.add j) = some (vs.getD j undef)
theorem attn_Row.below {w w1 : World} {A : Option Addr} {vs : List Value} (h : attn_Row w A vs) (hb : Below w.heap.size w w1) : attn_Row w1 A vs := fun j hj => by
 obtain ⟨ad, e, hc⟩ := h j hj
 exact ⟨ad, e, pw_cell_below hb hc⟩
def attn_Srcs (w : World) (A : Option Addr) (ss : List attn_Src) : Prop := ∃ vs : List Value, vs.length = ss.length ∧ attn_Row w A vs ∧ ∀ j : Nat, j < ss.length → attn_IsSrc w (vs.getD j undef) (ss.getD j ⟨[], []⟩)
theorem attn_Srcs.below {w w1 : World} {A : Option Addr} {ss : List attn_Src} (h : attn_Srcs w A ss) (hb : Below w.heap.size w w1) : attn_Srcs w1 A ss := by
 obtain ⟨vs, h1, h2, h3⟩ := h
 exact ⟨vs, h1, h2.below hb, fun j hj => (h3 j hj).below hb⟩
theorem attn_Srcs.at_ {w : World} {A : Option Addr} {ss : List attn_Src} (h : attn_Srcs w A ss) (j : Nat) (hj : j < ss.length) : ∃ ad v, A = some ad ∧ w.cell? (ad.add j) = some v ∧ attn_IsSrc w v (ss.getD j ⟨[], []⟩) := by
 obtain ⟨vs, h1, h2, h3⟩ := h
 obtain ⟨ad, e, hc⟩ := h2 j (by omega)
 exact ⟨ad, _, e, hc, h3 j hj⟩
def attn_keys (ss : List attn_Src) : List (List Int) := ss.flatMap (·.keys)
def attn_vals (ss : List attn_Src) : List (List Int) := ss.flatMap (·.vals)
theorem attn_keys_step {ss : List attn_Src} {j : Nat} (hj : j < ss.length) : attn_keys (ss.drop j) = (ss.getD j ⟨[], []⟩).keys ++ attn_keys (ss.drop (j + 1)) := by
 unfold attn_keys
 rw [List.drop_eq_getElem_cons hj, List.flatMap_cons, List.getD_eq_getElem?_getD, List.getElem?_eq_getElem hj]
 rfl
theorem attn_vals_step {ss : List attn_Src} {j : Nat} (hj : j < ss.length) : attn_vals (ss.drop j) = (ss.getD j ⟨[], []⟩).vals ++ attn_vals (ss.drop (j + 1)) := by
 unfold attn_vals
 rw [List.drop_eq_getElem_cons hj, List.flatMap_cons, List.getD_eq_getElem?_getD, List.getElem?_eq_getElem hj]
 rfl
theorem attn_drop_row {α : Type} {l : List (List α)} {t : Nat} (ht : t < l.length) : l.drop t = l.getD t [] :: l.drop (t + 1) := by
 rw [List.drop_eq_getElem_cons ht, List.getD_eq_getElem?_getD, List.getElem?_eq_getElem ht]
 rfl
theorem attn_drop_num {l : List Int} {t : Nat} (ht : t < l.length) : l.drop t = rd l t :: l.drop (t + 1) := by
 rw [List.drop_eq_getElem_cons ht]
 simp [rd, List.getD_eq_getElem?_getD, List.getElem?_eq_getElem ht]
theorem attn_plain.nil_count (a : Array Value) (W : World) : (nilAhead 257 81 (.agg a) "credenza/attn.count").run Try.prog W = .ok (some false) W := by kernel_rfl
theorem attn_plain.nil_key (a : Array Value) (W : World) : (nilAhead 257 81 (.agg a) "credenza/attn.key").run Try.prog W = .ok (some false) W := by kernel_rfl
theorem attn_plain.nil_value (a : Array Value) (W : World) : (nilAhead 257 81 (.agg a) "credenza/attn.value").run Try.prog W = .ok (some false) W := by kernel_rfl
theorem attn_plain.m_count (a : Array Value) (W : World) : (method 257 81 (.agg a) "credenza/attn.count").run Try.prog W = .ok (119, .agg a) W := by kernel_rfl
theorem attn_plain.m_key (a : Array Value) (W : World) : (method 257 81 (.agg a) "credenza/attn.key").run Try.prog W = .ok (120, .agg a) W := by kernel_rfl
theorem attn_plain.m_value (a : Array Value) (W : World) : (method 257 81 (.agg a) "credenza/attn.value").run Try.prog W = .ok (121, .agg a) W := by kernel_rfl
def attn_sum.l (key : List Int) : List Int → Nat → Int → Option Int
 | [], _, s => some s
 | x :: q, p, s => if p < key.length then ((attn_narrow.f (rd key p)).bind fun t => attn_sum.l key q (p + 1) (wrap64 (s + wrap64 (wrap64 x * t)))) else none
def attn_scores.l (k : Nat) (q : List Int) : List (List Int) → List Int → Option (List Int)
 | [], out => some out
 | key :: ks, out => (attn_sum.l key q 0 0).bind fun s => (attn_scaled.f k s (q.length : Int)).bind fun x => attn_scores.l k q ks (out ++ [x])
theorem attn_scores.len {k : Nat} {q : List Int} : ∀ {ks : List (List Int)} {out r : List Int}, attn_scores.l k q ks out = some r → r.length = out.length + ks.length
 | [], out, r, h => by simp only [attn_scores.l] at h; rw [← Option.some.inj h]; simp
 | key :: ks, out, r, h => by
  simp only [attn_scores.l] at h
  obtain ⟨s, _, h⟩ := Option.bind_eq_some_iff.1 h
  obtain ⟨x, _, h⟩ := Option.bind_eq_some_iff.1 h
  have := attn_scores.len h
  simp at this ⊢
  omega
theorem attn_plain_key.at_ {l0 l1 : List (List Int)} {t p : Nat} (h1 : t < l0.length) (h2 : p < (l0.getD t []).length) : attn_plain_key.f l0 l1 (t : Int) (p : Int) = some (rd (l0.getD t []) (p : Int)) := by
 unfold attn_plain_key.f
 rw [if_pos (by omega), if_pos (by omega), if_pos (by omega), if_pos (by simpa [rd_L11] using h2)]
 simp [rd_L11]
theorem attn_scores.calls (k : Nat) (Aq : Option Addr) (cq : Nat) (q : List Int) (A : Option Addr) (c : Nat) (ss : List attn_Src) (r : List Int) (w : World)
  (hq : Kd.C (Kd.int .i32) w Aq q.length q) (hs : attn_Srcs w A ss) (hn1 : ss.length ≤ 1000000) (hn2 : r.length ≤ 1000000)
  (h : attn_scores.l k q (attn_keys ss) [] = some r) :
  Calls Try.prog 41 #[.slice Aq q.length cq, .slice A ss.length c] w fun e w' => ∃ v0_ : Value, e = .returned (v0_) ∧ Kd.R (Kd.int .i32) 21 w' w.heap.size (fun _ => True) v0_ r ∧ Below w.heap.size w w' := by
 have hn3 : q.length ≤ 9223372036854775807 := hq.2.1
 have HQ := A_ hq
 have HS := A_ hs
 have H0 := A_ h
 clear hq hs h
 go_enter Try.func41, Try.ntmps41
 go_wp2
 go_loopw [5, 14] (fun v i wr => ∃ (j : Nat) (out : List Int), j ≤ ss.length ∧ i = .int .i64 j ∧ Aside0 (attn_scores.l k q (attn_keys (ss.drop j)) out = some r) ∧ Aside0 (Kd.R (Kd.int .i32) 21 wr w.heap.size (fun _ => True) v out) ∧ Aside0 (Below w.heap.size w wr)) (fun _ i _ => ss.length - (intOf i).toNat)
 case atStart => exact ⟨0, [], Nat.zero_le _, rfl, H0, ⟨Kd.R_nil _ _ _ _ _⟩, ⟨Below.refl _ _⟩⟩
 case round =>
  obtain ⟨j, out, hj, rfl, HA, HO, HB⟩ := hrel
  by_cases hlt : j < ss.length
  ·obtain ⟨ad, v, rfl, hc, hv⟩ := HS.out.at_ j hlt
   have hst := attn_keys_step hlt
   generalize ss.getD j ⟨[], []⟩ = s at hv hst
   have HA2 := HA.out
   rw [hst] at HA2
   have HA3 := A_ HA2
   clear HA2 hst
   replace hc := pw_cell_below HB.out hc
   obtain ⟨Ak, ck, Av, cv, rfl, hck, hcv, hk, hvv⟩ := hv
   have HK := A_ hk
   have HV := A_ hvv
   clear hk hvv
   obtain ⟨wo, rfl⟩ : ∃ wo : World, wo = wr := ⟨_, rfl⟩
   have N1 := attn_plain.nil_count
   have M1 := attn_plain.m_count
   go_wp2_with (go_at_call 119; (with_reducible refine (attn_plain_count.calls Ak ck s.keys Av cv s.vals (s.keys.length : Int) _ (Kd.C_below HK.out HB.out) hck (Kd.C_below HV.out HB.out) hcv rfl).mono ?_); rintro e w1 ⟨rfl, hb1⟩)
   have hkl : s.keys.length ≤ 9223372036854775807 := HK.out.2.1
   clear N1 M1
   have N1 := attn_plain.nil_key
   have M1 := attn_plain.m_key
   have hb0 := HB.out.trans (hb1.mono HB.out.size)
   have HB1 := A_ hb0
   have HO1 := A_ (Kd.R_below HO.out hb1)
   clear hb1 hb0 HO HA hc
   go_loopw [5, 20] (fun v i wr => ∃ (t : Nat) (out : List Int), t ≤ s.keys.length ∧ i = .int .i64 t ∧ Aside0 (attn_scores.l k q (s.keys.drop t ++ attn_keys (ss.drop (j + 1))) out = some r) ∧ Aside0 (Kd.R (Kd.int .i32) 21 wr w.heap.size (fun _ => True) v out) ∧ Aside0 (Below w.heap.size w wr)) (fun _ i _ => s.keys.length - (intOf i).toNat)
   case atStart => exact ⟨0, out, Nat.zero_le _, rfl, HA3, HO1, HB1⟩
   case round =>
    clear HA3 HO1 HB1 HB
    obtain ⟨t, out2, ht, rfl, HA, HO, HB⟩ := hrel
    by_cases htl : t < s.keys.length
    ·have HA2 := HA.out
     rw [attn_drop_row htl, List.cons_append] at HA2
     simp only [attn_scores.l] at HA2
     obtain ⟨sm, hsm, HA2⟩ := Option.bind_eq_some_iff.1 HA2
     obtain ⟨x, hx, HA2⟩ := Option.bind_eq_some_iff.1 HA2
     have HSM := A_ hsm
     have HX := A_ hx
     have hol : out2.length + 1 ≤ r.length := by have := attn_scores.len HA2; simp at this; omega
     have HA4 := A_ HA2
     clear HA hsm hx HA2
     have HKEY := A_ (fun p => attn_plain_key.at_ (l1 := s.vals) (p := p) htl)
     generalize s.keys.getD t [] = key at HSM HKEY
     obtain ⟨wo, rfl⟩ : ∃ wo : World, wo = wr := ⟨_, rfl⟩
     go_wp2
     go_loopw [9, 25] (fun v i wr => ∃ (p : Nat) (s0 : Int), p ≤ q.length ∧ i = .int .i64 p ∧ v = .int .i64 s0 ∧ Aside0 (attn_sum.l key (q.drop p) p s0 = some sm) ∧ Aside0 (Below w.heap.size w wr) ∧ Aside0 (Below wo.heap.size wo wr)) (fun _ i _ => q.length - (intOf i).toNat)
     case atStart => exact ⟨0, 0, Nat.zero_le _, rfl, rfl, HSM, HB, ⟨Below.refl _ _⟩⟩
     case round =>
      have HBo := HB
      clear HSM HB
      obtain ⟨p, s0, hp, rfl, rfl, HS2, HB, HW⟩ := hrel
      by_cases hpl : p < q.length
      ·have HS3 := HS2.out
       rw [attn_drop_num hpl] at HS3
       simp only [attn_sum.l] at HS3
       by_cases hpk : p < key.length
       ·rw [if_pos hpk] at HS3
        obtain ⟨tt, htt, HS3⟩ := Option.bind_eq_some_iff.1 HS3
        have HTT := A_ htt
        have HS4 := A_ HS3
        have HK2 := A_ (HKEY.out p hpk)
        clear HS3 htt HS2 hpk
        obtain ⟨adq, rfl, hcq⟩ := Kd.at_int (Kd.C_below HQ.out HB.out) (p : Int) (by omega) (by omega)
        simp only [Int.toNat_natCast] at hcq
        go_wp2_with (first
         | (go_at_call 120; (with_reducible refine (attn_plain_key.calls Ak ck s.keys Av cv s.vals (t : Int) (p : Int) _ _ (Kd.C_below HK.out HB.out) hck (Kd.C_below HV.out HB.out) hcv HK2.out).mono ?_); rintro e w2 ⟨rfl, hb2⟩)
         | (go_at_call 45; (with_reducible refine (attn_narrow.calls (rd key (p : Int)) tt _ HTT.out).mono ?_); rintro e w3 ⟨rfl, hb3⟩))
        go_roundw
        case rel => exact ⟨p + 1, _, by omega, by go_num, rfl, HS4, ⟨HB.out.trans ((hb2.trans (hb3.mono hb2.size)).mono HB.out.size)⟩, ⟨HW.out.trans ((hb2.trans (hb3.mono hb2.size)).mono HW.out.size)⟩⟩
        case measure => simp [intOf]; omega
       ·rw [if_neg hpk] at HS3
        exact absurd HS3 (by simp)
      ·obtain rfl : p = q.length := by omega
       have HS3 := HS2.out
       rw [List.drop_length] at HS3
       obtain rfl := Option.some.inj HS3
       clear HS3 HS2
       go_wp2_with (first
        | (go_at_call 26; (with_reducible refine (attn_scaled.calls k s0 (q.length : Int) x _ HX.out).mono ?_); rintro e w2 ⟨rfl, hb2⟩)
        | ((with_reducible refine gate_builtin (b := .append) rfl ?_); at_builtin; refine Kd.R_append (Kd.int .i32) (w0 := w) w.heap.size rfl _ _ 22 21 (.int .i32 0) 4 rfl Try.underlying22 info21 rfl (by decide) (by omega) u5 out2 x [.int .i32 x] (fun _ => True) (fun _ => False) rfl rfl ?aP (fun _ hk => hk.elim) ?aF ?aO ?aB ?aS ?aL ?_; (case aP => exact rfl); (case aF => exact (fun _ _ => trivial)); (case aO => exact Kd.R_below (Kd.R_below HO.out HW.out) hb2); (case aB => exact HB.out.trans (hb2.mono HB.out.size)); (case aS => exact Nat.le_trans HB.out.size hb2.size); (case aL => omega); intro v' w3 hR3 hb3 hg3 hat3))
       go_roundw
       case rel => exact ⟨t + 1, out2 ++ [x], by omega, by go_num, HA4, ⟨hR3⟩, ⟨hb3⟩⟩
       case measure => simp [intOf]; omega
    ·obtain rfl : t = s.keys.length := by omega
     have HA2 := HA.out
     rw [List.drop_length, List.nil_append] at HA2
     have HA4 := A_ HA2
     clear HA2 HA
     go_wp2
     go_roundw
     case rel => exact ⟨j + 1, out2, by omega, by go_num, HA4, HO, HB⟩
     case measure => simp [intOf]; omega
  ·obtain rfl : j = ss.length := by omega
   have HA2 := HA.out
   rw [List.drop_length] at HA2
   obtain rfl := Option.some.inj HA2
   clear HA2
   go_wp2
   go_ret
   exact ⟨_, rfl, by (with_reducible repeat (first | apply Kd.R_alloc | apply Kd.R_drewN | apply Kd.R_drew)); exact HO.out, bl_⟩
theorem attn_scores.one (k : Nat) (Aq : Option Addr) (cq : Nat) (q : List Int) (A : Option Addr) (c : Nat) (s : attn_Src) (r : List Int) (w : World)
  (hq : Kd.C (Kd.int .i32) w Aq q.length q) (hs : attn_Srcs w A [s]) (hn2 : r.length ≤ 1000000) (h : attn_scores.l k q s.keys [] = some r) :
  Calls Try.prog 41 #[.slice Aq q.length cq, .slice A 1 c] w fun e w' => ∃ v0_ : Value, e = .returned (v0_) ∧ Kd.R (Kd.int .i32) 21 w' w.heap.size (fun _ => True) v0_ r ∧ Below w.heap.size w w' :=
 attn_scores.calls k Aq cq q A c [s] r w hq hs (by simp) hn2 (by simpa [attn_keys] using h)
def attn_sized.f (a0 : Int) : Option (Bool) := if a0 ≥ 1 then (some (decide (a0 ≤ 16))) else (some false)
theorem attn_sized.calls (a0 : Int) (r : Bool) (w : World) (h : attn_sized.f a0 = some r) :
  Calls Try.prog 23 #[.int .i64 a0] w fun e w' => e = .returned (.bool r) ∧ Drawn0 w w' := by
 have H := h
 unfold attn_sized.f at H
 clear h
 by_cases c2 : a0 ≥ 1
 ·rw [if_pos c2] at H
  have c2b0 : decide (1 ≤ a0) = true := decide_eq_true c2
  clear c2
  obtain rfl := Option.some.inj H
  go_enter Try.func23, Try.ntmps23
  go_wp2
  go_ret
  exact ⟨rs_, d0_⟩
 ·rw [if_neg c2] at H
  have c2b0 : decide (1 ≤ a0) = false := decide_eq_false c2
  clear c2
  obtain rfl := Option.some.inj H
  go_enter Try.func23, Try.ntmps23
  go_wp2
  go_ret
  exact ⟨rs_, d0_⟩
def dot_shape.f (l0 : List Int) (l1 : List Int) : Option (Int) := if (l0.length : Int) = (l1.length : Int) then (if (l0.length : Int) > 1024 then (some 12) else (some 0)) else (some 25)
theorem dot_shape.calls (A0 : Option Addr) (c0 : Nat) (l0 : List Int) (A1 : Option Addr) (c1 : Nat) (l1 : List Int) (r : Int) (w : World) (hr0 : Kd.C (Kd.int .i32) w A0 l0.length l0) (hc0 : l0.length ≤ c0) (hr1 : Kd.C (Kd.int .i32) w A1 l1.length l1) (hc1 : l1.length ≤ c1) (h : dot_shape.f l0 l1 = some r) :
  Calls Try.prog 43 #[.slice A0 l0.length c0, .slice A1 l1.length c1] w fun e w' => e = .returned (.int .i64 r) ∧ Drawn0 w w' := by
 have HR0 := A_ hr0
 have HC0 := A_ hc0
 clear hr0 hc0
 have HR1 := A_ hr1
 have HC1 := A_ hc1
 clear hr1 hc1
 have H := h
 unfold dot_shape.f at H
 clear h
 by_cases c3 : (l0.length : Int) = (l1.length : Int)
 ·rw [if_pos c3] at H
  have c3b0 : ((l0.length : Int) == (l1.length : Int)) = true := beq_iff_eq.mpr c3
  have c3b1 : ((l0.length : Int) != (l1.length : Int)) = false := bne_eq_false_iff_eq.mpr c3
  have c3b2 : (l0.length == l1.length) = true := by first | simpa using c3 | (simp at c3 ⊢; omega)
  clear c3
  by_cases c4 : (l0.length : Int) > 1024
  ·rw [if_pos c4] at H
   have c4b0 : decide (1024 < (l0.length : Int)) = true := decide_eq_true c4
   have c4b1 : decide (1024 < l0.length) = true := decide_eq_true (by omega)
   clear c4
   obtain rfl := Option.some.inj H
   go_enter Try.func43, Try.ntmps43
   go_wp2
   go_ret
   exact ⟨rs_, d0_⟩
  ·rw [if_neg c4] at H
   have c4b0 : decide (1024 < (l0.length : Int)) = false := decide_eq_false c4
   have c4b1 : decide (1024 < l0.length) = false := decide_eq_false (by omega)
   clear c4
   obtain rfl := Option.some.inj H
   go_enter Try.func43, Try.ntmps43
   go_wp2
   go_ret
   exact ⟨rs_, d0_⟩
 ·rw [if_neg c3] at H
  have c3b0 : ((l0.length : Int) == (l1.length : Int)) = false := beq_eq_false_iff_ne.mpr c3
  have c3b1 : ((l0.length : Int) != (l1.length : Int)) = true := bne_iff_ne.mpr c3
  have c3b2 : (l0.length == l1.length) = false := by first | simpa using c3 | (simp at c3 ⊢; omega)
  obtain rfl := Option.some.inj H
  go_enter Try.func43, Try.ntmps43
  go_wp2
  go_ret
  exact ⟨rs_, d0_⟩
def dot_Mild.wild (x : Int) : Bool := !(decide (-16777216 ≤ x) && decide (x ≤ 16777216))
def dot_Mild.f (l0 : List Int) : Option Bool := some (decide (l0.length ≤ 1024) && !l0.any dot_Mild.wild)
theorem dot_Mild.fn (x : Int) (w : World) : Calls Try.prog 70 #[.int .i32 x] w fun e w' => e = .returned (.bool (dot_Mild.wild x)) ∧ Drawn0 w w' := by
 by_cases h1 : x < -16777216
 ·have e1 : dot_Mild.wild x = true := by unfold dot_Mild.wild; simp; omega
  have E1 := A_ e1
  clear e1
  have h1b : decide (x < -16777216) = true := decide_eq_true h1
  clear h1
  go_enter Try.func70, Try.ntmps70
  go_wp2
  go_ret
  exact ⟨by rw [E1.out]; rfl, Drawn0.refl _⟩
 ·have h1b : decide (x < -16777216) = false := decide_eq_false h1
  by_cases h2 : x > 16777216
  ·have e1 : dot_Mild.wild x = true := by unfold dot_Mild.wild; simp; omega
   have E1 := A_ e1
   clear e1
   have h2b : decide (16777216 < x) = true := decide_eq_true h2
   clear h1 h2
   go_enter Try.func70, Try.ntmps70
   go_wp2
   go_ret
   exact ⟨by rw [E1.out]; rfl, Drawn0.refl _⟩
  ·have e1 : dot_Mild.wild x = false := by unfold dot_Mild.wild; simp; omega
   have E1 := A_ e1
   clear e1
   have h2b : decide (16777216 < x) = false := decide_eq_false h2
   clear h1 h2
   go_enter Try.func70, Try.ntmps70
   go_wp2
   go_ret
   exact ⟨by rw [E1.out]; rfl, Drawn0.refl _⟩
theorem dot_Mild.any_yes {l : List Int} {k : Nat} (hk : k < l.length) (h : dot_Mild.wild (rd l k) = true) : l.any dot_Mild.wild = true := by
 rw [List.any_eq_true]
 refine ⟨l[k], List.getElem_mem hk, ?_⟩
 simpa [rd, List.getD_eq_getElem?_getD, List.getElem?_eq_getElem hk] using h
theorem dot_Mild.any_no {l : List Int} (h : ∀ j : Nat, j < l.length → dot_Mild.wild (rd l j) = false) : l.any dot_Mild.wild = false := by
 rw [List.any_eq_false]
 intro x hx
 obtain ⟨j, hj, rfl⟩ := List.getElem_of_mem hx
 have := h j hj
 simpa [rd, List.getD_eq_getElem?_getD, List.getElem?_eq_getElem hj] using this
def dot_Mild.Ix (l0 : List Int) (w : World) (e : Ending) (w' : World) : Prop := ∃ r : Int, e = .returned (.int .i64 r) ∧ (decide (r ≥ 0) = l0.any dot_Mild.wild) ∧ Drawn0 w w'
theorem dot_Mild.indexFunc (A0 : Option Addr) (c0 : Nat) (l0 : List Int) (w : World) (hr0 : Kd.C (Kd.int .i32) w A0 l0.length l0) (hl : l0.length ≤ 1024) :
  Calls Try.prog 84 #[.slice A0 l0.length c0, .func (.func 70) #[] #[]] w (dot_Mild.Ix l0 w) := by
 have HR0 := A_ hr0
 clear hr0
 go_enter Try.func84, Try.ntmps84
 go_wp2
 go_loopw [8] (fun i wr => ∃ k : Nat, k ≤ l0.length ∧ i = .int .i64 k ∧ Aside0 (∀ j : Nat, j < k → dot_Mild.wild (rd l0 j) = false) ∧ Drawn0 w wr) (fun i _ => l0.length - (intOf i).toNat)
 case atStart => exact ⟨0, Nat.zero_le _, rfl, ⟨fun j hj => absurd hj (Nat.not_lt_zero j)⟩, Drawn0.refl _⟩
 case round =>
  obtain ⟨k, hk, rfl, HA, ⟨m1, rfl⟩⟩ := hrel
  by_cases hlt : k < l0.length
  ·obtain ⟨ad, rfl, hx⟩ := Kd.at_int HR0.out (k : Int) (by omega) (by omega)
   simp only [Int.toNat_natCast] at hx
   by_cases hw : dot_Mild.wild (rd l0 k) = true
   ·have HW := A_ hw
    clear hw
    go_wp2_with ((with_reducible refine (dot_Mild.fn _ _).mono ?_); rw [HW.out]; rintro e w' ⟨rfl, ⟨m2, rfl⟩⟩)
    go_ret
    exact ⟨k, rfl, by rw [dot_Mild.any_yes hlt HW.out]; simp, ⟨_, rfl⟩⟩
   ·have HW := A_ (Bool.eq_false_iff.2 hw)
    clear hw
    go_wp2_with ((with_reducible refine (dot_Mild.fn _ _).mono ?_); rw [HW.out]; rintro e w' ⟨rfl, ⟨m2, rfl⟩⟩)
    go_roundw
    case rel =>
     refine ⟨k + 1, by omega, by go_num, ⟨fun j hj => ?_⟩, d0_⟩
     rcases Nat.lt_succ_iff_lt_or_eq.1 hj with h | rfl
     ·exact HA.out j h
     ·exact HW.out
    case measure => simp [intOf]; omega
  ·obtain rfl : k = l0.length := by omega
   go_wp2
   go_ret
   exact ⟨-1, rfl, by rw [dot_Mild.any_no HA.out]; rfl, ⟨_, rfl⟩⟩
theorem dot_Mild.contains (A0 : Option Addr) (c0 : Nat) (l0 : List Int) (w : World) (hr0 : Kd.C (Kd.int .i32) w A0 l0.length l0) (hl : l0.length ≤ 1024) :
  Calls Try.prog 69 #[.slice A0 l0.length c0, .func (.func 70) #[] #[]] w fun e w' => e = .returned (.bool (l0.any dot_Mild.wild)) ∧ Drawn0 w w' := by
 have HR0 := A_ hr0
 clear hr0
 go_enter Try.func69, Try.ntmps69
 go_wp2_with ((with_reducible refine (dot_Mild.indexFunc A0 c0 l0 _ HR0.out hl).mono ?_); rintro e w' ⟨r, rfl, hb, ⟨m1, rfl⟩⟩; have HB := A_ hb; clear hb)
 go_ret
 exact ⟨by rw [← HB.out]; rfl, ⟨_, rfl⟩⟩
theorem dot_Mild.calls (A0 : Option Addr) (c0 : Nat) (l0 : List Int) (r : Bool) (w : World) (hr0 : Kd.C (Kd.int .i32) w A0 l0.length l0) (hc0 : l0.length ≤ c0) (h : dot_Mild.f l0 = some r) :
  Calls Try.prog 44 #[.slice A0 l0.length c0] w fun e w' => e = .returned (.bool r) ∧ Drawn0 w w' := by
 have H := A_ (Option.some.inj h)
 clear h
 have HR0 := A_ hr0
 clear hr0
 by_cases hl : l0.length ≤ 1024
 ·have hlb : decide ((l0.length : Int) ≤ 1024) = true := decide_eq_true (by omega)
  go_enter Try.func44, Try.ntmps44
  go_wp2_with ((with_reducible refine (dot_Mild.contains A0 c0 l0 _ HR0.out hl).mono ?_); rintro e w' ⟨rfl, ⟨m1, rfl⟩⟩)
  go_ret
  exact ⟨by rw [← H.out]; simp [hl], ⟨_, rfl⟩⟩
 ·have hlb : decide ((l0.length : Int) ≤ 1024) = false := decide_eq_false (by omega)
  go_enter Try.func44, Try.ntmps44
  go_wp2
  go_ret
  exact ⟨by rw [← H.out]; simp [hl], Drawn0.refl _⟩
mutual
def dot_Dot.j0 : Nat → List Int → List Int → Bool → Option (Int × Int)
 | 0, _, _, _ => none
 | k + 1, x0, x1, x23 => if x23 = true then (some (0, 11)) else (dot_Dot.l0 k x1 0 x0 (x0.length : Int) 0)
def dot_Dot.l0 : Nat → List Int → Int → List Int → Int → Int → Option (Int × Int)
 | 0, _, _, _, _, _ => none
 | k + 1, x1, x7, x24, x25, x26 => if x26 < x25 then (if 0 ≤ x26 then (if x26 < (x24.length : Int) then (if x26 < (x1.length : Int) then (dot_Dot.l0 k x1 (wrap64 (x7 + (wrap64 ((wrap64 (rd x24 x26)) * (wrap64 (rd x1 x26)))))) x24 x25 (wrap64 (x26 + 1))) else (none)) else (none)) else (none)) else (some (x7, 0))
end
def dot_Dot.f (k : Nat) (l0 : List Int) (l1 : List Int) : Option (Int × Int) := (dot_shape.f l0 l1).bind fun t101 => (if t101 = 0 then ((dot_Mild.f l0).bind fun t102 => (if t102 = true then ((dot_Mild.f l1).bind fun t103 => (dot_Dot.j0 k l0 l1 (!t103))) else (dot_Dot.j0 k l0 l1 true))) else (some (0, t101)))
theorem dot_Dot.mono_l : ∀ k, (∀ y0 y1 y2, LeO (dot_Dot.j0 k y0 y1 y2) (dot_Dot.j0 (k + 1) y0 y1 y2)) ∧ (∀ y0 y1 y2 y3 y4, LeO (dot_Dot.l0 k y0 y1 y2 y3 y4) (dot_Dot.l0 (k + 1) y0 y1 y2 y3 y4))
 | 0 => ⟨fun _ _ _ r h => by simp [dot_Dot.j0] at h, fun _ _ _ _ _ r h => by simp [dot_Dot.l0] at h⟩
 | k + 1 => by
  obtain ⟨ih0, ih1⟩ := dot_Dot.mono_l k
  refine ⟨?_, ?_⟩
  ·intro y0 y1 y2
   unfold dot_Dot.j0
   repeat' with_reducible first | apply ih0 | apply ih1 | apply LeO.refl | apply LeO.none | refine LeO.ite ?_ ?_ | refine LeO.bind ?_ (fun _ => ?_)
  ·intro y0 y1 y2 y3 y4
   unfold dot_Dot.l0
   repeat' with_reducible first | apply ih0 | apply ih1 | apply LeO.refl | apply LeO.none | refine LeO.ite ?_ ?_ | refine LeO.bind ?_ (fun _ => ?_)
theorem dot_Dot.mono : ∀ a0 a1 k, LeO (dot_Dot.f k a0 a1) (dot_Dot.f (k + 1) a0 a1) := by
 intro a0 a1 k
 obtain ⟨ih0, ih1⟩ := dot_Dot.mono_l k
 unfold dot_Dot.f
 repeat' with_reducible first | apply ih0 | apply ih1 | apply LeO.refl | apply LeO.none | refine LeO.ite ?_ ?_ | refine LeO.bind ?_ (fun _ => ?_)
theorem dot_Dot.calls (k : Nat) (A0 : Option Addr) (c0 : Nat) (l0 : List Int) (A1 : Option Addr) (c1 : Nat) (l1 : List Int) (r1 : Int) (r2 : Int) (w : World) (hr0 : Kd.C (Kd.int .i32) w A0 l0.length l0) (hc0 : l0.length ≤ c0) (hr1 : Kd.C (Kd.int .i32) w A1 l1.length l1) (hc1 : l1.length ≤ c1) (h : dot_Dot.f k l0 l1 = some (r1, r2)) :
  Calls Try.prog 24 #[.slice A0 l0.length c0, .slice A1 l1.length c1] w fun e w' => e = .returned (.tuple #[.int .i64 r1, .int .i64 r2]) ∧ Drawn0 w w' := by
 have HR0 := A_ hr0
 have HC0 := A_ hc0
 clear hr0 hc0
 have HR1 := A_ hr1
 have HC1 := A_ hc1
 clear hr1 hc1
 have H : ((dot_shape.f l0 l1).bind fun t101 => (if t101 = 0 then ((dot_Mild.f l0).bind fun t102 => (if t102 = true then ((dot_Mild.f l1).bind fun t103 => (dot_Dot.j0 k l0 l1 (!t103))) else (dot_Dot.j0 k l0 l1 true))) else (some (0, t101)))) = some (r1, r2) := h
 clear h
 replace H := ob_ H
 obtain ⟨t101, A3, H⟩ := H
 try dsimp only at H
 by_cases c4 : t101 = 0
 ·rw [if_pos c4] at H
  have c4b0 : (t101 == 0) = true := beq_iff_eq.mpr c4
  have c4b1 : (t101 != 0) = false := bne_eq_false_iff_eq.mpr c4
  clear c4
  have HC5 := A_ H
  clear H
  go_enter Try.func24, Try.ntmps24
  go_upto_region 4 with (first | (refine goesL_ (some 12) rfl rfl Try.func43 (by kernel_rfl) rfl #[.slice A0 l0.length c0, .slice A1 l1.length c1] rfl ar_ ?_; (with_reducible refine (dot_shape.calls _ _ l0 _ _ l1 t101 _ ?side1 ?side2 ?side3 ?side4 A3.out).mono ?_); (case side1 => exact cb_ HR0.out); (case side2 => exact HC0.out); (case side3 => exact cb_ HR1.out); (case side4 => exact HC1.out); rintro e w' ⟨rfl, ⟨nd, rfl⟩⟩; refine ⟨_, rfl, ?_⟩))
  (try simp only [Act.put, ps_])
  go_cut [23] (fun v23 wc => ∃ (kq : Nat) (x23_4 : Bool), v23 = .bool x23_4 ∧ Aside0 (dot_Dot.j0 kq l0 l1 x23_4 = some (r1, r2)) ∧ Aside0 (kq ≤ k) ∧ Drawn0 w wc)
  case first =>
   have H := HC5.out
   clear HC5
   replace H := ob_ H
   obtain ⟨t102, A6, H⟩ := H
   try dsimp only at H
   by_cases c7 : t102 = true
   ·subst c7
    replace H : ((dot_Mild.f l1).bind fun t103 => (dot_Dot.j0 k l0 l1 (!t103))) = some (r1, r2) := by rw [if_pos rfl] at H; exact H
    replace H := ob_ H
    obtain ⟨t103, A8, H⟩ := H
    try dsimp only at H
    have H' := A_ H
    clear H
    go_wp2_with (first | (refine goesL_ (some 17) rfl rfl Try.func44 (by kernel_rfl) rfl #[.slice A0 l0.length c0] rfl ar_ ?_; (with_reducible refine (dot_Mild.calls _ _ l0 true _ ?side1 ?side2 A6.out).mono ?_); (case side1 => exact cb_ HR0.out); (case side2 => exact HC0.out); rintro e w' ⟨rfl, ⟨nd, rfl⟩⟩; refine ⟨_, rfl, ?_⟩) | (go_at_call 44; (with_reducible refine (dot_Mild.calls _ _ l1 t103 _ ?side1 ?side2 A8.out).mono ?_); (case side1 => exact cb_ HR1.out); (case side2 => exact HC1.out); rintro e w' ⟨rfl, ⟨nd, rfl⟩⟩))
    go_meet
    case rel => exact ⟨_, (!t103), rs_, H', ⟨by first | omega | exact Nat.le_refl _⟩, d0_⟩
   ·replace c7 := Bool.eq_false_iff.mpr c7
    subst c7
    replace H : (dot_Dot.j0 k l0 l1 true) = some (r1, r2) := by rw [if_neg (show ¬ (false = true) by decide)] at H; exact H
    have H' := A_ H
    clear H
    go_wp2_with (first | (refine goesL_ (some 17) rfl rfl Try.func44 (by kernel_rfl) rfl #[.slice A0 l0.length c0] rfl ar_ ?_; (with_reducible refine (dot_Mild.calls _ _ l0 false _ ?side1 ?side2 A6.out).mono ?_); (case side1 => exact cb_ HR0.out); (case side2 => exact HC0.out); rintro e w' ⟨rfl, ⟨nd, rfl⟩⟩; refine ⟨_, rfl, ?_⟩))
    go_meet
    case rel => exact ⟨_, (true), rs_, H', ⟨by first | omega | exact Nat.le_refl _⟩, d0_⟩
  case rest =>
   clear HC5
   obtain ⟨kq, x23_4, rfl, HA, HJ4, ⟨mc4, rfl⟩⟩ := hcut
   cases kq with
   | zero => exact absurd HA.out (by simp [dot_Dot.j0])
   | succ kj4 =>
    have H := HA.out
    clear HA
    simp only [dot_Dot.j0] at H
    by_cases c9 : x23_4 = true
    ·subst c9
     replace H : (some (0, 11)) = some (r1, r2) := by rw [if_pos rfl] at H; exact H
     simp only [Option.some.injEq, Prod.mk.injEq] at H
     obtain ⟨rfl, rfl⟩ := H
     go_wp2
     go_ret2
     exact ⟨rs_, d0_⟩
    ·replace c9 := Bool.eq_false_iff.mpr c9
     subst c9
     replace H : (dot_Dot.l0 kj4 l1 0 l0 (l0.length : Int) 0) = some (r1, r2) := by rw [if_neg (show ¬ (false = true) by decide)] at H; exact H
     have H' := A_ H
     clear H
     go_wp2
     go_loopg [7, 26] kj4 (fun kq v7 v26 w' => ∃ (x7_2 : Int) (x26_2 : Int), v7 = .int .i64 x7_2 ∧ v26 = .int .i64 x26_2 ∧ Aside0 (dot_Dot.l0 kq l1 x7_2 l0 (l0.length : Int) x26_2 = some (r1, r2)) ∧ Aside0 (kq ≤ kj4) ∧ Drawn0 w w')
     case atStart => exact ⟨(0), (0), rs_, rs_, H', ⟨Nat.le_refl _⟩, d0_⟩
     case round =>
      clear H'
      obtain ⟨x7_2, x26_2, rfl, rfl, HA, HK2, ⟨m2, rfl⟩⟩ := hrel
      cases gk with
      | zero => exact absurd HA.out (by simp [dot_Dot.l0])
      | succ k2 =>
       have H := HA.out
       clear HA
       simp only [dot_Dot.l0] at H
       by_cases c10 : x26_2 < (l0.length : Int)
       ·rw [if_pos c10] at H
        have c10b0 : decide (x26_2 < (l0.length : Int)) = true := decide_eq_true c10
        clear c10
        by_cases c11 : 0 ≤ x26_2
        ·rw [if_pos c11] at H
         have c11b0 : decide (0 ≤ x26_2) = true := decide_eq_true c11
         clear c11
         by_cases c12 : x26_2 < (l0.length : Int)
         ·rw [if_pos c12] at H
          have c12b0 : decide (x26_2 < (l0.length : Int)) = true := decide_eq_true c12
          clear c12
          by_cases c13 : x26_2 < (l1.length : Int)
          ·rw [if_pos c13] at H
           have c13b0 : decide (x26_2 < (l1.length : Int)) = true := decide_eq_true c13
           clear c13
           have H' := A_ H
           clear H
           have p104 : 0 ≤ (x26_2 : Int) := od_
           have q104 : x26_2 < (l0.length : Int) := od_
           obtain ⟨ad104, e104, hx104_0⟩ := Kd.at_int HR0.out x26_2 p104 q104
           cases e104
           replace p104 := eq_true p104
           replace q104 := eq_true q104
           have p105 : 0 ≤ (x26_2 : Int) := od_
           have q105 : x26_2 < (l1.length : Int) := od_
           obtain ⟨ad105, e105, hx105_0⟩ := Kd.at_int HR1.out x26_2 p105 q105
           cases e105
           replace p105 := eq_true p105
           replace q105 := eq_true q105
           go_wp2
           go_roundg k2
           case measure => have := HJ4.out; have := HK2.out; omega
           case rel => exact ⟨(wrap64 (x7_2 + (wrap64 ((wrap64 (rd l0 x26_2)) * (wrap64 (rd l1 x26_2)))))), (wrap64 (x26_2 + 1)), rs_, rs_, H', ⟨by have := HJ4.out; have := HK2.out; omega⟩, d0_⟩
          ·rw [if_neg c13] at H
           exact absurd H (by simp)
         ·rw [if_neg c12] at H
          exact absurd H (by simp)
        ·rw [if_neg c11] at H
         exact absurd H (by simp)
       ·rw [if_neg c10] at H
        have c10b0 : decide (x26_2 < (l0.length : Int)) = false := decide_eq_false c10
        clear c10
        simp only [Option.some.injEq, Prod.mk.injEq] at H
        obtain ⟨rfl, rfl⟩ := H
        go_wp2
        go_ret2
        exact ⟨rs_, d0_⟩
 ·rw [if_neg c4] at H
  have c4b0 : (t101 == 0) = false := beq_eq_false_iff_ne.mpr c4
  have c4b1 : (t101 != 0) = true := bne_iff_ne.mpr c4
  simp only [Option.some.injEq, Prod.mk.injEq] at H
  obtain ⟨rfl, rfl⟩ := H
  go_enter Try.func24, Try.ntmps24
  go_wp2_with (first | (refine goesL_ (some 12) rfl rfl Try.func43 (by kernel_rfl) rfl #[.slice A0 l0.length c0, .slice A1 l1.length c1] rfl ar_ ?_; (with_reducible refine (dot_shape.calls _ _ l0 _ _ l1 t101 _ ?side1 ?side2 ?side3 ?side4 A3.out).mono ?_); (case side1 => exact cb_ HR0.out); (case side2 => exact HC0.out); (case side3 => exact cb_ HR1.out); (case side4 => exact HC1.out); rintro e w' ⟨rfl, ⟨nd, rfl⟩⟩; refine ⟨_, rfl, ?_⟩))
  go_ret2
  exact ⟨rs_, d0_⟩
def attn_cut.l0 : Nat → List Int → List Int → Int → Int → Option (List Int)
 | 0, _, _, _, _ => none
 | k + 1, x3, x9, x10, x11 => if x11 < x10 then (if 0 ≤ x11 then (if x11 < (x9.length : Int) then ((attn_narrow.f (rd x9 x11)).bind fun t112 => (if x11 < (x3.length : Int) then (attn_cut.l0 k (x3.set (x11 : Int).toNat (wrap32 (t112))) x9 x10 (wrap64 (x11 + 1))) else (none))) else (none)) else (none)) else (some x3)
def attn_cut.f (k : Nat) (l0 : List Int) : Option (List Int) := if 0 ≤ (l0.length : Int) then (if ((l0.length : Int) : Int).toNat ≤ 70368744177664 then (attn_cut.l0 k (List.replicate ((l0.length : Int) : Int).toNat 0) l0 (l0.length : Int) 0) else (none)) else (none)
theorem attn_cut.mono_l : ∀ k, (∀ y0 y1 y2 y3, LeO (attn_cut.l0 k y0 y1 y2 y3) (attn_cut.l0 (k + 1) y0 y1 y2 y3))
 | 0 => fun _ _ _ _ r h => by simp [attn_cut.l0] at h
 | k + 1 => by
  have ih0 := attn_cut.mono_l k
  ·intro y0 y1 y2 y3
   unfold attn_cut.l0
   repeat' with_reducible first | apply ih0 | apply LeO.refl | apply LeO.none | refine LeO.ite ?_ ?_ | refine LeO.bind ?_ (fun _ => ?_)
theorem attn_cut.mono : ∀ a0 k, LeO (attn_cut.f k a0) (attn_cut.f (k + 1) a0) := by
 intro a0 k
 have ih0 := attn_cut.mono_l k
 unfold attn_cut.f
 repeat' with_reducible first | apply ih0 | apply LeO.refl | apply LeO.none | refine LeO.ite ?_ ?_ | refine LeO.bind ?_ (fun _ => ?_)
theorem attn_cut.calls (k : Nat) (A0 : Option Addr) (c0 : Nat) (l0 : List Int) (r : List Int) (w : World) (hr0 : Kd.C (Kd.int .i32) w A0 l0.length l0) (hc0 : l0.length ≤ c0) (h : attn_cut.f k l0 = some r) :
  Calls Try.prog 25 #[.slice A0 l0.length c0] w fun e w' => ∃ v0_ : Value, e = .returned (v0_) ∧ Kd.R (Kd.int .i32) 21 w' w.heap.size (fun _ => True) v0_ r ∧ Below w.heap.size w w' := by
 have HR0 := A_ hr0
 have HC0 := A_ hc0
 clear hr0 hc0
 have HB := A_ (Below.refl w.heap.size w)
 have H := h
 unfold attn_cut.f at H
 clear h
 by_cases c2 : 0 ≤ (l0.length : Int)
 ·rw [if_pos c2] at H
  have c2b0 := eq_true c2
  have c2b1 : decide (0 ≤ (l0.length : Int)) = true := decide_eq_true c2
  clear c2
  by_cases c3 : ((l0.length : Int) : Int).toNat ≤ 70368744177664
  ·rw [if_pos c3] at H
   have c3b0 := eq_true c3
   have c3b1 : decide (((l0.length : Int) : Int).toNat ≤ 70368744177664) = true := decide_eq_true c3
   clear c3
   obtain ⟨y108, hy108⟩ : ∃ y_ : List Int, y_ = (List.replicate ((l0.length : Int) : Int).toNat 0) := ⟨_, rfl⟩
   replace H : (attn_cut.l0 k y108 l0 (l0.length : Int) 0) = some r := hy_ hy108 H
   have Ny108 := A_ hy108
   clear hy108
   have H' := A_ H
   clear H
   go_enter Try.func25, Try.ntmps25
   go_wp2_with (first | ((with_reducible refine gate_dst (N := 8) rfl ?_); refine Kd.R_make (Kd.int .i32) _ 21 rfl (N := 8) rfl 22 _ _ rfl (l0.length : Int) rfl rfl Try.underlying22 (.int .i32 0) 4 info21 rfl (by decide) (by omega) 0 (ok := fun _ => True) (okp := fun _ => True) rfl (fun _ hk => hk) trivial (od_) (Nat.le_trans (Nat.mul_le_mul_right _ (od_ : (l0.length : Int).toNat ≤ 70368744177664)) (by omega)) (Below.refl _ _) (Nat.le_refl _) ?_; intro v109 w4 ho5 hb hg_ hnew_; clear hg_ hnew_; (first | rw [← Ny108.out] at ho5 | (simp only [Int.reduceToNat] at ho5; rw [← Ny108.out] at ho5)); have HO110 := A_ (Kd.R_lower ho5 (below_size bl_)); replace HB := A_ (below_step bl_ hb); clear hb ho5))
   go_loopg [11] k (fun kq v11 w' => ∃ (x3_1 : List Int) (x11_1 : Int), v11 = .int .i64 x11_1 ∧ Aside0 (attn_cut.l0 kq x3_1 l0 (l0.length : Int) x11_1 = some r) ∧ Aside0 (kq ≤ k) ∧ Aside0 (Kd.R (Kd.int .i32) 21 w' w.heap.size (fun _ => True) v109 x3_1) ∧ Aside0 (Below w.heap.size w w'))
   case atStart => exact ⟨(y108), (0), rs_, H', ⟨Nat.le_refl _⟩, ⟨mv_ HO110.out⟩, ⟨bl_⟩⟩
   case round =>
    clear H'
    obtain ⟨x3_1, x11_1, rfl, HA, HK1, HO_3, HB⟩ := hrel
    cases gk with
    | zero => exact absurd HA.out (by simp [attn_cut.l0])
    | succ k1 =>
     have H := HA.out
     clear HA
     simp only [attn_cut.l0] at H
     by_cases c6 : x11_1 < (l0.length : Int)
     ·rw [if_pos c6] at H
      have c6b0 : decide (x11_1 < (l0.length : Int)) = true := decide_eq_true c6
      clear c6
      by_cases c7 : 0 ≤ x11_1
      ·rw [if_pos c7] at H
       have c7b0 : decide (0 ≤ x11_1) = true := decide_eq_true c7
       clear c7
       by_cases c8 : x11_1 < (l0.length : Int)
       ·rw [if_pos c8] at H
        have c8b0 : decide (x11_1 < (l0.length : Int)) = true := decide_eq_true c8
        clear c8
        replace H := ob_ H
        obtain ⟨t112, A9, H⟩ := H
        try dsimp only at H
        by_cases c10 : x11_1 < (x3_1.length : Int)
        ·rw [if_pos c10] at H
         have c10b0 : decide (x11_1 < (x3_1.length : Int)) = true := decide_eq_true c10
         clear c10
         obtain ⟨y113, hy113⟩ : ∃ y_ : List Int, y_ = (x3_1.set (x11_1 : Int).toNat (wrap32 (t112))) := ⟨_, rfl⟩
         replace H : (attn_cut.l0 k1 y113 l0 (l0.length : Int) (wrap64 (x11_1 + 1))) = some r := hy_ hy113 H
         have Ny113 := A_ hy113
         clear hy113
         have H' := A_ H
         clear H
         have p111 : 0 ≤ (x11_1 : Int) := od_
         have q111 : x11_1 < (l0.length : Int) := od_
         obtain ⟨ad111, e111, hx111_0⟩ := Kd.at_int HR0.out x11_1 p111 q111
         cases e111
         replace hx111_0 := hc_ HB.out hx111_0
         replace p111 := eq_true p111
         replace q111 := eq_true q111
         go_wp2_with (first | (refine goesL_ (some 19) rfl rfl Try.func45 (by kernel_rfl) rfl #[.int .i32 (rd l0 x11_1)] rfl ar_ ?_; (with_reducible refine (attn_narrow.calls (rd l0 x11_1) t112 _ A9.out).mono ?_); rintro e w12 ⟨rfl, hb⟩; refine ⟨_, rfl, ?_⟩; replace HO_3 := A_ (Kd.R_below (mv_ HO_3.out) hb); replace HB := A_ (below_step bl_ hb); have p11 : 0 ≤ (x11_1 : Int) := od_; have q11 : (x11_1 : Int) < ((x3_1.length : Int) : Int) := od_; obtain ⟨go11, co11, eo11, gb11, gl11, cl11, HG11⟩ := Kd.R_form HO_3.out (by omega); (first | cases eo11 | (injection eo11 with ea_ en_ ec_; (first | subst ea_ | (injection ea_ with ea_; subst ea_)); subst ec_; clear en_)); have GB11 := A_ gb11; have GG11 := A_ HG11; clear gb11 gl11 HG11; obtain ⟨hx11_0, hf11_0⟩ := Kd.R_celln 0 HO_3.out (x11_1 : Int) p11 q11; replace p11 := eq_true p11; replace q11 := eq_true q11; obtain ⟨hy13_, hz13_⟩ := Kd.R_celln 0 HO_3.out (x11_1 : Int) (od_) (od_); have HP13 := Kd.R_putg HO_3.out (x11_1 : Int) (wrap32 (t112))) | ((with_reducible refine gate_store (t := 21) (p := 21) rfl ?_); refine store_event (t := 21) (p := 21) (v := ?vo_w14) (w1 := (w12.setCell ⟨go11, (x11_1 : Int).toNat, none⟩ (.int .i32 (wrap32 (t112))))) ?hg ?ho ?hn ?hr ?_; (case ho => rfl); (case hg => rfl); (case hn => rfl); (case hr => first | (go_simp; done) | (go_simp; rfl)); intro w14 hw; have hg : w12.grownBy w14 (some go11) := (by rw [hw]; exact HP13.2); have hp_ : Kd.R (Kd.int .i32) 21 w14 w.heap.size (fun _ => True) (.slice (some ⟨go11, 0, none⟩) x3_1.length co11) y113 := (by rw [hw, Ny113.out]; exact HP13.1); clear HP13; replace HO_3 := A_ hp_; replace HB := A_ ((by rw [hw]; exact below_set (HB.out) GB11.out : Below w.heap.size w w14)); clear hg hw hp_))
         go_roundg k1
         case measure => have := HK1.out; omega
         case rel => exact ⟨(y113), (wrap64 (x11_1 + 1)), rs_, H', ⟨by have := HK1.out; omega⟩, ⟨mv_ HO_3.out⟩, ⟨bl_⟩⟩
        ·rw [if_neg c10] at H
         exact absurd H (by simp)
       ·rw [if_neg c8] at H
        exact absurd H (by simp)
      ·rw [if_neg c7] at H
       exact absurd H (by simp)
     ·rw [if_neg c6] at H
      have c6b0 : decide (x11_1 < (l0.length : Int)) = false := decide_eq_false c6
      clear c6
      obtain rfl := Option.some.inj H
      go_wp2
      go_ret
      exact ⟨_, ew_, by (with_reducible repeat (first | apply Kd.R_alloc | apply Kd.R_drewN | apply Kd.R_drew)); exact HO_3.out, bl_⟩
  ·rw [if_neg c3] at H
   exact absurd H (by simp)
 ·rw [if_neg c2] at H
  exact absurd H (by simp)
def attn_Score.j0 : Nat → List Int → List Int → Bool → Option (Int × Int)
 | 0, _, _, _ => none
 | k + 1, x0, x1, x18 => if x18 = true then (some (0, 25)) else ((attn_cut.f k x0).bind fun t123 => ((attn_cut.f k x1).bind fun t126 => ((dot_Dot.f k t123 t126).bind fun bt129 => (if bt129.2 = 0 then ((attn_scaled.f k bt129.1 (x0.length : Int)).bind fun t131 => (some (t131, 0))) else (some (0, bt129.2))))))
def attn_Score.f (k : Nat) (l0 : List Int) (l1 : List Int) : Option (Int × Int) := if (l0.length : Int) = (l1.length : Int) then ((attn_sized.f (l0.length : Int)).bind fun t122 => (attn_Score.j0 k l0 l1 (!t122))) else (attn_Score.j0 k l0 l1 true)
theorem attn_Score.mono_l : ∀ k, (∀ y0 y1 y2, LeO (attn_Score.j0 k y0 y1 y2) (attn_Score.j0 (k + 1) y0 y1 y2))
 | 0 => fun _ _ _ r h => by simp [attn_Score.j0] at h
 | k + 1 => by
  have ih0 := attn_Score.mono_l k
  ·intro y0 y1 y2
   unfold attn_Score.j0
   repeat' with_reducible first | apply ih0 | apply attn_cut.mono | apply attn_scaled.mono | apply dot_Dot.mono | apply LeO.refl | apply LeO.none | refine LeO.ite ?_ ?_ | refine LeO.bind ?_ (fun _ => ?_)
theorem attn_Score.mono : ∀ a0 a1 k, LeO (attn_Score.f k a0 a1) (attn_Score.f (k + 1) a0 a1) := by
 intro a0 a1 k
 have ih0 := attn_Score.mono_l k
 unfold attn_Score.f
 repeat' with_reducible first | apply ih0 | apply attn_cut.mono | apply attn_scaled.mono | apply dot_Dot.mono | apply LeO.refl | apply LeO.none | refine LeO.ite ?_ ?_ | refine LeO.bind ?_ (fun _ => ?_)
theorem attn_Score.calls (k : Nat) (A0 : Option Addr) (c0 : Nat) (l0 : List Int) (A1 : Option Addr) (c1 : Nat) (l1 : List Int) (r1 : Int) (r2 : Int) (w : World) (hr0 : Kd.C (Kd.int .i32) w A0 l0.length l0) (hc0 : l0.length ≤ c0) (hr1 : Kd.C (Kd.int .i32) w A1 l1.length l1) (hc1 : l1.length ≤ c1) (h : attn_Score.f k l0 l1 = some (r1, r2)) :
  Calls Try.prog 9 #[.slice A0 l0.length c0, .slice A1 l1.length c1] w fun e w' => e = .returned (.tuple #[.int .i32 r1, .int .i64 r2]) ∧ Below w.heap.size w w' := by
 have HR0 := A_ hr0
 have HC0 := A_ hc0
 clear hr0 hc0
 have HR1 := A_ hr1
 have HC1 := A_ hc1
 clear hr1 hc1
 have HB := A_ (Below.refl w.heap.size w)
 have H : (if (l0.length : Int) = (l1.length : Int) then ((attn_sized.f (l0.length : Int)).bind fun t122 => (attn_Score.j0 k l0 l1 (!t122))) else (attn_Score.j0 k l0 l1 true)) = some (r1, r2) := h
 clear h
 have HC3 := A_ H
 clear H
 go_enter Try.func9, Try.ntmps9
 go_upto_region 1 with (fail)
 go_cut [18] (fun v18 wc => ∃ (kq : Nat) (x18_2 : Bool), v18 = .bool x18_2 ∧ Aside0 (attn_Score.j0 kq l0 l1 x18_2 = some (r1, r2)) ∧ Aside0 (kq ≤ k) ∧ Aside0 (Below w.heap.size w wc))
 case first =>
  have H := HC3.out
  clear HC3
  by_cases c4 : (l0.length : Int) = (l1.length : Int)
  ·rw [if_pos c4] at H
   have c4b0 : ((l0.length : Int) == (l1.length : Int)) = true := beq_iff_eq.mpr c4
   have c4b1 : ((l0.length : Int) != (l1.length : Int)) = false := bne_eq_false_iff_eq.mpr c4
   have c4b2 : (l0.length == l1.length) = true := by first | simpa using c4 | (simp at c4 ⊢; omega)
   clear c4
   (first | rw [c4b0] | (simp only [i64_w, i32_w]; rw [c4b0]) | skip)
   replace H := ob_ H
   obtain ⟨t122, A5, H⟩ := H
   try dsimp only at H
   have H' := A_ H
   clear H
   go_wp2_with (first | (go_at_call 23; (with_reducible refine (attn_sized.calls (l0.length : Int) t122 _ A5.out).mono ?_); rintro e w' ⟨rfl, ⟨nd, rfl⟩⟩))
   go_meet
   case rel => exact ⟨_, (!t122), rs_, H', ⟨by first | omega | exact Nat.le_refl _⟩, ⟨bl_⟩⟩
  ·rw [if_neg c4] at H
   have c4b0 : ((l0.length : Int) == (l1.length : Int)) = false := beq_eq_false_iff_ne.mpr c4
   have c4b1 : ((l0.length : Int) != (l1.length : Int)) = true := bne_iff_ne.mpr c4
   have c4b2 : (l0.length == l1.length) = false := by first | simpa using c4 | (simp at c4 ⊢; omega)
   (first | rw [c4b0] | (simp only [i64_w, i32_w]; rw [c4b0]) | skip)
   have H' := A_ H
   clear H
   go_wp2
   go_meet
   case rel => exact ⟨_, (true), rs_, H', ⟨by first | omega | exact Nat.le_refl _⟩, ⟨bl_⟩⟩
 case rest =>
  clear HC3
  obtain ⟨kq, x18_2, rfl, HA, HJ2, HB⟩ := hcut
  cases kq with
  | zero => exact absurd HA.out (by simp [attn_Score.j0])
  | succ kj2 =>
   have H := HA.out
   clear HA
   simp only [attn_Score.j0] at H
   by_cases c6 : x18_2 = true
   ·subst c6
    replace H : (some (0, 25)) = some (r1, r2) := by rw [if_pos rfl] at H; exact H
    simp only [Option.some.injEq, Prod.mk.injEq] at H
    obtain ⟨rfl, rfl⟩ := H
    go_wp2
    go_ret2
    exact ⟨ew_, bl_⟩
   ·replace c6 := Bool.eq_false_iff.mpr c6
    subst c6
    replace H : ((attn_cut.f kj2 l0).bind fun t123 => ((attn_cut.f kj2 l1).bind fun t126 => ((dot_Dot.f kj2 t123 t126).bind fun bt129 => (if bt129.2 = 0 then ((attn_scaled.f kj2 bt129.1 (l0.length : Int)).bind fun t131 => (some (t131, 0))) else (some (0, bt129.2)))))) = some (r1, r2) := by rw [if_neg (show ¬ (false = true) by decide)] at H; exact H
    replace H := ob_ H
    obtain ⟨t123, A7, H⟩ := H
    try dsimp only at H
    replace H := ob_ H
    obtain ⟨t126, A8, H⟩ := H
    try dsimp only at H
    replace H := ob_ H
    obtain ⟨⟨t129, t130⟩, A9, H⟩ := H
    try dsimp only at H
    by_cases c10 : t130 = 0
    ·rw [if_pos c10] at H
     have c10b0 : (t130 == 0) = true := beq_iff_eq.mpr c10
     have c10b1 : (t130 != 0) = false := bne_eq_false_iff_eq.mpr c10
     clear c10
     replace H := ob_ H
     obtain ⟨t131, A11, H⟩ := H
     try dsimp only at H
     simp only [Option.some.injEq, Prod.mk.injEq] at H
     obtain ⟨rfl, rfl⟩ := H
     go_wp2_with (first | (refine goesL_ (some 21) rfl rfl Try.func25 (by kernel_rfl) rfl #[.slice A0 l0.length c0] rfl ar_ ?_; (with_reducible refine (attn_cut.calls kj2 _ _ l0 t123 _ ?side1 ?side2 A7.out).mono ?_); (case side1 => exact cb_ (Kd.C_below HR0.out HB.out)); (case side2 => exact HC0.out); rintro e w12 ⟨v124, rfl, ho0, hb⟩; refine ⟨_, rfl, ?_⟩; have HO125 := A_ (Kd.R_lower ho0 (below_size bl_)); replace HB := A_ (below_step bl_ hb)) | (refine goesL_ (some 23) rfl rfl Try.func25 (by kernel_rfl) rfl #[.slice A1 l1.length c1] rfl ar_ ?_; (with_reducible refine (attn_cut.calls kj2 _ _ l1 t126 _ ?side1 ?side2 A8.out).mono ?_); (case side1 => exact cb_ (Kd.C_below HR1.out HB.out)); (case side2 => exact HC1.out); rintro e w13 ⟨v127, rfl, ho0, hb⟩; refine ⟨_, rfl, ?_⟩; have HO128 := A_ (Kd.R_lower (Kd.R_new' ho0 (Kd.R_lt (mv_ HO125.out))) (below_size bl_)); replace HO125 := A_ (Kd.R_elder' (mv_ HO125.out) (Kd.R_base ho0) hb); replace HB := A_ (below_step bl_ hb); obtain ⟨Ao14, co14, eo14⟩ := Kd.R_slice HO125.out; subst eo14; obtain ⟨Ao15, co15, eo15⟩ := Kd.R_slice HO128.out; subst eo15) | (refine goesL_ (some 24) rfl rfl Try.func24 (by kernel_rfl) rfl #[.slice Ao14 t123.length co14, .slice Ao15 t126.length co15] rfl ar_ ?_; (with_reducible refine (dot_Dot.calls kj2 _ _ t123 _ _ t126 t129 t130 _ ?side1 ?side2 ?side3 ?side4 A9.out).mono ?_); (case side1 => exact cb_ (Kd.R_reads' HO125.out).2.2); (case side2 => exact (Kd.R_reads' HO125.out).2.1); (case side3 => exact cb_ (Kd.R_reads' HO128.out).2.2); (case side4 => exact (Kd.R_reads' HO128.out).2.1); rintro e w' ⟨rfl, ⟨nd, rfl⟩⟩; refine ⟨_, rfl, ?_⟩) | (refine goesL_ (some 33) rfl rfl Try.func26 (by kernel_rfl) rfl #[.int .i64 t129, .int .i64 (l0.length : Int)] rfl ar_ ?_; (with_reducible refine (attn_scaled.calls kj2 t129 (l0.length : Int) t131 _ A11.out).mono ?_); rintro e w16 ⟨rfl, hb⟩; refine ⟨_, rfl, ?_⟩; replace HO125 := A_ (Kd.R_below (mv_ HO125.out) hb); replace HO128 := A_ (Kd.R_below (mv_ HO128.out) hb); replace HB := A_ (below_step bl_ hb)))
     go_ret2
     exact ⟨ew_, bl_⟩
    ·rw [if_neg c10] at H
     have c10b0 : (t130 == 0) = false := beq_eq_false_iff_ne.mpr c10
     have c10b1 : (t130 != 0) = true := bne_iff_ne.mpr c10
     simp only [Option.some.injEq, Prod.mk.injEq] at H
     obtain ⟨rfl, rfl⟩ := H
     go_wp2_with (first | (refine goesL_ (some 21) rfl rfl Try.func25 (by kernel_rfl) rfl #[.slice A0 l0.length c0] rfl ar_ ?_; (with_reducible refine (attn_cut.calls kj2 _ _ l0 t123 _ ?side1 ?side2 A7.out).mono ?_); (case side1 => exact cb_ (Kd.C_below HR0.out HB.out)); (case side2 => exact HC0.out); rintro e w17 ⟨v124, rfl, ho0, hb⟩; refine ⟨_, rfl, ?_⟩; have HO125 := A_ (Kd.R_lower ho0 (below_size bl_)); replace HB := A_ (below_step bl_ hb)) | (refine goesL_ (some 23) rfl rfl Try.func25 (by kernel_rfl) rfl #[.slice A1 l1.length c1] rfl ar_ ?_; (with_reducible refine (attn_cut.calls kj2 _ _ l1 t126 _ ?side1 ?side2 A8.out).mono ?_); (case side1 => exact cb_ (Kd.C_below HR1.out HB.out)); (case side2 => exact HC1.out); rintro e w18 ⟨v127, rfl, ho0, hb⟩; refine ⟨_, rfl, ?_⟩; have HO128 := A_ (Kd.R_lower (Kd.R_new' ho0 (Kd.R_lt (mv_ HO125.out))) (below_size bl_)); replace HO125 := A_ (Kd.R_elder' (mv_ HO125.out) (Kd.R_base ho0) hb); replace HB := A_ (below_step bl_ hb); obtain ⟨Ao19, co19, eo19⟩ := Kd.R_slice HO125.out; subst eo19; obtain ⟨Ao20, co20, eo20⟩ := Kd.R_slice HO128.out; subst eo20) | (refine goesL_ (some 24) rfl rfl Try.func24 (by kernel_rfl) rfl #[.slice Ao19 t123.length co19, .slice Ao20 t126.length co20] rfl ar_ ?_; (with_reducible refine (dot_Dot.calls kj2 _ _ t123 _ _ t126 t129 t130 _ ?side1 ?side2 ?side3 ?side4 A9.out).mono ?_); (case side1 => exact cb_ (Kd.R_reads' HO125.out).2.2); (case side2 => exact (Kd.R_reads' HO125.out).2.1); (case side3 => exact cb_ (Kd.R_reads' HO128.out).2.2); (case side4 => exact (Kd.R_reads' HO128.out).2.1); rintro e w' ⟨rfl, ⟨nd, rfl⟩⟩; refine ⟨_, rfl, ?_⟩))
     go_ret2
     exact ⟨ew_, bl_⟩
def credenzaref14_Narrow.l0 : Nat → List Int → List Int → Int → Option (List Int)
 | 0, _, _, _ => none
 | k + 1, x0, x3, x4 => if x4 < (x0.length : Int) then (if 0 ≤ x4 then ((credenzaref01_Narrow.f (wrap64 (rd x0 x4))).bind fun t195 => (if x3.length < 35184372088832 then (credenzaref14_Narrow.l0 k x0 (x3 ++ [t195]) (wrap64 (x4 + 1))) else (none))) else (none)) else (some x3)
def credenzaref14_Narrow.f (k : Nat) (l0 : List Int) : Option (List Int) := credenzaref14_Narrow.l0 k l0 ([] : List Int) 0
theorem credenzaref14_Narrow.calls (k : Nat) (A0 : Option Addr) (c0 : Nat) (l0 : List Int) (r : List Int) (w : World) (hr0 : Kd.C (Kd.int .i32) w A0 l0.length l0) (hc0 : l0.length ≤ c0) (h : credenzaref14_Narrow.f k l0 = some r) :
  Calls Try.prog 16 #[.slice A0 l0.length c0] w fun e w' => ∃ v0_ : Value, e = .returned (v0_) ∧ Kd.R (Kd.int .i32) 21 w' w.heap.size (fun _ => True) v0_ r ∧ Below w.heap.size w w' := by
 have HR0 := A_ hr0
 have HC0 := A_ hc0
 clear hr0 hc0
 have HB := A_ (Below.refl w.heap.size w)
 have H := h
 unfold credenzaref14_Narrow.f at H
 clear h
 have H' := A_ H
 clear H
 go_enter Try.func16, Try.ntmps16
 go_wp2
 go_loopg [3, 4] k (fun kq v3 v4 w' => ∃ (x3_1 : List Int) (x4_1 : Int), v4 = .int .i64 x4_1 ∧ Aside0 (credenzaref14_Narrow.l0 kq l0 x3_1 x4_1 = some r) ∧ Aside0 (kq ≤ k) ∧ Aside0 (Kd.R (Kd.int .i32) 21 w' w.heap.size (fun _ => True) v3 x3_1) ∧ Aside0 (Below w.heap.size w w'))
 case atStart => exact ⟨(([] : List Int)), (0), rs_, H', ⟨Nat.le_refl _⟩, ⟨nil_⟩, ⟨bl_⟩⟩
 case round =>
  clear H'
  obtain ⟨x3_1, x4_1, rfl, HA, HK1, HO_3, HB⟩ := hrel
  cases gk with
  | zero => exact absurd HA.out (by simp [credenzaref14_Narrow.l0])
  | succ k1 =>
   have H := HA.out
   clear HA
   simp only [credenzaref14_Narrow.l0] at H
   by_cases c2 : x4_1 < (l0.length : Int)
   ·rw [if_pos c2] at H
    have c2b0 : decide (x4_1 < (l0.length : Int)) = true := decide_eq_true c2
    clear c2
    by_cases c3 : 0 ≤ x4_1
    ·rw [if_pos c3] at H
     have c3b0 : decide (0 ≤ x4_1) = true := decide_eq_true c3
     clear c3
     replace H := ob_ H
     obtain ⟨t195, A4, H⟩ := H
     try dsimp only at H
     by_cases c5 : x3_1.length < 35184372088832
     ·rw [if_pos c5] at H
      have LMc5 := A_ c5
      clear c5
      obtain ⟨y196, hy196⟩ : ∃ y_ : List Int, y_ = (x3_1 ++ [t195]) := ⟨_, rfl⟩
      replace H : (credenzaref14_Narrow.l0 k1 l0 y196 (wrap64 (x4_1 + 1))) = some r := hy_ hy196 H
      have Ny196 := A_ hy196
      clear hy196
      have H' := A_ H
      clear H
      have p194 : 0 ≤ (x4_1 : Int) := od_
      have q194 : x4_1 < (l0.length : Int) := od_
      obtain ⟨ad194, e194, hx194_0⟩ := Kd.at_int HR0.out x4_1 p194 q194
      cases e194
      replace hx194_0 := hc_ HB.out hx194_0
      replace p194 := eq_true p194
      replace q194 := eq_true q194
      go_wp2_with (first | (refine goesL_ (some 17) rfl rfl Try.func34 (by kernel_rfl) rfl #[.int .i64 (wrap64 (rd l0 x4_1))] rfl ar_ ?_; (with_reducible refine (credenzaref01_Narrow.calls (wrap64 (rd l0 x4_1)) t195 _ A4.out).mono ?_); rintro e w' ⟨rfl, ⟨nd, rfl⟩⟩; refine ⟨_, rfl, ?_⟩) | ((with_reducible refine gate_builtin (b := .append) (xs := #[.tmp 11, .tmp 18]) rfl ?_); at_builtin; refine Kd.R_append (Kd.int .i32) (w0 := w) w.heap.size rfl (.tmp 11) (.tmp 18) 22 21 (.int .i32 0) 4 rfl Try.underlying22 info21 rfl (by decide) (by omega) u3 x3_1 t195 [.int .i32 t195] (fun _ => True) (fun _ => False) rfl rfl ?aP (fun _ hk => hk.elim) ?aF ?aO ?aB ?aS ?aL ?_; (case aP => exact rfl); (case aB => exact bl_); (case aF => exact (fun _ _ => trivial)); (case aO => exact (mv_ HO_3.out)); (case aS => exact (below_size bl_)); (case aL => have := LMc5.out; omega); intro v197 w6 ho hb hg hat; rw [← Ny196.out] at ho; have HO198 := A_ ho; replace HB := A_ hb; clear HO_3 ho hb hg hat))
      go_roundg k1
      case measure => have := HK1.out; omega
      case rel => exact ⟨(y196), (wrap64 (x4_1 + 1)), rs_, H', ⟨by have := HK1.out; omega⟩, ⟨mv_ HO198.out⟩, ⟨bl_⟩⟩
     ·rw [if_neg c5] at H
      exact absurd H (by simp)
    ·rw [if_neg c3] at H
     exact absurd H (by simp)
   ·rw [if_neg c2] at H
    have c2b0 : decide (x4_1 < (l0.length : Int)) = false := decide_eq_false c2
    clear c2
    obtain rfl := Option.some.inj H
    go_wp2
    go_ret
    exact ⟨_, ew_, by (with_reducible repeat (first | apply Kd.R_alloc | apply Kd.R_drewN | apply Kd.R_drew)); exact HO_3.out, bl_⟩
def credenzaref03_Dot.l0 : Nat → List Int → List Int → Int → Int → Option (Int)
 | 0, _, _, _, _ => none
 | k + 1, x0, x1, x5, x6 => if x6 < (x0.length : Int) then (if 0 ≤ x6 then (if x6 < (x1.length : Int) then (credenzaref03_Dot.l0 k x0 x1 (wrap64 (x5 + (wrap64 ((wrap64 (rd x0 x6)) * (wrap64 (rd x1 x6)))))) (wrap64 (x6 + 1))) else (none)) else (none)) else (some x5)
def credenzaref03_Dot.f (k : Nat) (l0 : List Int) (l1 : List Int) : Option (Int) := credenzaref03_Dot.l0 k l0 l1 0 0
theorem credenzaref03_Dot.calls (k : Nat) (A0 : Option Addr) (c0 : Nat) (l0 : List Int) (A1 : Option Addr) (c1 : Nat) (l1 : List Int) (r : Int) (w : World) (hr0 : Kd.C (Kd.int .i32) w A0 l0.length l0) (hc0 : l0.length ≤ c0) (hr1 : Kd.C (Kd.int .i32) w A1 l1.length l1) (hc1 : l1.length ≤ c1) (h : credenzaref03_Dot.f k l0 l1 = some r) :
  Calls Try.prog 27 #[.slice A0 l0.length c0, .slice A1 l1.length c1] w fun e w' => e = .returned (.int .i64 r) ∧ Drawn0 w w' := by
 have HR0 := A_ hr0
 have HC0 := A_ hc0
 clear hr0 hc0
 have HR1 := A_ hr1
 have HC1 := A_ hc1
 clear hr1 hc1
 have H := h
 unfold credenzaref03_Dot.f at H
 clear h
 have H' := A_ H
 clear H
 go_enter Try.func27, Try.ntmps27
 go_wp2
 repeat (go_quiet (fail); try go_wp2)
 go_loopg [5, 6] k (fun kq v5 v6 w' => ∃ (x5_1 : Int) (x6_1 : Int), v5 = .int .i64 x5_1 ∧ v6 = .int .i64 x6_1 ∧ Aside0 (credenzaref03_Dot.l0 kq l0 l1 x5_1 x6_1 = some r) ∧ Aside0 (kq ≤ k) ∧ Drawn0 w w')
 case atStart => exact ⟨(0), (0), rs_, rs_, H', ⟨Nat.le_refl _⟩, d0_⟩
 case round =>
  clear H'
  obtain ⟨x5_1, x6_1, rfl, rfl, HA, HK1, ⟨m1, rfl⟩⟩ := hrel
  cases gk with
  | zero => exact absurd HA.out (by simp [credenzaref03_Dot.l0])
  | succ k1 =>
   have H := HA.out
   clear HA
   simp only [credenzaref03_Dot.l0] at H
   by_cases c3 : x6_1 < (l0.length : Int)
   ·rw [if_pos c3] at H
    have c3b0 : decide (x6_1 < (l0.length : Int)) = true := decide_eq_true c3
    clear c3
    by_cases c4 : 0 ≤ x6_1
    ·rw [if_pos c4] at H
     have c4b0 : decide (0 ≤ x6_1) = true := decide_eq_true c4
     clear c4
     by_cases c5 : x6_1 < (l1.length : Int)
     ·rw [if_pos c5] at H
      have c5b0 : decide (x6_1 < (l1.length : Int)) = true := decide_eq_true c5
      clear c5
      have H' := A_ H
      clear H
      have p199 : 0 ≤ (x6_1 : Int) := od_
      have q199 : x6_1 < (l0.length : Int) := od_
      obtain ⟨ad199, e199, hx199_0⟩ := Kd.at_int HR0.out x6_1 p199 q199
      cases e199
      replace p199 := eq_true p199
      replace q199 := eq_true q199
      have p200 : 0 ≤ (x6_1 : Int) := od_
      have q200 : x6_1 < (l1.length : Int) := od_
      obtain ⟨ad200, e200, hx200_0⟩ := Kd.at_int HR1.out x6_1 p200 q200
      cases e200
      replace p200 := eq_true p200
      replace q200 := eq_true q200
      go_wp2
      repeat (go_quiet (fail); try go_wp2)
      go_roundg k1
      case measure => have := HK1.out; omega
      case rel => exact ⟨(wrap64 (x5_1 + (wrap64 ((wrap64 (rd l0 x6_1)) * (wrap64 (rd l1 x6_1)))))), (wrap64 (x6_1 + 1)), rs_, rs_, H', ⟨by have := HK1.out; omega⟩, d0_⟩
     ·rw [if_neg c5] at H
      exact absurd H (by simp)
    ·rw [if_neg c4] at H
     exact absurd H (by simp)
   ·rw [if_neg c3] at H
    have c3b0 : decide (x6_1 < (l0.length : Int)) = false := decide_eq_false c3
    clear c3
    obtain rfl := Option.some.inj H
    go_wp2
    repeat (go_quiet (fail); try go_wp2)
    go_ret
    exact ⟨rs_, d0_⟩
def credenzaref02_Root.l0 : Nat → Int → Int → Int → Option (Int)
 | 0, _, _, _ => none
 | k + 1, x0, x3, x4 => if x3 < x4 then (if (IntKind.u64.wrap ((IntKind.u64.wrap (x3 + (IntKind.u64.wrap (Int.tdiv (IntKind.u64.wrap ((IntKind.u64.wrap (x4 - x3)) + 1)) 2)))) * (IntKind.u64.wrap (x3 + (IntKind.u64.wrap (Int.tdiv (IntKind.u64.wrap ((IntKind.u64.wrap (x4 - x3)) + 1)) 2)))))) ≤ x0 then (credenzaref02_Root.l0 k x0 (IntKind.u64.wrap (x3 + (IntKind.u64.wrap (Int.tdiv (IntKind.u64.wrap ((IntKind.u64.wrap (x4 - x3)) + 1)) 2)))) x4) else (credenzaref02_Root.l0 k x0 x3 (IntKind.u64.wrap ((IntKind.u64.wrap (x3 + (IntKind.u64.wrap (Int.tdiv (IntKind.u64.wrap ((IntKind.u64.wrap (x4 - x3)) + 1)) 2)))) - 1)))) else (some x3)
def credenzaref02_Root.f (k : Nat) (a0 : Int) : Option (Int) := credenzaref02_Root.l0 k a0 0 4294967295
theorem credenzaref02_Root.mono_l : ∀ k, (∀ y0 y1 y2, LeO (credenzaref02_Root.l0 k y0 y1 y2) (credenzaref02_Root.l0 (k + 1) y0 y1 y2))
 | 0 => fun _ _ _ r h => by simp [credenzaref02_Root.l0] at h
 | k + 1 => by
  have ih0 := credenzaref02_Root.mono_l k
  ·intro y0 y1 y2
   unfold credenzaref02_Root.l0
   repeat' with_reducible first | apply ih0 | apply LeO.refl | apply LeO.none | refine LeO.ite ?_ ?_ | refine LeO.bind ?_ (fun _ => ?_)
theorem credenzaref02_Root.mono : ∀ a0 k, LeO (credenzaref02_Root.f k a0) (credenzaref02_Root.f (k + 1) a0) := by
 intro a0 k
 have ih0 := credenzaref02_Root.mono_l k
 unfold credenzaref02_Root.f
 repeat' with_reducible first | apply ih0 | apply LeO.refl | apply LeO.none | refine LeO.ite ?_ ?_ | refine LeO.bind ?_ (fun _ => ?_)
theorem credenzaref02_Root.calls (k : Nat) (a0 : Int) (r : Int) (w : World) (h : credenzaref02_Root.f k a0 = some r) :
  Calls Try.prog 52 #[.int .u64 a0] w fun e w' => e = .returned (.int .u64 r) ∧ Drawn0 w w' := by
 have H := h
 unfold credenzaref02_Root.f at H
 clear h
 have H' := A_ H
 clear H
 go_enter Try.func52, Try.ntmps52
 go_wp2
 go_loopg [3, 4] k (fun kq v3 v4 w' => ∃ (x3_1 : Int) (x4_1 : Int), v3 = .int .u64 x3_1 ∧ v4 = .int .u64 x4_1 ∧ Aside0 (credenzaref02_Root.l0 kq a0 x3_1 x4_1 = some r) ∧ Aside0 (kq ≤ k) ∧ Drawn0 w w')
 case atStart => exact ⟨(0), (4294967295), rs_, rs_, H', ⟨Nat.le_refl _⟩, d0_⟩
 case round =>
  clear H'
  obtain ⟨x3_1, x4_1, rfl, rfl, HA, HK1, ⟨m1, rfl⟩⟩ := hrel
  cases gk with
  | zero => exact absurd HA.out (by simp [credenzaref02_Root.l0])
  | succ k1 =>
   have H := HA.out
   clear HA
   simp only [credenzaref02_Root.l0] at H
   by_cases c2 : x3_1 < x4_1
   ·rw [if_pos c2] at H
    have c2b0 : decide (x3_1 < x4_1) = true := decide_eq_true c2
    clear c2
    by_cases c3 : (IntKind.u64.wrap ((IntKind.u64.wrap (x3_1 + (IntKind.u64.wrap (Int.tdiv (IntKind.u64.wrap ((IntKind.u64.wrap (x4_1 - x3_1)) + 1)) 2)))) * (IntKind.u64.wrap (x3_1 + (IntKind.u64.wrap (Int.tdiv (IntKind.u64.wrap ((IntKind.u64.wrap (x4_1 - x3_1)) + 1)) 2)))))) ≤ a0
    ·rw [if_pos c3] at H
     have c3b0 : decide ((IntKind.u64.wrap ((IntKind.u64.wrap (x3_1 + (IntKind.u64.wrap (Int.tdiv (IntKind.u64.wrap ((IntKind.u64.wrap (x4_1 - x3_1)) + 1)) 2)))) * (IntKind.u64.wrap (x3_1 + (IntKind.u64.wrap (Int.tdiv (IntKind.u64.wrap ((IntKind.u64.wrap (x4_1 - x3_1)) + 1)) 2)))))) ≤ a0) = true := decide_eq_true c3
     clear c3
     have H' := A_ H
     clear H
     go_wp2
     go_roundg k1
     case measure => have := HK1.out; omega
     case rel => exact ⟨(IntKind.u64.wrap (x3_1 + (IntKind.u64.wrap (Int.tdiv (IntKind.u64.wrap ((IntKind.u64.wrap (x4_1 - x3_1)) + 1)) 2)))), (x4_1), rs_, rs_, H', ⟨by have := HK1.out; omega⟩, d0_⟩
    ·rw [if_neg c3] at H
     have c3b0 : decide ((IntKind.u64.wrap ((IntKind.u64.wrap (x3_1 + (IntKind.u64.wrap (Int.tdiv (IntKind.u64.wrap ((IntKind.u64.wrap (x4_1 - x3_1)) + 1)) 2)))) * (IntKind.u64.wrap (x3_1 + (IntKind.u64.wrap (Int.tdiv (IntKind.u64.wrap ((IntKind.u64.wrap (x4_1 - x3_1)) + 1)) 2)))))) ≤ a0) = false := decide_eq_false c3
     clear c3
     have H' := A_ H
     clear H
     go_wp2
     go_roundg k1
     case measure => have := HK1.out; omega
     case rel => exact ⟨(x3_1), (IntKind.u64.wrap ((IntKind.u64.wrap (x3_1 + (IntKind.u64.wrap (Int.tdiv (IntKind.u64.wrap ((IntKind.u64.wrap (x4_1 - x3_1)) + 1)) 2)))) - 1)), rs_, rs_, H', ⟨by have := HK1.out; omega⟩, d0_⟩
   ·rw [if_neg c2] at H
    have c2b0 : decide (x3_1 < x4_1) = false := decide_eq_false c2
    clear c2
    obtain rfl := Option.some.inj H
    go_wp2
    go_ret
    exact ⟨rs_, d0_⟩
def credenzaref02_Rsqrt.f (k : Nat) (a0 : Int) : Option (Int) := if a0 < 1 then ((credenzaref02_Root.f k 281474976710656).bind fun t => (some (wrap32 (t)))) else (if a0 ≤ 9223372036854775807 then ((credenzaref02_Root.f k (281474976710656 / a0)).bind fun t => (some (wrap32 (t)))) else none)
theorem credenzaref02_Rsqrt.mono : ∀ a0 k, LeO (credenzaref02_Rsqrt.f k a0) (credenzaref02_Rsqrt.f (k + 1) a0) := by
 intro a0 k
 unfold credenzaref02_Rsqrt.f
 repeat' with_reducible first | apply credenzaref02_Root.mono | apply LeO.refl | apply LeO.none | refine LeO.ite ?_ ?_ | refine LeO.bind ?_ (fun _ => ?_)
theorem credenzaref02_Rsqrt.calls (k : Nat) (a0 : Int) (r : Int) (w : World) (h : credenzaref02_Rsqrt.f k a0 = some r) :
  Calls Try.prog 31 #[.int .i64 a0] w fun e w' => e = .returned (.int .i32 r) ∧ Drawn0 w w' := by
 unfold credenzaref02_Rsqrt.f at h
 by_cases h0 : a0 < 1
 ·rw [if_pos h0] at h
  obtain ⟨t, ht, h⟩ := Option.bind_eq_some_iff.1 h
  obtain rfl := Option.some.inj h
  have HT := A_ ht
  clear ht h
  go_enter Try.func31, Try.ntmps31
  go_wp2_with ((with_reducible refine (credenzaref02_Root.calls k 281474976710656 t _ HT.out).mono ?_); rintro e w' ⟨rfl, ⟨nd, rfl⟩⟩)
  go_ret
  exact ⟨rfl, ⟨_, rfl⟩⟩
 ·rw [if_neg h0] at h
  by_cases h1 : a0 ≤ 9223372036854775807
  ·rw [if_pos h1] at h
   obtain ⟨t, ht, h⟩ := Option.bind_eq_some_iff.1 h
   obtain rfl := Option.some.inj h
   have HT := A_ ht
   clear ht h
   have h2 : 1 ≤ a0 := by omega
   have h0b : decide (a0 < 1) = false := decide_eq_false h0
   clear h0
   go_enter Try.func31, Try.ntmps31
   go_wp2_with ((with_reducible refine (credenzaref02_Root.calls k (281474976710656 / a0) t _ HT.out).mono ?_); rintro e w' ⟨rfl, ⟨nd, rfl⟩⟩)
   go_ret
   exact ⟨rfl, ⟨_, rfl⟩⟩
  ·rw [if_neg h1] at h
   exact absurd h (by simp)
def credenzaref14_Score.f (k : Nat) (l0 : List Int) (l1 : List Int) : Option (Int) := (credenzaref14_Narrow.f k l0).bind fun t205 => ((credenzaref14_Narrow.f k l1).bind fun t208 => ((credenzaref03_Dot.f k t205 t208).bind fun t211 => ((credenzaref01_Ratio.f t211 65536).bind fun t212 => ((credenzaref01_Wide.f t212).bind fun t213 => ((credenzaref02_Rsqrt.f k (wrap64 ((l0.length : Int) * 65536))).bind fun t214 => ((credenzaref01_Mul.f t213 t214).bind fun t215 => (some t215)))))))
theorem credenzaref14_Score.calls (k : Nat) (A0 : Option Addr) (c0 : Nat) (l0 : List Int) (A1 : Option Addr) (c1 : Nat) (l1 : List Int) (r : Int) (w : World) (hr0 : Kd.C (Kd.int .i32) w A0 l0.length l0) (hc0 : l0.length ≤ c0) (hr1 : Kd.C (Kd.int .i32) w A1 l1.length l1) (hc1 : l1.length ≤ c1) (h : credenzaref14_Score.f k l0 l1 = some r) :
  Calls Try.prog 10 #[.slice A0 l0.length c0, .slice A1 l1.length c1] w fun e w' => e = .returned (.int .i32 r) ∧ Below w.heap.size w w' := by
 have HR0 := A_ hr0
 have HC0 := A_ hc0
 clear hr0 hc0
 have HR1 := A_ hr1
 have HC1 := A_ hc1
 clear hr1 hc1
 have HB := A_ (Below.refl w.heap.size w)
 have H := h
 unfold credenzaref14_Score.f at H
 clear h
 replace H := ob_ H
 obtain ⟨t205, A3, H⟩ := H
 try dsimp only at H
 replace H := ob_ H
 obtain ⟨t208, A4, H⟩ := H
 try dsimp only at H
 replace H := ob_ H
 obtain ⟨t211, A5, H⟩ := H
 try dsimp only at H
 replace H := ob_ H
 obtain ⟨t212, A6, H⟩ := H
 try dsimp only at H
 replace H := ob_ H
 obtain ⟨t213, A7, H⟩ := H
 try dsimp only at H
 replace H := ob_ H
 obtain ⟨t214, A8, H⟩ := H
 try dsimp only at H
 replace H := ob_ H
 obtain ⟨t215, A9, H⟩ := H
 try dsimp only at H
 obtain rfl := Option.some.inj H
 go_enter Try.func10, Try.ntmps10
 go_wp2_with (first | (refine goesL_ (some 8) rfl rfl Try.func16 (by kernel_rfl) rfl #[.slice A0 l0.length c0] rfl ar_ ?_; (with_reducible refine (credenzaref14_Narrow.calls k _ _ l0 t205 _ ?side1 ?side2 A3.out).mono ?_); (case side1 => exact cb_ HR0.out); (case side2 => exact HC0.out); rintro e w10 ⟨v206, rfl, ho0, hb⟩; refine ⟨_, rfl, ?_⟩; have HO207 := A_ (Kd.R_lower ho0 (below_size bl_)); replace HB := A_ (below_step bl_ hb)) | (refine goesL_ (some 10) rfl rfl Try.func16 (by kernel_rfl) rfl #[.slice A1 l1.length c1] rfl ar_ ?_; (with_reducible refine (credenzaref14_Narrow.calls k _ _ l1 t208 _ ?side1 ?side2 A4.out).mono ?_); (case side1 => exact cb_ (Kd.C_below HR1.out HB.out)); (case side2 => exact HC1.out); rintro e w11 ⟨v209, rfl, ho0, hb⟩; refine ⟨_, rfl, ?_⟩; have HO210 := A_ (Kd.R_lower (Kd.R_new' ho0 (Kd.R_lt (mv_ HO207.out))) (below_size bl_)); replace HO207 := A_ (Kd.R_elder' (mv_ HO207.out) (Kd.R_base ho0) hb); replace HB := A_ (below_step bl_ hb); obtain ⟨Ao12, co12, eo12⟩ := Kd.R_slice HO207.out; subst eo12; obtain ⟨Ao13, co13, eo13⟩ := Kd.R_slice HO210.out; subst eo13) | (refine goesL_ (some 11) rfl rfl Try.func27 (by kernel_rfl) rfl #[.slice Ao12 t205.length co12, .slice Ao13 t208.length co13] rfl ar_ ?_; (with_reducible refine (credenzaref03_Dot.calls k _ _ t205 _ _ t208 t211 _ ?side1 ?side2 ?side3 ?side4 A5.out).mono ?_); (case side1 => exact cb_ (Kd.R_reads' HO207.out).2.2); (case side2 => exact (Kd.R_reads' HO207.out).2.1); (case side3 => exact cb_ (Kd.R_reads' HO210.out).2.2); (case side4 => exact (Kd.R_reads' HO210.out).2.1); rintro e w' ⟨rfl, ⟨nd, rfl⟩⟩; refine ⟨_, rfl, ?_⟩) | (refine goesL_ (some 13) rfl rfl Try.func29 (by kernel_rfl) rfl #[.int .i64 t211, .int .i64 65536] rfl ar_ ?_; (with_reducible refine (credenzaref01_Ratio.calls t211 65536 t212 _ A6.out).mono ?_); rintro e w' ⟨rfl, ⟨nd, rfl⟩⟩; refine ⟨_, rfl, ?_⟩) | (refine goesL_ (some 14) rfl rfl Try.func28 (by kernel_rfl) rfl #[.int .i64 t212] rfl ar_ ?_; (with_reducible refine (credenzaref01_Wide.calls t212 t213 _ A7.out).mono ?_); rintro e w' ⟨rfl, ⟨nd, rfl⟩⟩; refine ⟨_, rfl, ?_⟩) | (refine goesL_ (some 19) rfl rfl Try.func31 (by kernel_rfl) rfl #[.int .i64 (wrap64 ((l0.length : Int) * 65536))] rfl ar_ ?_; (with_reducible refine (credenzaref02_Rsqrt.calls k (wrap64 ((l0.length : Int) * 65536)) t214 _ A8.out).mono ?_); rintro e w' ⟨rfl, ⟨nd, rfl⟩⟩; refine ⟨_, rfl, ?_⟩) | (refine goesL_ (some 20) rfl rfl Try.func30 (by kernel_rfl) rfl #[.int .i32 t213, .int .i32 t214] rfl ar_ ?_; (with_reducible refine (credenzaref01_Mul.calls t213 t214 t215 _ A9.out).mono ?_); rintro e w' ⟨rfl, ⟨nd, rfl⟩⟩; refine ⟨_, rfl, ?_⟩))
 go_ret
 exact ⟨ew_, bl_⟩
end Go.Proofs.Yteflolamihhmdaa.Q

namespace Go.Proofs.Yteflolamihhmdaa.Pure
open Go.RowKit Go.Proofs.Yteflolamihhmdaa.Q Go.Proofs.YteflolamihhmdaaW.PrintWords Go.Proofs.YteflolamihhmdaaW.PrintLast
def nars (l : List Int) : List Int := l.map narR
def NB (l : List Int) : Prop := ∀ x ∈ l, -8388608 ≤ x ∧ x ≤ 8388608
theorem nars_nb (l : List Int) : NB (nars l) := by
 intro x hx
 obtain ⟨y, _, rfl⟩ := List.mem_map.1 hx
 exact narR_bd y
theorem nars_length (l : List Int) : (nars l).length = l.length := by simp [nars]
theorem attn_narrow_some {x : Int} (hx : I32 x) : attn_narrow.f x = some (narR x) := by
 have hb := narR_bd x
 unfold I32 at hx
 unfold attn_narrow.f
 rw [w64 (x := x) (by omega) (by omega), fix_Narrow_some]
 simp only [Option.bind_some]
 rw [w64 (by omega) (by omega)]
theorem cut_loop (l : List Int) (hl : l.length ≤ 70368744177664) (hw : A32 l) : ∀ (d k p : Nat), p + d = l.length → d < k → attn_cut.l0 k (nars (l.take p) ++ List.replicate d 0) l (l.length : Int) (p : Int) = some (nars l) := by
 intro d
 induction d with
 | zero =>
  intro k p hp hk
  obtain ⟨k, rfl⟩ : ∃ m, k = m + 1 := ⟨k - 1, by omega⟩
  simp only [attn_cut.l0]
  rw [if_neg (by omega), List.take_of_length_le (by omega)]
  simp
 | succ d ih =>
  intro k p hp hk
  obtain ⟨k, rfl⟩ : ∃ m, k = m + 1 := ⟨k - 1, by omega⟩
  have hlt : p < l.length := by omega
  have hn := narR_bd (rd l (p : Int))
  simp only [attn_cut.l0]
  rw [if_pos (by omega), if_pos (by omega), if_pos (by omega), attn_narrow_some (hw _ (rd_mem hlt))]
  simp only [Option.bind_some]
  have hpl : (nars (l.take p)).length = p := by rw [nars_length, List.length_take]; omega
  rw [if_pos (by simp [hpl]; omega), wnext hlt (by omega), w32 (x := narR _) (by omega) (by omega), Int.toNat_natCast]
  have e : (nars (l.take p) ++ List.replicate (d + 1) 0).set p (narR (rd l (p : Int))) = nars (l.take (p + 1)) ++ List.replicate d 0 := by
   rw [List.set_append_right _ _ (by omega), hpl, Nat.sub_self, List.replicate_succ, List.set_cons_zero, take_rd hlt]
   simp [nars]
  rw [e]
  exact ih k (p + 1) (by omega) (by omega)
theorem attn_cut_some (l : List Int) (hl : l.length ≤ 70368744177664) (hw : A32 l) {k : Nat} (hk : l.length < k) : attn_cut.f k l = some (nars l) := by
 unfold attn_cut.f
 rw [if_pos (by omega), if_pos (by omega), Int.toNat_natCast]
 exact cut_loop l hl hw l.length k 0 (by omega) hk
theorem ref_Narrow_loop (l : List Int) (hl : l.length ≤ 1000000) (hw : A32 l) : ∀ (d k p : Nat), p + d = l.length → d < k → credenzaref14_Narrow.l0 k l (nars (l.take p)) (p : Int) = some (nars l) := by
 intro d
 induction d with
 | zero =>
  intro k p hp hk
  obtain ⟨k, rfl⟩ : ∃ m, k = m + 1 := ⟨k - 1, by omega⟩
  simp only [credenzaref14_Narrow.l0]
  rw [if_neg (by omega), List.take_of_length_le (by omega)]
 | succ d ih =>
  intro k p hp hk
  obtain ⟨k, rfl⟩ : ∃ m, k = m + 1 := ⟨k - 1, by omega⟩
  have hlt : p < l.length := by omega
  have hx := hw _ (rd_mem hlt)
  unfold I32 at hx
  simp only [credenzaref14_Narrow.l0]
  rw [if_pos (by omega), if_pos (by omega), w64 (x := rd l (p : Int)) (by omega) (by omega), ref_Narrow_some]
  simp only [Option.bind_some]
  have hpl : (nars (l.take p)).length = p := by rw [nars_length, List.length_take]; omega
  rw [if_pos (by omega), wnext hlt (by omega), show nars (l.take p) ++ [narR (rd l (p : Int))] = nars (l.take (p + 1)) by rw [take_rd hlt]; simp [nars]]
  exact ih k (p + 1) (by omega) (by omega)
theorem ref_Narrow_some' (l : List Int) (hl : l.length ≤ 1000000) (hw : A32 l) {k : Nat} (hk : l.length < k) : credenzaref14_Narrow.f k l = some (nars l) :=
 ref_Narrow_loop l hl hw l.length k 0 (by omega) hk
def dotR : List Int → List Int → Int
 | a :: xs, b :: ys => a * b + dotR xs ys
 | _, _ => 0
theorem nb_mul {x y : Int} (h1 : -8388608 ≤ x ∧ x ≤ 8388608) (h2 : -8388608 ≤ y ∧ y ≤ 8388608) : -70368744177664 ≤ x * y ∧ x * y ≤ 70368744177664 := mul_bd (A := 8388608) (B := 8388608) h1.1 h1.2 h2.1 h2.2
theorem dotR_bd : ∀ {a b : List Int} (_ : NB a) (_ : NB b), -(a.length * 70368744177664 : Int) ≤ dotR a b ∧ dotR a b ≤ a.length * 70368744177664
 | [], b, _, _ => by simp [dotR]
 | x :: a, [], _, _ => by simp only [dotR, List.length_cons]; omega
 | x :: a, y :: b, ha, hb => by
  have h1 := nb_mul (ha x (by simp)) (hb y (by simp))
  have h2 := dotR_bd (a := a) (b := b) (fun z hz => ha z (by simp [hz])) (fun z hz => hb z (by simp [hz]))
  simp only [dotR, List.length_cons]
  omega
theorem ref_dot_loop (a b : List Int) (hl : a.length = b.length) (hn : a.length ≤ 1024) (ha : NB a) (hb : NB b) : ∀ (d k p : Nat) (s : Int), p + d = a.length → d < k → -(p * 70368744177664 : Int) ≤ s → s ≤ p * 70368744177664 → credenzaref03_Dot.l0 k a b s (p : Int) = some (s + dotR (a.drop p) (b.drop p)) := by
 intro d
 induction d with
 | zero =>
  intro k p s hp hk h1 h2
  obtain ⟨k, rfl⟩ : ∃ m, k = m + 1 := ⟨k - 1, by omega⟩
  simp only [credenzaref03_Dot.l0]
  rw [if_neg (by omega), List.drop_eq_nil_of_le (by omega)]
  simp [dotR]
 | succ d ih =>
  intro k p s hp hk h1 h2
  obtain ⟨k, rfl⟩ : ∃ m, k = m + 1 := ⟨k - 1, by omega⟩
  have hlt : p < a.length := by omega
  have hlt2 : p < b.length := by omega
  have hx := ha _ (rd_mem hlt)
  have hy := hb _ (rd_mem hlt2)
  have hm := nb_mul hx hy
  simp only [credenzaref03_Dot.l0]
  rw [if_pos (by omega), if_pos (by omega), if_pos (by omega), wnext hlt (by omega), w64 (x := rd a (p : Int)) (by omega) (by omega), w64 (x := rd b (p : Int)) (by omega) (by omega), drop_rd hlt, drop_rd hlt2]
  simp only [dotR]
  generalize rd a (p : Int) * rd b (p : Int) = m at *
  rw [w64 (x := m) (by omega) (by omega), w64 (x := s + m) (by omega) (by omega)]
  rw [ih k (p + 1) (s + m) (by omega) (by omega) (by omega) (by omega)]
  congr 1
  omega
theorem ref_Dot_some {a b : List Int} (hl : a.length = b.length) (hn : a.length ≤ 1024) (ha : NB a) (hb : NB b) {k : Nat} (hk : a.length < k) : credenzaref03_Dot.f k a b = some (dotR a b) := by
 unfold credenzaref03_Dot.f
 have := ref_dot_loop a b hl hn ha hb a.length k 0 0 (by omega) (by omega) (by omega) (by omega)
 simpa using this
theorem sum_loop (key : List Int) (hk : A32 key) : ∀ (q : List Int) (p : Nat) (s : Int), p + q.length ≤ key.length → p + q.length ≤ 1024 → NB q → -(p * 70368744177664 : Int) ≤ s → s ≤ p * 70368744177664 → attn_sum.l key q p s = some (s + dotR q (nars (key.drop p))) := by
 intro q
 induction q with
 | nil =>
  intro p s _ _ _ _ _
  rw [attn_sum.l, dotR]
  ·simp
  ·intro a xs b ys h
   cases h
 | cons x q ih =>
  intro p s h1 h2 hq h3 h4
  simp only [List.length_cons] at h1 h2
  have hlt : p < key.length := by omega
  have hx := hq x (by simp)
  have hm := nb_mul hx (narR_bd (rd key (p : Int)))
  simp only [attn_sum.l]
  rw [if_pos hlt, attn_narrow_some (hk _ (rd_mem hlt)), drop_rd hlt]
  simp only [Option.bind_some, nars, List.map_cons, dotR]
  generalize narR (rd key (p : Int)) = y at *
  rw [w64 (x := x) (by omega) (by omega), w64 (x := x * y) (by omega) (by omega)]
  generalize x * y = m at *
  rw [w64 (x := s + m) (by omega) (by omega)]
  rw [ih (p + 1) (s + m) (by omega) (by omega) (fun z hz => hq z (by simp [hz])) (by omega) (by omega)]
  simp only [nars]
  congr 1
  omega
def rsT : List Int := [0, 65536, 46340, 37837, 32768, 29308, 26754, 24770, 23170, 21845, 20724, 19759, 18918, 18176, 17515, 16921, 16384]
def rsR (n : Nat) : Int := rsT.getD n 0
def rsOk (n : Nat) : Prop := expo_Rsqrt.f 40 ((n : Nat) * 65536 : Int) = some (rsR n) ∧ credenzaref02_Rsqrt.f 40 ((n : Nat) * 65536 : Int) = some (rsR n) ∧ 0 ≤ rsR n ∧ rsR n ≤ 65536
theorem rs_1 : rsOk 1 := ⟨by kernel_rfl, by kernel_rfl, by decide, by decide⟩
theorem rs_2 : rsOk 2 := ⟨by kernel_rfl, by kernel_rfl, by decide, by decide⟩
theorem rs_3 : rsOk 3 := ⟨by kernel_rfl, by kernel_rfl, by decide, by decide⟩
theorem rs_4 : rsOk 4 := ⟨by kernel_rfl, by kernel_rfl, by decide, by decide⟩
theorem rs_5 : rsOk 5 := ⟨by kernel_rfl, by kernel_rfl, by decide, by decide⟩
theorem rs_6 : rsOk 6 := ⟨by kernel_rfl, by kernel_rfl, by decide, by decide⟩
theorem rs_7 : rsOk 7 := ⟨by kernel_rfl, by kernel_rfl, by decide, by decide⟩
theorem rs_8 : rsOk 8 := ⟨by kernel_rfl, by kernel_rfl, by decide, by decide⟩
theorem rs_9 : rsOk 9 := ⟨by kernel_rfl, by kernel_rfl, by decide, by decide⟩
theorem rs_10 : rsOk 10 := ⟨by kernel_rfl, by kernel_rfl, by decide, by decide⟩
theorem rs_11 : rsOk 11 := ⟨by kernel_rfl, by kernel_rfl, by decide, by decide⟩
theorem rs_12 : rsOk 12 := ⟨by kernel_rfl, by kernel_rfl, by decide, by decide⟩
theorem rs_13 : rsOk 13 := ⟨by kernel_rfl, by kernel_rfl, by decide, by decide⟩
theorem rs_14 : rsOk 14 := ⟨by kernel_rfl, by kernel_rfl, by decide, by decide⟩
theorem rs_15 : rsOk 15 := ⟨by kernel_rfl, by kernel_rfl, by decide, by decide⟩
theorem rs_16 : rsOk 16 := ⟨by kernel_rfl, by kernel_rfl, by decide, by decide⟩
theorem rs_some {n : Nat} (h1 : 1 ≤ n) (h2 : n ≤ 16) {k : Nat} (hk : 40 ≤ k) : expo_Rsqrt.f k ((n : Int) * 65536) = some (rsR n) ∧ credenzaref02_Rsqrt.f k ((n : Int) * 65536) = some (rsR n) ∧ 0 ≤ rsR n ∧ rsR n ≤ 65536 := by
 have hm : rsOk n := by
  match n, h1, h2 with
  | 1, _, _ => exact rs_1
  | 2, _, _ => exact rs_2
  | 3, _, _ => exact rs_3
  | 4, _, _ => exact rs_4
  | 5, _, _ => exact rs_5
  | 6, _, _ => exact rs_6
  | 7, _, _ => exact rs_7
  | 8, _, _ => exact rs_8
  | 9, _, _ => exact rs_9
  | 10, _, _ => exact rs_10
  | 11, _, _ => exact rs_11
  | 12, _, _ => exact rs_12
  | 13, _, _ => exact rs_13
  | 14, _, _ => exact rs_14
  | 15, _, _ => exact rs_15
  | 16, _, _ => exact rs_16
  | n + 17, _, h => exact absurd h (by omega)
 obtain ⟨ha, hb, hc⟩ := hm
 exact ⟨at_rounds (expo_Rsqrt.mono _) hk ha, at_rounds (credenzaref02_Rsqrt.mono _) hk hb, hc⟩
def scaledR (s : Int) (n : Nat) : Int := mulR (wideR (rnd s 65536)) (rsR n)
def scoreR (q key : List Int) : Int := scaledR (dotR (nars q) (nars key)) q.length
theorem attn_scaled_some {s : Int} {n : Nat} (h1 : 1 ≤ n) (h2 : n ≤ 16) (hs1 : -4611686018427387904 ≤ s) (hs2 : s ≤ 4611686018427387904) {k : Nat} (hk : 40 ≤ k) : attn_scaled.f k s (n : Int) = some (scaledR s n) := by
 obtain ⟨ha, _, hb, hc⟩ := rs_some h1 h2 hk
 have hw := wideR_bd (rnd s 65536)
 have e1 := fix_Half_16 hs1 hs2
 have e2 := fix_Wide_some (rnd s 65536)
 have e3 : wrap64 ((n : Int) * 65536) = (n : Int) * 65536 := w64 (by omega) (by omega)
 have e4 : fix_Mul.f (wideR (rnd s 65536)) (rsR n) = some (mulR (wideR (rnd s 65536)) (rsR n)) := fix_Mul_some hw.1 hw.2 (by omega) (by omega)
 rw [attn_scaled.f, e1, Option.bind_some, e2, Option.bind_some, e3, ha, Option.bind_some, e4, Option.bind_some, scaledR]
theorem ref_Score_some {q key : List Int} (hl : q.length = key.length) (h1 : 1 ≤ q.length) (h2 : q.length ≤ 16) (hq : A32 q) (hk : A32 key) {k : Nat} (hkk : 50 ≤ k) : credenzaref14_Score.f k q key = some (scoreR q key) := by
 have hb := dotR_bd (nars_nb q) (nars_nb key)
 rw [nars_length] at hb
 obtain ⟨_, ha, hc, hd⟩ := rs_some h1 h2 (k := k) (by omega)
 have hw := wideR_bd (rnd (dotR (nars q) (nars key)) 65536)
 have e1 := ref_Narrow_some' q (by omega) hq (k := k) (by omega)
 have e2 := ref_Narrow_some' key (by omega) hk (k := k) (by omega)
 have e3 := ref_Dot_some (a := nars q) (b := nars key) (by rw [nars_length, nars_length]; exact hl) (by rw [nars_length]; omega) (nars_nb q) (nars_nb key) (k := k) (by rw [nars_length]; omega)
 have e4 : credenzaref01_Ratio.f (dotR (nars q) (nars key)) 65536 = some (rnd (dotR (nars q) (nars key)) 65536) := ref_Ratio_some (by omega) (by omega) (by omega) (by omega)
 have e5 := ref_Wide_some (rnd (dotR (nars q) (nars key)) 65536)
 have e6 : wrap64 ((q.length : Int) * 65536) = (q.length : Int) * 65536 := w64 (by omega) (by omega)
 have e7 : credenzaref01_Mul.f (wideR (rnd (dotR (nars q) (nars key)) 65536)) (rsR q.length) = some (mulR (wideR (rnd (dotR (nars q) (nars key)) 65536)) (rsR q.length)) := ref_Mul_some hw.1 hw.2 (by omega) (by omega)
 rw [credenzaref14_Score.f, e1, Option.bind_some, e2, Option.bind_some, e3, Option.bind_some, e4, Option.bind_some, e5, Option.bind_some, e6, ha, Option.bind_some, e7, Option.bind_some, scoreR, scaledR]
end Go.Proofs.Yteflolamihhmdaa.Pure

namespace Go.Proofs.Yteflolamihhmdaa.Q
open Go.RowKit Go.Proofs.YteflolamihhmdaaW.PrintWords Go.Proofs.YteflolamihhmdaaW.PrintLast Go.Proofs.YteflolamihhmdaaW.PrintMore
attribute [local go_sem] max2_int min2_int max_two min_two max_three min_three max_four min_four
def slices_Index_int32_int32.l0 : Nat → List Int → Int → Int → Int → Option (Int)
 | 0, _, _, _, _ => none
 | k + 1, x0, x1, x7, x8 => if x8 < x7 then (if 0 ≤ x8 then (if x8 < (x0.length : Int) then (if x1 = (rd x0 x8) then (some x8) else (slices_Index_int32_int32.l0 k x0 x1 x7 (wrap64 (x8 + 1)))) else (none)) else (none)) else (some (-1))
def slices_Index_int32_int32.f (k : Nat) (l0 : List Int) (a1 : Int) : Option (Int) := slices_Index_int32_int32.l0 k l0 a1 (l0.length : Int) 0
theorem slices_Index_int32_int32.mono_l : ∀ k, (∀ y0 y1 y2 y3, LeO (slices_Index_int32_int32.l0 k y0 y1 y2 y3) (slices_Index_int32_int32.l0 (k + 1) y0 y1 y2 y3))
 | 0 => fun _ _ _ _ r h => by simp [slices_Index_int32_int32.l0] at h
 | k + 1 => by
  have ih0 := slices_Index_int32_int32.mono_l k
  ·intro y0 y1 y2 y3
   unfold slices_Index_int32_int32.l0
   repeat' with_reducible first | apply ih0 | apply LeO.refl | apply LeO.none | refine LeO.ite ?_ ?_ | refine LeO.bind ?_ (fun _ => ?_)
theorem slices_Index_int32_int32.mono : ∀ a0 a1 k, LeO (slices_Index_int32_int32.f k a0 a1) (slices_Index_int32_int32.f (k + 1) a0 a1) := by
 intro a0 a1 k
 have ih0 := slices_Index_int32_int32.mono_l k
 unfold slices_Index_int32_int32.f
 repeat' with_reducible first | apply ih0 | apply LeO.refl | apply LeO.none | refine LeO.ite ?_ ?_ | refine LeO.bind ?_ (fun _ => ?_)
theorem slices_Index_int32_int32.calls (k : Nat) (A0 : Option Addr) (c0 : Nat) (l0 : List Int) (a1 : Int) (r : Int) (w : World) (hr0 : Kd.C (Kd.int .i32) w A0 l0.length l0) (hc0 : l0.length ≤ c0) (h : slices_Index_int32_int32.f k l0 a1 = some r) :
  Calls Try.prog 82 #[.slice A0 l0.length c0, .int .i32 a1] w fun e w' => e = .returned (.int .i64 r) ∧ Drawn0 w w' := by
 have HR0 := A_ hr0
 have HC0 := A_ hc0
 clear hr0 hc0
 have H := h
 unfold slices_Index_int32_int32.f at H
 clear h
 have H' := A_ H
 clear H
 go_enter Try.func82, Try.ntmps82
 go_wp2
 go_loopg [8] k (fun kq v8 w' => ∃ (x8_1 : Int), v8 = .int .i64 x8_1 ∧ Aside0 (slices_Index_int32_int32.l0 kq l0 a1 (l0.length : Int) x8_1 = some r) ∧ Aside0 (kq ≤ k) ∧ Drawn0 w w')
 case atStart => exact ⟨(0), rs_, H', ⟨Nat.le_refl _⟩, d0_⟩
 case round =>
  clear H'
  obtain ⟨x8_1, rfl, HA, HK1, ⟨m1, rfl⟩⟩ := hrel
  cases gk with
  | zero => exact absurd HA.out (by simp [slices_Index_int32_int32.l0])
  | succ k1 =>
   have H := HA.out
   clear HA
   simp only [slices_Index_int32_int32.l0] at H
   by_cases c3 : x8_1 < (l0.length : Int)
   ·rw [if_pos c3] at H
    have c3b0 : decide (x8_1 < (l0.length : Int)) = true := decide_eq_true c3
    clear c3
    by_cases c4 : 0 ≤ x8_1
    ·rw [if_pos c4] at H
     have c4b0 : decide (0 ≤ x8_1) = true := decide_eq_true c4
     clear c4
     by_cases c5 : x8_1 < (l0.length : Int)
     ·rw [if_pos c5] at H
      have c5b0 : decide (x8_1 < (l0.length : Int)) = true := decide_eq_true c5
      clear c5
      by_cases c6 : a1 = (rd l0 x8_1)
      ·rw [if_pos c6] at H
       have c6b0 : (a1 == (rd l0 x8_1)) = true := beq_iff_eq.mpr c6
       have c6b1 : (a1 != (rd l0 x8_1)) = false := bne_eq_false_iff_eq.mpr c6
       clear c6
       obtain rfl := Option.some.inj H
       have p136 : 0 ≤ (x8_1 : Int) := od_
       have q136 : x8_1 < (l0.length : Int) := od_
       obtain ⟨ad136, e136, hx136_0⟩ := Kd.at_int HR0.out x8_1 p136 q136
       cases e136
       replace p136 := eq_true p136
       replace q136 := eq_true q136
       go_wp2
       go_ret
       exact ⟨rs_, d0_⟩
      ·rw [if_neg c6] at H
       have c6b0 : (a1 == (rd l0 x8_1)) = false := beq_eq_false_iff_ne.mpr c6
       have c6b1 : (a1 != (rd l0 x8_1)) = true := bne_iff_ne.mpr c6
       have H' := A_ H
       clear H
       have p136 : 0 ≤ (x8_1 : Int) := od_
       have q136 : x8_1 < (l0.length : Int) := od_
       obtain ⟨ad136, e136, hx136_0⟩ := Kd.at_int HR0.out x8_1 p136 q136
       cases e136
       replace p136 := eq_true p136
       replace q136 := eq_true q136
       go_wp2
       go_roundg k1
       case measure => have := HK1.out; omega
       case rel => exact ⟨(wrap64 (x8_1 + 1)), rs_, H', ⟨by have := HK1.out; omega⟩, d0_⟩
     ·rw [if_neg c5] at H
      exact absurd H (by simp)
    ·rw [if_neg c4] at H
     exact absurd H (by simp)
   ·rw [if_neg c3] at H
    have c3b0 : decide (x8_1 < (l0.length : Int)) = false := decide_eq_false c3
    clear c3
    obtain rfl := Option.some.inj H
    go_wp2
    go_ret
    exact ⟨rs_, d0_⟩
def dot_Top.f (k : Nat) (l0 : List Int) : Option (Int × Int × Int) := if (l0.length : Int) = 0 then (some (0, 0, 14)) else ((slices_Max_int32_int32.f k l0).bind fun t137 => ((slices_Index_int32_int32.f k l0 t137).bind fun t138 => (some (t138, t137, 0))))
theorem dot_Top.mono : ∀ a0 k, LeO (dot_Top.f k a0) (dot_Top.f (k + 1) a0) := by
 intro a0 k
 unfold dot_Top.f
 repeat' with_reducible first | apply slices_Index_int32_int32.mono | apply slices_Max_int32_int32.mono | apply LeO.refl | apply LeO.none | refine LeO.ite ?_ ?_ | refine LeO.bind ?_ (fun _ => ?_)
theorem dot_Top.calls (k : Nat) (A0 : Option Addr) (c0 : Nat) (l0 : List Int) (r1 : Int) (r2 : Int) (r3 : Int) (w : World) (hr0 : Kd.C (Kd.int .i32) w A0 l0.length l0) (hc0 : l0.length ≤ c0) (h : dot_Top.f k l0 = some (r1, r2, r3)) :
  Calls Try.prog 63 #[.slice A0 l0.length c0] w fun e w' => e = .returned (.tuple #[.int .i64 r1, .int .i32 r2, .int .i64 r3]) ∧ Below w.heap.size w w' := by
 have HR0 := A_ hr0
 have HC0 := A_ hc0
 clear hr0 hc0
 have HB := A_ (Below.refl w.heap.size w)
 have H : (if (l0.length : Int) = 0 then (some (0, 0, 14)) else ((slices_Max_int32_int32.f k l0).bind fun t137 => ((slices_Index_int32_int32.f k l0 t137).bind fun t138 => (some (t138, t137, 0))))) = some (r1, r2, r3) := h
 clear h
 by_cases c2 : (l0.length : Int) = 0
 ·rw [if_pos c2] at H
  have c2b0 : ((l0.length : Int) == 0) = true := beq_iff_eq.mpr c2
  have c2b1 : ((l0.length : Int) != 0) = false := bne_eq_false_iff_eq.mpr c2
  clear c2
  simp only [Option.some.injEq, Prod.mk.injEq] at H
  obtain ⟨rfl, rfl, rfl⟩ := H
  go_enter Try.func63, Try.ntmps63
  go_wp2
  go_ret3
  exact ⟨ew_, bl_⟩
 ·rw [if_neg c2] at H
  have c2b0 : ((l0.length : Int) == 0) = false := beq_eq_false_iff_ne.mpr c2
  have c2b1 : ((l0.length : Int) != 0) = true := bne_iff_ne.mpr c2
  have c2b2 : ¬ (l0 = []) := fun h_ => c2 (by rw [h_]; rfl)
  replace H := ob_ H
  obtain ⟨t137, A3, H⟩ := H
  try dsimp only at H
  replace H := ob_ H
  obtain ⟨t138, A4, H⟩ := H
  try dsimp only at H
  simp only [Option.some.injEq, Prod.mk.injEq] at H
  obtain ⟨rfl, rfl, rfl⟩ := H
  go_enter Try.func63, Try.ntmps63
  go_wp2_with (first | (refine goesL_ (some 9) rfl rfl Try.func78 (by kernel_rfl) rfl #[.slice A0 l0.length c0] rfl ar_ ?_; (with_reducible refine (slices_Max_int32_int32.calls k _ _ l0 t137 _ ?side1 ?side2 A3.out).mono ?_); (case side1 => exact cb_ HR0.out); (case side2 => exact HC0.out); rintro e w5 ⟨rfl, hb⟩; refine ⟨_, rfl, ?_⟩; replace HB := A_ (below_step bl_ hb)) | (refine goesL_ (some 12) rfl rfl Try.func82 (by kernel_rfl) rfl #[.slice A0 l0.length c0, .int .i32 t137] rfl ar_ ?_; (with_reducible refine (slices_Index_int32_int32.calls k _ _ l0 t137 t138 _ ?side1 ?side2 A4.out).mono ?_); (case side1 => exact cb_ (Kd.C_below HR0.out HB.out)); (case side2 => exact HC0.out); rintro e w' ⟨rfl, ⟨nd, rfl⟩⟩; refine ⟨_, rfl, ?_⟩))
  go_ret3
  exact ⟨ew_, bl_⟩
def expo_of2.f (a0 : Int) : Option (Int) := some (wrap64 (65536 + ((wrap64 (a0 * (wrap64 (45613 + ((wrap64 (a0 * (wrap64 (14743 + ((wrap64 (a0 * 5180)) / 65536))))) / 65536))))) / 65536)))
theorem expo_of2.calls (a0 : Int) (r : Int) (w : World) (h : expo_of2.f a0 = some r) :
  Calls Try.prog 83 #[.int .i64 a0] w fun e w' => e = .returned (.int .i64 r) ∧ Drawn0 w w' := by
 have H := h
 unfold expo_of2.f at H
 clear h
 obtain rfl := Option.some.inj H
 go_enter Try.func83, Try.ntmps83
 go_wp2
 go_ret
 exact ⟨rs_, d0_⟩
def expo_Exp.f (a0 : Int) : Option (Int) := (fix_Half.f (wrap64 ((wrap64 (mn a0 0)) * 94548)) 16).bind fun t139 => (if (wrap64 (-(t139 / 65536))) > 62 then (some 0) else ((expo_of2.f (wrap64 (t139 - (wrap64 ((t139 / 65536) * 65536))))).bind fun t140 => ((fix_Half.f t140 (wrap64 (-(t139 / 65536)))).bind fun t141 => (some t141))))
theorem expo_Exp.calls (a0 : Int) (r : Int) (w : World) (h : expo_Exp.f a0 = some r) :
  Calls Try.prog 64 #[.int .i32 a0] w fun e w' => e = .returned (.int .i64 r) ∧ Below w.heap.size w w' := by
 have HB := A_ (Below.refl w.heap.size w)
 have H := h
 unfold expo_Exp.f at H
 clear h
 obtain ⟨ji2, hji2⟩ : ∃ j_ : Int, (mn a0 0) = j_ := ⟨_, rfl⟩
 replace H : ((fix_Half.f (wrap64 ((wrap64 (ji2)) * 94548)) 16).bind fun t139 => (if (wrap64 (-(t139 / 65536))) > 62 then (some 0) else ((expo_of2.f (wrap64 (t139 - (wrap64 ((t139 / 65536) * 65536))))).bind fun t140 => ((fix_Half.f t140 (wrap64 (-(t139 / 65536)))).bind fun t141 => (some t141))))) = some r := by first | (rw [hji2] at H; exact H) | (simp only [hji2] at H ⊢; exact H)
 (try (have hji2h : ji2 ≤ 0 := by (rw [← hji2]; unfold mn; (repeat' split) <;> omega)))
 (try (have hji2g : ji2 ≤ 64 := by omega))
 have hji2_ : (if 0 < a0 then 0 else a0) = ji2 := hji2
 replace H := ob_ H
 obtain ⟨t139, A3, H⟩ := H
 try dsimp only at H
 by_cases c4 : (wrap64 (-(t139 / 65536))) > 62
 ·rw [if_pos c4] at H
  have c4b0 : decide (62 < (wrap64 (-(t139 / 65536)))) = true := decide_eq_true c4
  clear c4
  obtain rfl := Option.some.inj H
  go_enter Try.func64, Try.ntmps64
  go_wp2_with (first | (refine goesL_ (some 9) rfl rfl Try.func48 (by kernel_rfl) rfl #[.int .i64 (wrap64 ((wrap64 (ji2)) * 94548)), .int .i64 16] rfl (by (try simp only [List.map_toArray, List.map_cons, List.map_nil]); first | done | (simp only [hji2]; rfl) | rfl | (simp only [List.length_drop, List.length_take]; rfl)) ?_; (with_reducible refine (fix_Half.calls (wrap64 ((wrap64 (ji2)) * 94548)) 16 t139 _ A3.out).mono ?_); rintro e w5 ⟨rfl, hb⟩; refine ⟨_, rfl, ?_⟩; replace HB := A_ (below_step bl_ hb)))
  go_ret
  exact ⟨by first | rfl | (simp [errW_none, errW_some] <;> rfl) | (simp only [← hji2]; first | rfl | (simp [errW_none, errW_some] <;> rfl)) | (simp [*, errW_none, errW_some] <;> rfl), bl_⟩
 ·rw [if_neg c4] at H
  have c4b0 : decide (62 < (wrap64 (-(t139 / 65536)))) = false := decide_eq_false c4
  clear c4
  replace H := ob_ H
  obtain ⟨t140, A6, H⟩ := H
  try dsimp only at H
  replace H := ob_ H
  obtain ⟨t141, A7, H⟩ := H
  try dsimp only at H
  obtain rfl := Option.some.inj H
  go_enter Try.func64, Try.ntmps64
  go_wp2_with (first | (refine goesL_ (some 9) rfl rfl Try.func48 (by kernel_rfl) rfl #[.int .i64 (wrap64 ((wrap64 (ji2)) * 94548)), .int .i64 16] rfl (by (try simp only [List.map_toArray, List.map_cons, List.map_nil]); first | done | (simp only [hji2]; rfl) | rfl | (simp only [List.length_drop, List.length_take]; rfl)) ?_; (with_reducible refine (fix_Half.calls (wrap64 ((wrap64 (ji2)) * 94548)) 16 t139 _ A3.out).mono ?_); rintro e w8 ⟨rfl, hb⟩; refine ⟨_, rfl, ?_⟩; replace HB := A_ (below_step bl_ hb)) | (refine goesL_ (some 19) rfl rfl Try.func83 (by kernel_rfl) rfl #[.int .i64 (wrap64 (t139 - (wrap64 ((t139 / 65536) * 65536))))] rfl ar_ ?_; (with_reducible refine (expo_of2.calls (wrap64 (t139 - (wrap64 ((t139 / 65536) * 65536)))) t140 _ A6.out).mono ?_); rintro e w' ⟨rfl, ⟨nd, rfl⟩⟩; refine ⟨_, rfl, ?_⟩) | (refine goesL_ (some 22) rfl rfl Try.func48 (by kernel_rfl) rfl #[.int .i64 t140, .int .i64 (wrap64 (-(t139 / 65536)))] rfl ar_ ?_; (with_reducible refine (fix_Half.calls t140 (wrap64 (-(t139 / 65536))) t141 _ A7.out).mono ?_); rintro e w9 ⟨rfl, hb⟩; refine ⟨_, rfl, ?_⟩; replace HB := A_ (below_step bl_ hb)))
  go_ret
  exact ⟨by first | rfl | (simp [errW_none, errW_some] <;> rfl) | (simp only [← hji2]; first | rfl | (simp [errW_none, errW_some] <;> rfl)) | (simp [*, errW_none, errW_some] <;> rfl), bl_⟩
def fix_Sub.f (a0 : Int) (a1 : Int) : Option (Int) := (fix_Wide.f (wrap64 ((wrap64 (a0)) - (wrap64 (a1))))).bind fun t142 => (some t142)
theorem fix_Sub.calls (a0 : Int) (a1 : Int) (r : Int) (w : World) (h : fix_Sub.f a0 a1 = some r) :
  Calls Try.prog 65 #[.int .i32 a0, .int .i32 a1] w fun e w' => e = .returned (.int .i32 r) ∧ Below w.heap.size w w' := by
 have HB := A_ (Below.refl w.heap.size w)
 have H := h
 unfold fix_Sub.f at H
 clear h
 replace H := ob_ H
 obtain ⟨t142, A3, H⟩ := H
 try dsimp only at H
 obtain rfl := Option.some.inj H
 go_enter Try.func65, Try.ntmps65
 go_wp2_with (first | (refine goesL_ (some 10) rfl rfl Try.func47 (by kernel_rfl) rfl #[.int .i64 (wrap64 ((wrap64 (a0)) - (wrap64 (a1))))] rfl ar_ ?_; (with_reducible refine (fix_Wide.calls (wrap64 ((wrap64 (a0)) - (wrap64 (a1)))) t142 _ A3.out).mono ?_); rintro e w4 ⟨rfl, hb⟩; refine ⟨_, rfl, ?_⟩; replace HB := A_ (below_step bl_ hb)))
 go_ret
 exact ⟨ew_, bl_⟩
def soft_Weights.l0 : Nat → Int → List Int → List Int → Int → Int → Option (List Int × Int)
 | 0, _, _, _, _, _ => none
 | k + 1, x5, x7, x22, x23, x24 => if x24 < x23 then (if 0 ≤ x24 then (if x24 < (x22.length : Int) then ((fix_Sub.f (rd x22 x24) x5).bind fun t147 => ((expo_Exp.f t147).bind fun t148 => (if x7.length < 17592186044416 then (soft_Weights.l0 k x5 (x7 ++ [t148]) x22 x23 (wrap64 (x24 + 1))) else (none)))) else (none)) else (none)) else (some (x7, 0))
def soft_Weights.f (k : Nat) (l0 : List Int) : Option (List Int × Int) := if (l0.length : Int) > 1024 then (some (([] : List Int), 12)) else ((dot_Top.f k l0).bind fun bt143 => (if bt143.2.2 = 0 then (soft_Weights.l0 k bt143.2.1 ([] : List Int) l0 (l0.length : Int) 0) else (some (([] : List Int), bt143.2.2))))
theorem soft_Weights.mono_l : ∀ k, (∀ y0 y1 y2 y3 y4, LeO (soft_Weights.l0 k y0 y1 y2 y3 y4) (soft_Weights.l0 (k + 1) y0 y1 y2 y3 y4))
 | 0 => fun _ _ _ _ _ r h => by simp [soft_Weights.l0] at h
 | k + 1 => by
  have ih0 := soft_Weights.mono_l k
  ·intro y0 y1 y2 y3 y4
   unfold soft_Weights.l0
   repeat' with_reducible first | apply ih0 | apply dot_Top.mono | apply LeO.refl | apply LeO.none | refine LeO.ite ?_ ?_ | refine LeO.bind ?_ (fun _ => ?_)
theorem soft_Weights.mono : ∀ a0 k, LeO (soft_Weights.f k a0) (soft_Weights.f (k + 1) a0) := by
 intro a0 k
 have ih0 := soft_Weights.mono_l k
 unfold soft_Weights.f
 repeat' with_reducible first | apply ih0 | apply dot_Top.mono | apply LeO.refl | apply LeO.none | refine LeO.ite ?_ ?_ | refine LeO.bind ?_ (fun _ => ?_)
theorem soft_Weights.calls (k : Nat) (A0 : Option Addr) (c0 : Nat) (l0 : List Int) (r1 : List Int) (r2 : Int) (w : World) (hr0 : Kd.C (Kd.int .i32) w A0 l0.length l0) (hc0 : l0.length ≤ c0) (h : soft_Weights.f k l0 = some (r1, r2)) :
  Calls Try.prog 40 #[.slice A0 l0.length c0] w fun e w' => ∃ v0_ : Value, e = .returned (.tuple #[v0_, .int .i64 r2]) ∧ Kd.R (Kd.int .i64) 3 w' w.heap.size (fun _ => True) v0_ r1 ∧ Below w.heap.size w w' := by
 have HR0 := A_ hr0
 have HC0 := A_ hc0
 clear hr0 hc0
 have HB := A_ (Below.refl w.heap.size w)
 have H : (if (l0.length : Int) > 1024 then (some (([] : List Int), 12)) else ((dot_Top.f k l0).bind fun bt143 => (if bt143.2.2 = 0 then (soft_Weights.l0 k bt143.2.1 ([] : List Int) l0 (l0.length : Int) 0) else (some (([] : List Int), bt143.2.2))))) = some (r1, r2) := h
 clear h
 by_cases c2 : (l0.length : Int) > 1024
 ·rw [if_pos c2] at H
  have c2b0 : decide (1024 < (l0.length : Int)) = true := decide_eq_true c2
  have c2b1 : decide (1024 < l0.length) = true := decide_eq_true (by omega)
  clear c2
  simp only [Option.some.injEq, Prod.mk.injEq] at H
  obtain ⟨rfl, rfl⟩ := H
  go_enter Try.func40, Try.ntmps40
  go_wp2
  go_ret2
  exact ⟨_, ew_, nil_, bl_⟩
 ·rw [if_neg c2] at H
  have c2b0 : decide (1024 < (l0.length : Int)) = false := decide_eq_false c2
  have c2b1 : decide (1024 < l0.length) = false := decide_eq_false (by omega)
  clear c2
  replace H := ob_ H
  obtain ⟨⟨t143, t144, t145⟩, A3, H⟩ := H
  try dsimp only at H
  by_cases c4 : t145 = 0
  ·rw [if_pos c4] at H
   have c4b0 : (t145 == 0) = true := beq_iff_eq.mpr c4
   have c4b1 : (t145 != 0) = false := bne_eq_false_iff_eq.mpr c4
   clear c4
   have H' := A_ H
   clear H
   go_enter Try.func40, Try.ntmps40
   go_wp2_with (first | (refine goesL_ (some 15) rfl rfl Try.func63 (by kernel_rfl) rfl #[.slice A0 l0.length c0] rfl ar_ ?_; (with_reducible refine (dot_Top.calls k _ _ l0 t143 t144 t145 _ ?side1 ?side2 A3.out).mono ?_); (case side1 => exact cb_ HR0.out); (case side2 => exact HC0.out); rintro e w5 ⟨rfl, hb⟩; refine ⟨_, rfl, ?_⟩; replace HB := A_ (below_step bl_ hb)))
   go_loopg [7, 24] k (fun kq v7 v24 w' => ∃ (x7_1 : List Int) (x24_1 : Int), v24 = .int .i64 x24_1 ∧ Aside0 (soft_Weights.l0 kq t144 x7_1 l0 (l0.length : Int) x24_1 = some (r1, r2)) ∧ Aside0 (kq ≤ k) ∧ Aside0 (Kd.R (Kd.int .i64) 3 w' w.heap.size (fun _ => True) v7 x7_1) ∧ Aside0 (Below w.heap.size w w'))
   case atStart => exact ⟨(([] : List Int)), (0), rs_, H', ⟨Nat.le_refl _⟩, ⟨nil_⟩, ⟨bl_⟩⟩
   case round =>
    clear H'
    obtain ⟨x7_1, x24_1, rfl, HA, HK1, HO_7, HB⟩ := hrel
    cases gk with
    | zero => exact absurd HA.out (by simp [soft_Weights.l0])
    | succ k1 =>
     have H := HA.out
     clear HA
     simp only [soft_Weights.l0] at H
     by_cases c6 : x24_1 < (l0.length : Int)
     ·rw [if_pos c6] at H
      have c6b0 : decide (x24_1 < (l0.length : Int)) = true := decide_eq_true c6
      clear c6
      by_cases c7 : 0 ≤ x24_1
      ·rw [if_pos c7] at H
       have c7b0 : decide (0 ≤ x24_1) = true := decide_eq_true c7
       clear c7
       by_cases c8 : x24_1 < (l0.length : Int)
       ·rw [if_pos c8] at H
        have c8b0 : decide (x24_1 < (l0.length : Int)) = true := decide_eq_true c8
        clear c8
        replace H := ob_ H
        obtain ⟨t147, A9, H⟩ := H
        try dsimp only at H
        replace H := ob_ H
        obtain ⟨t148, A10, H⟩ := H
        try dsimp only at H
        by_cases c11 : x7_1.length < 17592186044416
        ·rw [if_pos c11] at H
         have LMc11 := A_ c11
         clear c11
         obtain ⟨y149, hy149⟩ : ∃ y_ : List Int, y_ = (x7_1 ++ [t148]) := ⟨_, rfl⟩
         replace H : (soft_Weights.l0 k1 t144 y149 l0 (l0.length : Int) (wrap64 (x24_1 + 1))) = some (r1, r2) := hy_ hy149 H
         have Ny149 := A_ hy149
         clear hy149
         have H' := A_ H
         clear H
         have p146 : 0 ≤ (x24_1 : Int) := od_
         have q146 : x24_1 < (l0.length : Int) := od_
         obtain ⟨ad146, e146, hx146_0⟩ := Kd.at_int HR0.out x24_1 p146 q146
         cases e146
         replace hx146_0 := hc_ HB.out hx146_0
         replace p146 := eq_true p146
         replace q146 := eq_true q146
         go_wp2_with (first | (refine goesL_ (some 31) rfl rfl Try.func65 (by kernel_rfl) rfl #[.int .i32 (rd l0 x24_1), .int .i32 t144] rfl ar_ ?_; (with_reducible refine (fix_Sub.calls (rd l0 x24_1) t144 t147 _ A9.out).mono ?_); rintro e w12 ⟨rfl, hb⟩; refine ⟨_, rfl, ?_⟩; replace HO_7 := A_ (Kd.R_below (mv_ HO_7.out) hb); replace HB := A_ (below_step bl_ hb)) | (refine goesL_ (some 32) rfl rfl Try.func64 (by kernel_rfl) rfl #[.int .i32 t147] rfl ar_ ?_; (with_reducible refine (expo_Exp.calls t147 t148 _ A10.out).mono ?_); rintro e w13 ⟨rfl, hb⟩; refine ⟨_, rfl, ?_⟩; replace HO_7 := A_ (Kd.R_below (mv_ HO_7.out) hb); replace HB := A_ (below_step bl_ hb)) | ((with_reducible refine gate_builtin (b := .append) (xs := #[.tmp 28, .tmp 33]) rfl ?_); at_builtin; refine Kd.R_append (Kd.int .i64) (w0 := w) w.heap.size rfl (.tmp 28) (.tmp 33) 66 3 (.int .i64 0) 8 rfl Try.underlying66 info3 rfl (by decide) (by omega) u7 x7_1 t148 [.int .i64 t148] (fun _ => True) (fun _ => False) rfl rfl ?aP (fun _ hk => hk.elim) ?aF ?aO ?aB ?aS ?aL ?_; (case aP => exact rfl); (case aB => exact bl_); (case aF => exact (fun _ _ => trivial)); (case aO => exact (mv_ HO_7.out)); (case aS => exact (below_size bl_)); (case aL => have := LMc11.out; omega); intro v150 w14 ho hb hg hat; rw [← Ny149.out] at ho; have HO151 := A_ ho; replace HB := A_ hb; clear HO_7 ho hb hg hat))
         go_roundg k1
         case measure => have := HK1.out; omega
         case rel => exact ⟨(y149), (wrap64 (x24_1 + 1)), rs_, H', ⟨by have := HK1.out; omega⟩, ⟨mv_ HO151.out⟩, ⟨bl_⟩⟩
        ·rw [if_neg c11] at H
         exact absurd H (by simp)
       ·rw [if_neg c8] at H
        exact absurd H (by simp)
      ·rw [if_neg c7] at H
       exact absurd H (by simp)
     ·rw [if_neg c6] at H
      have c6b0 : decide (x24_1 < (l0.length : Int)) = false := decide_eq_false c6
      clear c6
      simp only [Option.some.injEq, Prod.mk.injEq] at H
      obtain ⟨rfl, rfl⟩ := H
      go_wp2
      go_ret2
      exact ⟨_, ew_, by (with_reducible repeat (first | apply Kd.R_alloc | apply Kd.R_drewN | apply Kd.R_drew)); exact HO_7.out, bl_⟩
  ·rw [if_neg c4] at H
   have c4b0 : (t145 == 0) = false := beq_eq_false_iff_ne.mpr c4
   have c4b1 : (t145 != 0) = true := bne_iff_ne.mpr c4
   simp only [Option.some.injEq, Prod.mk.injEq] at H
   obtain ⟨rfl, rfl⟩ := H
   go_enter Try.func40, Try.ntmps40
   go_wp2_with (first | (refine goesL_ (some 15) rfl rfl Try.func63 (by kernel_rfl) rfl #[.slice A0 l0.length c0] rfl ar_ ?_; (with_reducible refine (dot_Top.calls k _ _ l0 t143 t144 t145 _ ?side1 ?side2 A3.out).mono ?_); (case side1 => exact cb_ HR0.out); (case side2 => exact HC0.out); rintro e w15 ⟨rfl, hb⟩; refine ⟨_, rfl, ?_⟩; replace HB := A_ (below_step bl_ hb)))
   go_ret2
   exact ⟨_, ew_, nil_, bl_⟩
def credenzaref03_Top.l0 : Nat → List Int → Int → Int → Option (Int)
 | 0, _, _, _ => none
 | k + 1, x0, x3, x4 => if x4 < (x0.length : Int) then (if 0 ≤ x4 then (if 0 ≤ x3 then (if x3 < (x0.length : Int) then (if (rd x0 x4) > (rd x0 x3) then (credenzaref03_Top.l0 k x0 x4 (wrap64 (x4 + 1))) else (credenzaref03_Top.l0 k x0 x3 (wrap64 (x4 + 1)))) else (none)) else (none)) else (none)) else (some x3)
def credenzaref03_Top.f (k : Nat) (l0 : List Int) : Option (Int) := credenzaref03_Top.l0 k l0 0 0
theorem credenzaref03_Top.calls (k : Nat) (A0 : Option Addr) (c0 : Nat) (l0 : List Int) (r : Int) (w : World) (hr0 : Kd.C (Kd.int .i32) w A0 l0.length l0) (hc0 : l0.length ≤ c0) (h : credenzaref03_Top.f k l0 = some r) :
  Calls Try.prog 54 #[.slice A0 l0.length c0] w fun e w' => e = .returned (.int .i64 r) ∧ Drawn0 w w' := by
 have HR0 := A_ hr0
 have HC0 := A_ hc0
 clear hr0 hc0
 have H := h
 unfold credenzaref03_Top.f at H
 clear h
 have H' := A_ H
 clear H
 go_enter Try.func54, Try.ntmps54
 go_wp2
 repeat (go_quiet (fail); try go_wp2)
 go_loopg [3, 4] k (fun kq v3 v4 w' => ∃ (x3_1 : Int) (x4_1 : Int), v3 = .int .i64 x3_1 ∧ v4 = .int .i64 x4_1 ∧ Aside0 (credenzaref03_Top.l0 kq l0 x3_1 x4_1 = some r) ∧ Aside0 (kq ≤ k) ∧ Drawn0 w w')
 case atStart => exact ⟨(0), (0), rs_, rs_, H', ⟨Nat.le_refl _⟩, d0_⟩
 case round =>
  clear H'
  obtain ⟨x3_1, x4_1, rfl, rfl, HA, HK1, ⟨m1, rfl⟩⟩ := hrel
  cases gk with
  | zero => exact absurd HA.out (by simp [credenzaref03_Top.l0])
  | succ k1 =>
   have H := HA.out
   clear HA
   simp only [credenzaref03_Top.l0] at H
   by_cases c2 : x4_1 < (l0.length : Int)
   ·rw [if_pos c2] at H
    have c2b0 : decide (x4_1 < (l0.length : Int)) = true := decide_eq_true c2
    clear c2
    by_cases c3 : 0 ≤ x4_1
    ·rw [if_pos c3] at H
     have c3b0 : decide (0 ≤ x4_1) = true := decide_eq_true c3
     clear c3
     by_cases c4 : 0 ≤ x3_1
     ·rw [if_pos c4] at H
      have c4b0 : decide (0 ≤ x3_1) = true := decide_eq_true c4
      clear c4
      by_cases c5 : x3_1 < (l0.length : Int)
      ·rw [if_pos c5] at H
       have c5b0 : decide (x3_1 < (l0.length : Int)) = true := decide_eq_true c5
       clear c5
       by_cases c6 : (rd l0 x4_1) > (rd l0 x3_1)
       ·rw [if_pos c6] at H
        have c6b0 : decide ((rd l0 x3_1) < (rd l0 x4_1)) = true := decide_eq_true c6
        clear c6
        have H' := A_ H
        clear H
        have p242 : 0 ≤ (x4_1 : Int) := od_
        have q242 : x4_1 < (l0.length : Int) := od_
        obtain ⟨ad242, e242, hx242_0⟩ := Kd.at_int HR0.out x4_1 p242 q242
        cases e242
        replace p242 := eq_true p242
        replace q242 := eq_true q242
        have p243 : 0 ≤ (x3_1 : Int) := od_
        have q243 : x3_1 < (l0.length : Int) := od_
        obtain ⟨ad243, e243, hx243_0⟩ := Kd.at_int HR0.out x3_1 p243 q243
        obtain rfl : ad242 = ad243 := (by injection e243)
        replace p243 := eq_true p243
        replace q243 := eq_true q243
        go_wp2
        repeat (go_quiet (fail); try go_wp2)
        go_roundg k1
        case measure => have := HK1.out; omega
        case rel => exact ⟨(x4_1), (wrap64 (x4_1 + 1)), rs_, rs_, H', ⟨by have := HK1.out; omega⟩, d0_⟩
       ·rw [if_neg c6] at H
        have c6b0 : decide ((rd l0 x3_1) < (rd l0 x4_1)) = false := decide_eq_false c6
        clear c6
        have H' := A_ H
        clear H
        have p242 : 0 ≤ (x4_1 : Int) := od_
        have q242 : x4_1 < (l0.length : Int) := od_
        obtain ⟨ad242, e242, hx242_0⟩ := Kd.at_int HR0.out x4_1 p242 q242
        cases e242
        replace p242 := eq_true p242
        replace q242 := eq_true q242
        have p243 : 0 ≤ (x3_1 : Int) := od_
        have q243 : x3_1 < (l0.length : Int) := od_
        obtain ⟨ad243, e243, hx243_0⟩ := Kd.at_int HR0.out x3_1 p243 q243
        obtain rfl : ad242 = ad243 := (by injection e243)
        replace p243 := eq_true p243
        replace q243 := eq_true q243
        go_wp2
        repeat (go_quiet (fail); try go_wp2)
        go_roundg k1
        case measure => have := HK1.out; omega
        case rel => exact ⟨(x3_1), (wrap64 (x4_1 + 1)), rs_, rs_, H', ⟨by have := HK1.out; omega⟩, d0_⟩
      ·rw [if_neg c5] at H
       exact absurd H (by simp)
     ·rw [if_neg c4] at H
      exact absurd H (by simp)
    ·rw [if_neg c3] at H
     exact absurd H (by simp)
   ·rw [if_neg c2] at H
    have c2b0 : decide (x4_1 < (l0.length : Int)) = false := decide_eq_false c2
    clear c2
    obtain rfl := Option.some.inj H
    go_wp2
    repeat (go_quiet (fail); try go_wp2)
    go_ret
    exact ⟨rs_, d0_⟩
def credenzaref02_Exp.j0 : Nat → Int → Option (Int)
 | 0, _ => none
 | k + 1, x0 => (credenzaref01_Ratio.f (wrap64 ((wrap64 (x0)) * 94548)) 65536).bind fun t247 => ((credenzaref01_Floor.f t247 65536).bind fun t248 => (if (wrap64 (-t248)) > 62 then (some 0) else ((credenzaref01_Half.f k (wrap64 (65536 + (wrap64 (Int.tdiv (wrap64 ((wrap64 (t247 - (wrap64 (t248 * 65536)))) * (wrap64 (45613 + (wrap64 (Int.tdiv (wrap64 ((wrap64 (t247 - (wrap64 (t248 * 65536)))) * (wrap64 (14743 + (wrap64 (Int.tdiv (wrap64 ((wrap64 (t247 - (wrap64 (t248 * 65536)))) * 5180)) 65536)))))) 65536)))))) 65536)))) (wrap64 (-t248))).bind fun t249 => (some t249))))
def credenzaref02_Exp.f (k : Nat) (a0 : Int) : Option (Int) := if a0 > 0 then (credenzaref02_Exp.j0 k 0) else (credenzaref02_Exp.j0 k a0)
theorem credenzaref02_Exp.calls (k : Nat) (a0 : Int) (r : Int) (w : World) (h : credenzaref02_Exp.f k a0 = some r) :
  Calls Try.prog 55 #[.int .i32 a0] w fun e w' => e = .returned (.int .i64 r) ∧ Drawn0 w w' := by
 have H := h
 unfold credenzaref02_Exp.f at H
 clear h
 have HC2 := A_ H
 clear H
 go_enter Try.func55, Try.ntmps55
 go_upto_if 8 with (fail)
 go_cut [0] (fun v0 wc => ∃ (kq : Nat) (x0_1 : Int), v0 = .int .i32 x0_1 ∧ Aside0 (credenzaref02_Exp.j0 kq x0_1 = some r) ∧ Aside0 (kq ≤ k) ∧ Drawn0 w wc)
 case first =>
  have H := HC2.out
  clear HC2
  by_cases c3 : a0 > 0
  ·rw [if_pos c3] at H
   have c3b0 : decide (0 < a0) = true := decide_eq_true c3
   clear c3
   (first | rw [c3b0] | (simp only [i64_w, i32_w]; rw [c3b0]) | skip)
   have H' := A_ H
   clear H
   go_wp2
   go_meet
   case rel => exact ⟨_, (0), rs_, H', ⟨by first | omega | exact Nat.le_refl _⟩, d0_⟩
  ·rw [if_neg c3] at H
   have c3b0 : decide (0 < a0) = false := decide_eq_false c3
   clear c3
   (first | rw [c3b0] | (simp only [i64_w, i32_w]; rw [c3b0]) | skip)
   have H' := A_ H
   clear H
   go_wp2
   go_meet
   case rel => exact ⟨_, (a0), rs_, H', ⟨by first | omega | exact Nat.le_refl _⟩, d0_⟩
 case rest =>
  clear HC2
  obtain ⟨kq, x0_1, rfl, HA, HJ1, ⟨mc1, rfl⟩⟩ := hcut
  cases kq with
  | zero => exact absurd HA.out (by simp [credenzaref02_Exp.j0])
  | succ kj1 =>
   have H := HA.out
   clear HA
   simp only [credenzaref02_Exp.j0] at H
   replace H := ob_ H
   obtain ⟨t247, A4, H⟩ := H
   try dsimp only at H
   replace H := ob_ H
   obtain ⟨t248, A5, H⟩ := H
   try dsimp only at H
   by_cases c6 : (wrap64 (-t248)) > 62
   ·rw [if_pos c6] at H
    have c6b0 : decide (62 < (wrap64 (-t248))) = true := decide_eq_true c6
    clear c6
    obtain rfl := Option.some.inj H
    go_wp2_with (first | (refine goesL_ (some 12) rfl rfl Try.func29 (by kernel_rfl) rfl #[.int .i64 (wrap64 ((wrap64 (x0_1)) * 94548)), .int .i64 65536] rfl ar_ ?_; (with_reducible refine (credenzaref01_Ratio.calls (wrap64 ((wrap64 (x0_1)) * 94548)) 65536 t247 _ A4.out).mono ?_); rintro e w' ⟨rfl, ⟨nd, rfl⟩⟩; refine ⟨_, rfl, ?_⟩) | (refine goesL_ (some 14) rfl rfl Try.func51 (by kernel_rfl) rfl #[.int .i64 t247, .int .i64 65536] rfl ar_ ?_; (with_reducible refine (credenzaref01_Floor.calls t247 65536 t248 _ A5.out).mono ?_); rintro e w' ⟨rfl, ⟨nd, rfl⟩⟩; refine ⟨_, rfl, ?_⟩))
    go_ret
    exact ⟨rs_, d0_⟩
   ·rw [if_neg c6] at H
    have c6b0 : decide (62 < (wrap64 (-t248))) = false := decide_eq_false c6
    clear c6
    replace H := ob_ H
    obtain ⟨t249, A7, H⟩ := H
    try dsimp only at H
    obtain rfl := Option.some.inj H
    go_wp2_with (first | (refine goesL_ (some 12) rfl rfl Try.func29 (by kernel_rfl) rfl #[.int .i64 (wrap64 ((wrap64 (x0_1)) * 94548)), .int .i64 65536] rfl ar_ ?_; (with_reducible refine (credenzaref01_Ratio.calls (wrap64 ((wrap64 (x0_1)) * 94548)) 65536 t247 _ A4.out).mono ?_); rintro e w' ⟨rfl, ⟨nd, rfl⟩⟩; refine ⟨_, rfl, ?_⟩) | (refine goesL_ (some 14) rfl rfl Try.func51 (by kernel_rfl) rfl #[.int .i64 t247, .int .i64 65536] rfl ar_ ?_; (with_reducible refine (credenzaref01_Floor.calls t247 65536 t248 _ A5.out).mono ?_); rintro e w' ⟨rfl, ⟨nd, rfl⟩⟩; refine ⟨_, rfl, ?_⟩) | (refine goesL_ (some 37) rfl rfl Try.func73 (by kernel_rfl) rfl #[.int .i64 (wrap64 (65536 + (wrap64 (Int.tdiv (wrap64 ((wrap64 (t247 - (wrap64 (t248 * 65536)))) * (wrap64 (45613 + (wrap64 (Int.tdiv (wrap64 ((wrap64 (t247 - (wrap64 (t248 * 65536)))) * (wrap64 (14743 + (wrap64 (Int.tdiv (wrap64 ((wrap64 (t247 - (wrap64 (t248 * 65536)))) * 5180)) 65536)))))) 65536)))))) 65536)))), .int .i64 (wrap64 (-t248))] rfl ar_ ?_; (with_reducible refine (credenzaref01_Half.calls kj1 (wrap64 (65536 + (wrap64 (Int.tdiv (wrap64 ((wrap64 (t247 - (wrap64 (t248 * 65536)))) * (wrap64 (45613 + (wrap64 (Int.tdiv (wrap64 ((wrap64 (t247 - (wrap64 (t248 * 65536)))) * (wrap64 (14743 + (wrap64 (Int.tdiv (wrap64 ((wrap64 (t247 - (wrap64 (t248 * 65536)))) * 5180)) 65536)))))) 65536)))))) 65536)))) (wrap64 (-t248)) t249 _ A7.out).mono ?_); rintro e w' ⟨rfl, ⟨nd, rfl⟩⟩; refine ⟨_, rfl, ?_⟩))
    go_ret
    exact ⟨rs_, d0_⟩
def credenzaref04_Weights.l0 : Nat → List Int → Int → List Int → Int → Option (List Int)
 | 0, _, _, _, _ => none
 | k + 1, x0, x3, x4, x5 => if x5 < (x0.length : Int) then (if 0 ≤ x5 then ((credenzaref01_Wide.f (wrap64 ((wrap64 (rd x0 x5)) - (wrap64 (x3))))).bind fun t253 => ((credenzaref02_Exp.f k t253).bind fun t254 => (if x4.length < 17592186044416 then (credenzaref04_Weights.l0 k x0 x3 (x4 ++ [t254]) (wrap64 (x5 + 1))) else (none)))) else (none)) else (some x4)
def credenzaref04_Weights.f (k : Nat) (l0 : List Int) : Option (List Int) := (credenzaref03_Top.f k l0).bind fun t250 => (if 0 ≤ t250 then (if t250 < (l0.length : Int) then (credenzaref04_Weights.l0 k l0 (rd l0 t250) ([] : List Int) 0) else (none)) else (none))
theorem credenzaref04_Weights.calls (k : Nat) (A0 : Option Addr) (c0 : Nat) (l0 : List Int) (r : List Int) (w : World) (hr0 : Kd.C (Kd.int .i32) w A0 l0.length l0) (hc0 : l0.length ≤ c0) (h : credenzaref04_Weights.f k l0 = some r) :
  Calls Try.prog 33 #[.slice A0 l0.length c0] w fun e w' => ∃ v0_ : Value, e = .returned (v0_) ∧ Kd.R (Kd.int .i64) 3 w' w.heap.size (fun _ => True) v0_ r ∧ Below w.heap.size w w' := by
 have HR0 := A_ hr0
 have HC0 := A_ hc0
 clear hr0 hc0
 have HB := A_ (Below.refl w.heap.size w)
 have H := h
 unfold credenzaref04_Weights.f at H
 clear h
 replace H := ob_ H
 obtain ⟨t250, A2, H⟩ := H
 try dsimp only at H
 by_cases c3 : 0 ≤ t250
 ·rw [if_pos c3] at H
  have c3b0 : decide (0 ≤ t250) = true := decide_eq_true c3
  clear c3
  by_cases c4 : t250 < (l0.length : Int)
  ·rw [if_pos c4] at H
   have c4b0 : decide (t250 < (l0.length : Int)) = true := decide_eq_true c4
   clear c4
   have H' := A_ H
   clear H
   go_enter Try.func33, Try.ntmps33
   go_wp2_with (first | (refine goesL_ (some 8) rfl rfl Try.func54 (by kernel_rfl) rfl #[.slice A0 l0.length c0] rfl ar_ ?_; (with_reducible refine (credenzaref03_Top.calls k _ _ l0 t250 _ ?side1 ?side2 A2.out).mono ?_); (case side1 => exact cb_ HR0.out); (case side2 => exact HC0.out); rintro e w' ⟨rfl, ⟨nd, rfl⟩⟩; refine ⟨_, rfl, ?_⟩; have p251 : 0 ≤ (t250 : Int) := od_; have q251 : t250 < (l0.length : Int) := od_; obtain ⟨ad251, e251, hx251_0⟩ := Kd.at_int HR0.out t250 p251 q251; cases e251; replace p251 := eq_true p251; replace q251 := eq_true q251))
   go_loopg [4, 5] k (fun kq v4 v5 w' => ∃ (x4_1 : List Int) (x5_1 : Int), v5 = .int .i64 x5_1 ∧ Aside0 (credenzaref04_Weights.l0 kq l0 (rd l0 t250) x4_1 x5_1 = some r) ∧ Aside0 (kq ≤ k) ∧ Aside0 (Kd.R (Kd.int .i64) 3 w' w.heap.size (fun _ => True) v4 x4_1) ∧ Aside0 (Below w.heap.size w w'))
   case atStart => exact ⟨(([] : List Int)), (0), rs_, H', ⟨Nat.le_refl _⟩, ⟨nil_⟩, ⟨bl_⟩⟩
   case round =>
    clear H'
    obtain ⟨x4_1, x5_1, rfl, HA, HK1, HO_4, HB⟩ := hrel
    cases gk with
    | zero => exact absurd HA.out (by simp [credenzaref04_Weights.l0])
    | succ k1 =>
     have H := HA.out
     clear HA
     simp only [credenzaref04_Weights.l0] at H
     by_cases c5 : x5_1 < (l0.length : Int)
     ·rw [if_pos c5] at H
      have c5b0 : decide (x5_1 < (l0.length : Int)) = true := decide_eq_true c5
      clear c5
      by_cases c6 : 0 ≤ x5_1
      ·rw [if_pos c6] at H
       have c6b0 : decide (0 ≤ x5_1) = true := decide_eq_true c6
       clear c6
       replace H := ob_ H
       obtain ⟨t253, A7, H⟩ := H
       try dsimp only at H
       replace H := ob_ H
       obtain ⟨t254, A8, H⟩ := H
       try dsimp only at H
       by_cases c9 : x4_1.length < 17592186044416
       ·rw [if_pos c9] at H
        have LMc9 := A_ c9
        clear c9
        obtain ⟨y255, hy255⟩ : ∃ y_ : List Int, y_ = (x4_1 ++ [t254]) := ⟨_, rfl⟩
        replace H : (credenzaref04_Weights.l0 k1 l0 (rd l0 t250) y255 (wrap64 (x5_1 + 1))) = some r := hy_ hy255 H
        have Ny255 := A_ hy255
        clear hy255
        have H' := A_ H
        clear H
        have p252 : 0 ≤ (x5_1 : Int) := od_
        have q252 : x5_1 < (l0.length : Int) := od_
        obtain ⟨ad252, e252, hx252_0⟩ := Kd.at_int HR0.out x5_1 p252 q252
        obtain rfl : ad251 = ad252 := (by injection e252)
        replace hx252_0 := hc_ HB.out hx252_0
        replace p252 := eq_true p252
        replace q252 := eq_true q252
        go_wp2_with (first | (refine goesL_ (some 26) rfl rfl Try.func28 (by kernel_rfl) rfl #[.int .i64 (wrap64 ((wrap64 (rd l0 x5_1)) - (wrap64 ((rd l0 t250)))))] rfl ar_ ?_; (with_reducible refine (credenzaref01_Wide.calls (wrap64 ((wrap64 (rd l0 x5_1)) - (wrap64 ((rd l0 t250))))) t253 _ A7.out).mono ?_); rintro e w' ⟨rfl, ⟨nd, rfl⟩⟩; refine ⟨_, rfl, ?_⟩) | (refine goesL_ (some 27) rfl rfl Try.func55 (by kernel_rfl) rfl #[.int .i32 t253] rfl ar_ ?_; (with_reducible refine (credenzaref02_Exp.calls k1 t253 t254 _ A8.out).mono ?_); rintro e w' ⟨rfl, ⟨nd, rfl⟩⟩; refine ⟨_, rfl, ?_⟩) | ((with_reducible refine gate_builtin (b := .append) (xs := #[.tmp 17, .tmp 28]) rfl ?_); at_builtin; refine Kd.R_append (Kd.int .i64) (w0 := w) w.heap.size rfl (.tmp 17) (.tmp 28) 66 3 (.int .i64 0) 8 rfl Try.underlying66 info3 rfl (by decide) (by omega) u4 x4_1 t254 [.int .i64 t254] (fun _ => True) (fun _ => False) rfl rfl ?aP (fun _ hk => hk.elim) ?aF ?aO ?aB ?aS ?aL ?_; (case aP => exact rfl); (case aB => exact bl_); (case aF => exact (fun _ _ => trivial)); (case aO => exact (mv_ HO_4.out)); (case aS => exact (below_size bl_)); (case aL => have := LMc9.out; omega); intro v256 w10 ho hb hg hat; rw [← Ny255.out] at ho; have HO257 := A_ ho; replace HB := A_ hb; clear HO_4 ho hb hg hat))
        go_roundg k1
        case measure => have := HK1.out; omega
        case rel => exact ⟨(y255), (wrap64 (x5_1 + 1)), rs_, H', ⟨by have := HK1.out; omega⟩, ⟨mv_ HO257.out⟩, ⟨bl_⟩⟩
       ·rw [if_neg c9] at H
        exact absurd H (by simp)
      ·rw [if_neg c6] at H
       exact absurd H (by simp)
     ·rw [if_neg c5] at H
      have c5b0 : decide (x5_1 < (l0.length : Int)) = false := decide_eq_false c5
      clear c5
      obtain rfl := Option.some.inj H
      go_wp2
      go_ret
      exact ⟨_, ew_, by (with_reducible repeat (first | apply Kd.R_alloc | apply Kd.R_drewN | apply Kd.R_drew)); exact HO_4.out, bl_⟩
  ·rw [if_neg c4] at H
   exact absurd H (by simp)
 ·rw [if_neg c3] at H
  exact absurd H (by simp)
end Go.Proofs.Yteflolamihhmdaa.Q

namespace Go.Proofs.Yteflolamihhmdaa.Pure
open Go.RowKit Go.Proofs.Yteflolamihhmdaa.Q Go.Proofs.YteflolamihhmdaaW.PrintWords Go.Proofs.YteflolamihhmdaaW.PrintLast
def of2R (f : Int) : Int := 65536 + f * (45613 + f * (14743 + f * 5180 / 65536) / 65536) / 65536
theorem of2_bd {f : Int} (h1 : 0 ≤ f) (h2 : f ≤ 65535) : 0 ≤ f * 5180 / 65536 ∧ f * 5180 / 65536 ≤ 5180 ∧ 0 ≤ f * (14743 + f * 5180 / 65536) ∧ f * (14743 + f * 5180 / 65536) ≤ 1305653805 ∧ 0 ≤ f * (14743 + f * 5180 / 65536) / 65536 ∧ f * (14743 + f * 5180 / 65536) / 65536 ≤ 19923 ∧
  0 ≤ f * (45613 + f * (14743 + f * 5180 / 65536) / 65536) ∧ f * (45613 + f * (14743 + f * 5180 / 65536) / 65536) ≤ 4294901760 ∧ 65536 ≤ of2R f ∧ of2R f ≤ 131071 := by
 have a1 : 0 ≤ f * 5180 / 65536 ∧ f * 5180 / 65536 ≤ 5180 := by omega
 unfold of2R
 generalize f * 5180 / 65536 = u at *
 have a2 : 0 ≤ f * (14743 + u) ∧ f * (14743 + u) ≤ 65535 * (14743 + 5180) := ⟨Int.mul_nonneg (by omega) (by omega), Int.mul_le_mul (by omega) (by omega) (by omega) (by omega)⟩
 generalize f * (14743 + u) = v at *
 have a3 : 0 ≤ v / 65536 ∧ v / 65536 ≤ 19923 := by omega
 generalize v / 65536 = z at *
 have a4 : 0 ≤ f * (45613 + z) ∧ f * (45613 + z) ≤ 65535 * (45613 + 19923) := ⟨Int.mul_nonneg (by omega) (by omega), Int.mul_le_mul (by omega) (by omega) (by omega) (by omega)⟩
 generalize f * (45613 + z) = y at *
 omega
def expT (x : Int) : Int := rnd ((if x < 0 then x else 0) * 94548) 65536
def expR (x : Int) : Int := if 62 < -(expT x / 65536) then 0 else rnd (of2R (expT x % 65536)) (2 ^ (-(expT x / 65536)).toNat)
theorem expT_bd {x : Int} (hx : I32 x) : -4611686018427387904 ≤ (if x < 0 then x else 0) * 94548 ∧ (if x < 0 then x else 0) * 94548 ≤ 0 ∧ -4000000000 ≤ expT x ∧ expT x ≤ 0 := by
 unfold I32 at hx
 unfold expT rnd
 generalize hm : (if x < 0 then x else 0) = m
 have h1 : -2147483648 ≤ m ∧ m ≤ 0 := by rw [← hm]; split <;> omega
 refine ⟨by omega, by omega, ?_, ?_⟩ <;> split <;> omega
theorem emod_eq (t : Int) : t - t / 65536 * 65536 = t % 65536 := by omega
theorem expo_of2_some {f : Int} (h1 : 0 ≤ f) (h2 : f ≤ 65535) : expo_of2.f f = some (of2R f) := by
 obtain ⟨a1, a2, a3, a4, a5, a6, a7, a8, a9, a10⟩ := of2_bd h1 h2
 have e1 : wrap64 (f * 5180) = f * 5180 := w64 (by omega) (by omega)
 have e2 : wrap64 (14743 + f * 5180 / 65536) = 14743 + f * 5180 / 65536 := w64 (by omega) (by omega)
 have e3 : wrap64 (f * (14743 + f * 5180 / 65536)) = f * (14743 + f * 5180 / 65536) := w64 (by omega) (by omega)
 have e4 : wrap64 (45613 + f * (14743 + f * 5180 / 65536) / 65536) = 45613 + f * (14743 + f * 5180 / 65536) / 65536 := w64 (by omega) (by omega)
 have e5 : wrap64 (f * (45613 + f * (14743 + f * 5180 / 65536) / 65536)) = f * (45613 + f * (14743 + f * 5180 / 65536) / 65536) := w64 (by omega) (by omega)
 have e6 : wrap64 (of2R f) = of2R f := w64 (by omega) (by omega)
 unfold expo_of2.f
 rw [e1, e2, e3, e4, e5]
 exact congrArg some e6
theorem expo_Exp_some {x : Int} (hx : I32 x) : expo_Exp.f x = some (expR x) := by
 obtain ⟨b1, b2, b3, b4⟩ := expT_bd hx
 unfold I32 at hx
 have e0 : mn x 0 = (if x < 0 then x else 0) := by unfold mn; split <;> split <;> omega
 have e1 : wrap64 (if x < 0 then x else 0) = (if x < 0 then x else 0) := by split <;> exact w64 (by omega) (by omega)
 have e2 : wrap64 ((if x < 0 then x else 0) * 94548) = (if x < 0 then x else 0) * 94548 := w64 (by omega) (by omega)
 have e3 : fix_Half.f ((if x < 0 then x else 0) * 94548) 16 = some (expT x) := fix_Half_16 b1 (by omega)
 have e4 : wrap64 (-(expT x / 65536)) = -(expT x / 65536) := w64 (by omega) (by omega)
 have e5 : wrap64 (expT x / 65536 * 65536) = expT x / 65536 * 65536 := w64 (by omega) (by omega)
 have e6 : wrap64 (expT x - expT x / 65536 * 65536) = expT x % 65536 := by rw [w64 (by omega) (by omega), emod_eq]
 have e7 := expo_of2_some (f := expT x % 65536) (by omega) (by omega)
 have hof := (of2_bd (f := expT x % 65536) (by omega) (by omega)).2.2.2.2.2.2.2.2
 rw [expo_Exp.f, e0, e1, e2, e3, Option.bind_some, e4, expR]
 by_cases c : -(expT x / 65536) > 62
 ·rw [if_pos c, if_pos c]
 ·have e8 := fix_Half_some (a := of2R (expT x % 65536)) (n := (-(expT x / 65536)).toNat) (by omega) (by omega) (by omega)
  rw [Int.toNat_of_nonneg (by omega)] at e8
  rw [if_neg c, if_neg c, e5, e6, e7, Option.bind_some, e8, Option.bind_some]
theorem power_loop (n : Nat) (hn : n ≤ 62) : ∀ (d k p : Nat), p + d = n → d < k → credenzaref01_Power.l0 k (n : Int) (2 ^ p) (p : Int) = some (2 ^ n) := by
 intro d
 induction d with
 | zero =>
  intro k p hp hk
  obtain ⟨k, rfl⟩ : ∃ m, k = m + 1 := ⟨k - 1, by omega⟩
  obtain rfl : p = n := by omega
  rw [credenzaref01_Power.l0, if_neg (by omega)]
 | succ d ih =>
  intro k p hp hk
  obtain ⟨k, rfl⟩ : ∃ m, k = m + 1 := ⟨k - 1, by omega⟩
  have hb := pow2_bd (n := p + 1) (by omega)
  have e : wrap64 ((2 : Int) ^ p * 2) = 2 ^ (p + 1) := by rw [← Int.pow_succ]; exact w64 (by omega) (by omega)
  rw [credenzaref01_Power.l0, if_pos (by omega), e, wnext (show p < n by omega) (by omega)]
  exact ih k (p + 1) (by omega) (by omega)
theorem ref_Half_some {a : Int} {n : Nat} (hn : n ≤ 62) (ha1 : -4611686018427387904 ≤ a) (ha2 : a ≤ 4611686018427387904) {k : Nat} (hk : 63 ≤ k) : credenzaref01_Half.f k a (n : Int) = some (rnd a (2 ^ n)) := by
 obtain ⟨hp1, hp2⟩ := pow2_bd hn
 have e1 : cutR (n : Int) 0 62 = (n : Int) := by unfold cutR; rw [if_neg (by omega), if_neg (by omega)]
 have e2 : credenzaref01_Power.f k (n : Int) = some (2 ^ n) := power_loop n hn n k 0 (by omega) (by omega)
 have e3 := ref_Ratio_some (a := a) (b := 2 ^ n) (by omega) ha1 ha2 hp2
 rw [credenzaref01_Half.f, ref_Cut_some, Option.bind_some, e1, e2, Option.bind_some, e3, Option.bind_some]
theorem tdiv65536 {a : Int} (h : 0 ≤ a) : Int.tdiv a 65536 = a / 65536 := Int.tdiv_eq_ediv_of_nonneg h
theorem exp_j0 {y : Int} (hy : -2147483648 ≤ y) (hy2 : y ≤ 0) {k : Nat} (hk : 64 ≤ k) : credenzaref02_Exp.j0 k y = some (expR y) := by
 obtain ⟨k, rfl⟩ : ∃ m, k = m + 1 := ⟨k - 1, by omega⟩
 have hif : (if y < 0 then y else 0) = y := by split <;> omega
 obtain ⟨b1, b2, b3, b4⟩ := expT_bd (x := y) ⟨by omega, by omega⟩
 rw [hif] at b1 b2
 have hT : expT y = rnd (y * 94548) 65536 := by unfold expT; rw [hif]
 have e1 : wrap64 y = y := w64 (by omega) (by omega)
 have e2 : wrap64 (y * 94548) = y * 94548 := w64 (by omega) (by omega)
 have e3 : credenzaref01_Ratio.f (y * 94548) 65536 = some (expT y) := by rw [hT]; exact ref_Ratio_some (by omega) (by omega) (by omega) (by omega)
 have e3' : credenzaref01_Floor.f (expT y) 65536 = some (expT y / 65536) := ref_Floor_some (by omega) (by omega) (by omega) (by omega)
 have e4 : wrap64 (-(expT y / 65536)) = -(expT y / 65536) := w64 (by omega) (by omega)
 have e5 : wrap64 (expT y / 65536 * 65536) = expT y / 65536 * 65536 := w64 (by omega) (by omega)
 have e6 : wrap64 (expT y - expT y / 65536 * 65536) = expT y % 65536 := by rw [w64 (by omega) (by omega), emod_eq]
 have hf1 : 0 ≤ expT y % 65536 := by omega
 have hf2 : expT y % 65536 ≤ 65535 := by omega
 obtain ⟨a1, a2, a3, a4, a5, a6, a7, a8, a9, a10⟩ := of2_bd hf1 hf2
 rw [credenzaref02_Exp.j0, e1, e2, e3, Option.bind_some, e3', Option.bind_some, e4, expR]
 by_cases c : -(expT y / 65536) > 62
 ·rw [if_pos c, if_pos c]
 ·have e8 := ref_Half_some (a := of2R (expT y % 65536)) (n := (-(expT y / 65536)).toNat) (by omega) (by omega) (by omega) (k := k) (by omega)
  rw [Int.toNat_of_nonneg (by omega)] at e8
  rw [if_neg c, if_neg c, e5, e6]
  generalize expT y % 65536 = f at *
  have g1 : wrap64 (f * 5180) = f * 5180 := w64 (by omega) (by omega)
  have g2 : wrap64 (f * 5180 / 65536) = f * 5180 / 65536 := w64 (by omega) (by omega)
  have g2' : wrap64 (14743 + f * 5180 / 65536) = 14743 + f * 5180 / 65536 := w64 (by omega) (by omega)
  have g3 : wrap64 (f * (14743 + f * 5180 / 65536)) = f * (14743 + f * 5180 / 65536) := w64 (by omega) (by omega)
  have g4 : wrap64 (f * (14743 + f * 5180 / 65536) / 65536) = f * (14743 + f * 5180 / 65536) / 65536 := w64 (by omega) (by omega)
  have g4' : wrap64 (45613 + f * (14743 + f * 5180 / 65536) / 65536) = 45613 + f * (14743 + f * 5180 / 65536) / 65536 := w64 (by omega) (by omega)
  have g5 : wrap64 (f * (45613 + f * (14743 + f * 5180 / 65536) / 65536)) = f * (45613 + f * (14743 + f * 5180 / 65536) / 65536) := w64 (by omega) (by omega)
  have g6 : wrap64 (f * (45613 + f * (14743 + f * 5180 / 65536) / 65536) / 65536) = f * (45613 + f * (14743 + f * 5180 / 65536) / 65536) / 65536 := w64 (by omega) (by omega)
  have g7 : wrap64 (65536 + f * (45613 + f * (14743 + f * 5180 / 65536) / 65536) / 65536) = of2R f := w64 (by unfold of2R at a9; omega) (by unfold of2R at a10; omega)
  rw [g1, tdiv65536 (a := f * 5180) (by omega), g2, g2', g3, tdiv65536 a3, g4, g4', g5, tdiv65536 a7, g6, g7, e8, Option.bind_some]
theorem expR_pos {x : Int} (h : 0 ≤ x) : expR x = expR 0 := by
 have : expT x = expT 0 := by unfold expT; rw [if_neg (by omega), if_neg (by omega)]
 unfold expR
 rw [this]
theorem ref_Exp_some {x : Int} (hx : I32 x) {k : Nat} (hk : 64 ≤ k) : credenzaref02_Exp.f k x = some (expR x) := by
 unfold I32 at hx
 rw [credenzaref02_Exp.f]
 by_cases c : x > 0
 ·rw [if_pos c, exp_j0 (by omega) (by omega) hk, expR_pos (x := x) (by omega)]
 ·rw [if_neg c, exp_j0 (by omega) (by omega) hk]
theorem expR_0 : expR 0 = 65536 := by decide +kernel
theorem expR_bd {x : Int} (hx : I32 x) : 0 ≤ expR x ∧ expR x ≤ 131072 := by
 obtain ⟨b1, b2, b3, b4⟩ := expT_bd hx
 unfold expR
 split
 ·omega
 ·have hof := (of2_bd (f := expT x % 65536) (by omega) (by omega)).2.2.2.2.2.2.2.2
  obtain ⟨hp1, hp2⟩ := pow2_bd (n := (-(expT x / 65536)).toNat) (by omega)
  generalize (2 : Int) ^ (-(expT x / 65536)).toNat = b at *
  generalize of2R (expT x % 65536) = a at *
  have h1 := div_bd (a := a) (b := b) (by omega) 131071 (by omega) (by omega)
  have h2 : 0 ≤ a / b := Int.ediv_nonneg (by omega) (by omega)
  unfold rnd
  split <;> omega
def topR : List Int → Int
 | [] => 0
 | x :: xs => xs.foldl (fun a b => if a < b then b else a) x
theorem mx_eq (a b : Int) : mx a b = if a < b then b else a := rfl
theorem fold_take {l : List Int} {p : Nat} (h : p < l.length) (h0 : 0 < p) : topR (l.take (p + 1)) = if topR (l.take p) < rd l (p : Int) then rd l (p : Int) else topR (l.take p) := by
 rw [take_rd h]
 cases hl : l.take p with
 | nil =>
  have h3 : (l.take p).length = 0 := by rw [hl]; rfl
  rw [List.length_take] at h3
  omega
 | cons x xs =>
  simp only [topR, List.cons_append, List.foldl_append, List.foldl_cons, List.foldl_nil]
  exact ite_congr rfl (fun _ => rfl) (fun _ => rfl)
theorem max_loop (l : List Int) (hl : l.length ≤ 1000000) : ∀ (d k p : Nat), p + d = l.length → d < k → 0 < p → slices_Max_int32_int32.l0 k l (topR (l.take p)) (p : Int) = some (topR l) := by
 intro d
 induction d with
 | zero =>
  intro k p hp hk h0
  obtain ⟨k, rfl⟩ : ∃ m, k = m + 1 := ⟨k - 1, by omega⟩
  rw [slices_Max_int32_int32.l0, if_neg (by omega), List.take_of_length_le (by omega)]
 | succ d ih =>
  intro k p hp hk h0
  obtain ⟨k, rfl⟩ : ∃ m, k = m + 1 := ⟨k - 1, by omega⟩
  have hlt : p < l.length := by omega
  rw [slices_Max_int32_int32.l0, if_pos (by omega), if_pos (by omega), mx_eq, ← fold_take hlt h0, wnext hlt (by omega)]
  exact ih k (p + 1) (by omega) (by omega) (by omega)
theorem take_one {l : List Int} (h : 0 < l.length) : topR (l.take 1) = rd l 0 := by
 cases l with
 | nil => simp at h
 | cons x xs => simp [topR, rd]
theorem max_some {l : List Int} (h : 0 < l.length) (hl : l.length ≤ 1000000) {k : Nat} (hk : l.length < k) : slices_Max_int32_int32.f k l = some (topR l) := by
 rw [slices_Max_int32_int32.f, if_neg (by omega), if_pos (by omega), ← take_one h]
 exact max_loop l hl (l.length - 1) k 1 (by omega) (by omega) (by omega)
theorem index_some (l : List Int) (a : Int) (hl : l.length ≤ 1000000) : ∀ (d k p : Nat), p + d = l.length → d < k → ∃ r, slices_Index_int32_int32.l0 k l a (l.length : Int) (p : Int) = some r := by
 intro d
 induction d with
 | zero =>
  intro k p hp hk
  obtain ⟨k, rfl⟩ : ∃ m, k = m + 1 := ⟨k - 1, by omega⟩
  exact ⟨_, by rw [slices_Index_int32_int32.l0, if_neg (by omega)]⟩
 | succ d ih =>
  intro k p hp hk
  obtain ⟨k, rfl⟩ : ∃ m, k = m + 1 := ⟨k - 1, by omega⟩
  have hlt : p < l.length := by omega
  rw [slices_Index_int32_int32.l0, if_pos (by omega), if_pos (by omega), if_pos (by omega)]
  by_cases c : a = rd l (p : Int)
  ·exact ⟨_, by rw [if_pos c]⟩
  ·rw [if_neg c, wnext hlt (by omega)]
   exact ih k (p + 1) (by omega) (by omega)
theorem dot_Top_some {l : List Int} (h : 0 < l.length) (hl : l.length ≤ 1000000) {k : Nat} (hk : l.length < k) : ∃ r, dot_Top.f k l = some (r, topR l, 0) := by
 obtain ⟨r, hr⟩ := index_some l (topR l) hl l.length k 0 (by omega) hk
 have hr' : slices_Index_int32_int32.f k l (topR l) = some r := hr
 exact ⟨r, by rw [dot_Top.f, if_neg (by omega), max_some h hl hk, Option.bind_some, hr', Option.bind_some]⟩
theorem ref_top_loop (l : List Int) (hl : l.length ≤ 1000000) : ∀ (d k p q : Nat), p + d = l.length → d < k → 0 < p → q < p → rd l (q : Int) = topR (l.take p) → ∃ r : Nat, r < l.length ∧ credenzaref03_Top.l0 k l (q : Int) (p : Int) = some (r : Int) ∧ rd l (r : Int) = topR l := by
 intro d
 induction d with
 | zero =>
  intro k p q hp hk h0 hq h
  obtain ⟨k, rfl⟩ : ∃ m, k = m + 1 := ⟨k - 1, by omega⟩
  exact ⟨q, by omega, by rw [credenzaref03_Top.l0, if_neg (by omega)], by rw [h, List.take_of_length_le (by omega)]⟩
 | succ d ih =>
  intro k p q hp hk h0 hq h
  obtain ⟨k, rfl⟩ : ∃ m, k = m + 1 := ⟨k - 1, by omega⟩
  have hlt : p < l.length := by omega
  have hf := fold_take hlt h0
  rw [credenzaref03_Top.l0, if_pos (by omega), if_pos (by omega), if_pos (by omega), if_pos (by omega), wnext hlt (by omega)]
  by_cases c : rd l (p : Int) > rd l (q : Int)
  ·rw [if_pos c]
   exact ih k (p + 1) p (by omega) (by omega) (by omega) (by omega) (by rw [hf, if_pos (by omega)])
  ·rw [if_neg c]
   exact ih k (p + 1) q (by omega) (by omega) (by omega) (by omega) (by rw [hf, if_neg (by omega), h])
theorem ref_Top_some {l : List Int} (h : 0 < l.length) (hl : l.length ≤ 1000000) {k : Nat} (hk : l.length < k) : ∃ r : Nat, r < l.length ∧ credenzaref03_Top.f k l = some (r : Int) ∧ rd l (r : Int) = topR l := by
 obtain ⟨k, rfl⟩ : ∃ m, k = m + 1 := ⟨k - 1, by omega⟩
 have := ref_top_loop l hl (l.length - 1) k 1 0 (by omega) (by omega) (by omega) (by omega) (take_one h).symm
 rw [credenzaref03_Top.f, credenzaref03_Top.l0, if_pos (by omega), if_pos (by omega), if_pos (by omega), if_pos (by omega), if_neg (by simp), show wrap64 ((0 : Int) + 1) = ((1 : Nat) : Int) from w64 (by omega) (by omega)]
 exact this
def wR (top x : Int) : Int := expR (wideR (x - top))
def weightsR (l : List Int) : List Int := l.map (wR (topR l))
theorem topR_key {l : List Int} (hh : 0 < l.length) : ∀ p : Nat, 0 < p → p ≤ l.length → ∃ r : Nat, r < p ∧ rd l (r : Int) = topR (l.take p) := by
 intro p
 induction p with
 | zero => intro h0; omega
 | succ p ih =>
  intro _ hp
  by_cases c : p = 0
  ·subst c
   exact ⟨0, by omega, (take_one hh).symm⟩
  ·obtain ⟨r, hr, e⟩ := ih (by omega) (by omega)
   have hf := fold_take (l := l) (p := p) (by omega) (by omega)
   by_cases c2 : topR (l.take p) < rd l (p : Int)
   ·exact ⟨p, by omega, by rw [hf, if_pos c2]⟩
   ·exact ⟨r, by omega, by rw [hf, if_neg c2, e]⟩
theorem topR_mem {l : List Int} (h : 0 < l.length) : topR l ∈ l := by
 obtain ⟨r, hr, e⟩ := topR_key h l.length h (Nat.le_refl _)
 rw [List.take_length] at e
 rw [← e]
 exact rd_mem hr
theorem w_loop (l : List Int) (top : Int) (ht : I32 top) (hl : l.length ≤ 1000000) (hw : A32 l) : ∀ (d k p : Nat), p + d = l.length → d < k → soft_Weights.l0 k top ((l.take p).map (wR top)) l (l.length : Int) (p : Int) = some (l.map (wR top), 0) := by
 intro d
 unfold I32 at ht
 induction d with
 | zero =>
  intro k p hp hk
  obtain ⟨k, rfl⟩ : ∃ m, k = m + 1 := ⟨k - 1, by omega⟩
  rw [soft_Weights.l0, if_neg (by omega), List.take_of_length_le (by omega)]
 | succ d ih =>
  intro k p hp hk
  obtain ⟨k, rfl⟩ : ∃ m, k = m + 1 := ⟨k - 1, by omega⟩
  have hlt : p < l.length := by omega
  have hx := hw _ (rd_mem hlt)
  unfold I32 at hx
  have hwd := wideR_bd (rd l (p : Int) - top)
  have e1 : fix_Sub.f (rd l (p : Int)) top = some (wideR (rd l (p : Int) - top)) := by
   rw [fix_Sub.f, w64 (x := rd l (p : Int)) (by omega) (by omega), w64 (x := top) (by omega) (by omega), w64 (x := rd l (p : Int) - top) (by omega) (by omega), fix_Wide_some, Option.bind_some]
  have e2 := expo_Exp_some (x := wideR (rd l (p : Int) - top)) hwd
  have e3 : (l.take p).map (wR top) ++ [expR (wideR (rd l (p : Int) - top))] = (l.take (p + 1)).map (wR top) := by rw [take_rd hlt]; simp [wR]
  rw [soft_Weights.l0, if_pos (by omega), if_pos (by omega), if_pos (by omega), e1, Option.bind_some, e2, Option.bind_some, if_pos (by simp; omega), e3, wnext hlt (by omega)]
  exact ih k (p + 1) (by omega) (by omega)
theorem soft_Weights_some {l : List Int} (h : 0 < l.length) (hl : l.length ≤ 1024) (hw : A32 l) {k : Nat} (hk : l.length < k) : soft_Weights.f k l = some (weightsR l, 0) := by
 obtain ⟨r, hr⟩ := dot_Top_some h (by omega) hk
 rw [soft_Weights.f, if_neg (by omega), hr, Option.bind_some, if_pos rfl]
 exact w_loop l (topR l) (hw _ (topR_mem h)) (by omega) hw l.length k 0 (by omega) hk
theorem ref_w_loop (l : List Int) (top : Int) (ht : I32 top) (hl : l.length ≤ 1000000) (hw : A32 l) : ∀ (d k p : Nat), p + d = l.length → d + 64 < k → credenzaref04_Weights.l0 k l top ((l.take p).map (wR top)) (p : Int) = some (l.map (wR top)) := by
 intro d
 unfold I32 at ht
 induction d with
 | zero =>
  intro k p hp hk
  obtain ⟨k, rfl⟩ : ∃ m, k = m + 1 := ⟨k - 1, by omega⟩
  rw [credenzaref04_Weights.l0, if_neg (by omega), List.take_of_length_le (by omega)]
 | succ d ih =>
  intro k p hp hk
  obtain ⟨k, rfl⟩ : ∃ m, k = m + 1 := ⟨k - 1, by omega⟩
  have hlt : p < l.length := by omega
  have hx := hw _ (rd_mem hlt)
  unfold I32 at hx
  have hwd := wideR_bd (rd l (p : Int) - top)
  have e2 := ref_Exp_some (x := wideR (rd l (p : Int) - top)) hwd (k := k) (by omega)
  have e3 : (l.take p).map (wR top) ++ [expR (wideR (rd l (p : Int) - top))] = (l.take (p + 1)).map (wR top) := by rw [take_rd hlt]; simp [wR]
  rw [credenzaref04_Weights.l0, if_pos (by omega), if_pos (by omega), w64 (x := rd l (p : Int)) (by omega) (by omega), w64 (x := top) (by omega) (by omega), w64 (x := rd l (p : Int) - top) (by omega) (by omega), ref_Wide_some, Option.bind_some, e2, Option.bind_some, if_pos (by simp; omega), e3, wnext hlt (by omega)]
  exact ih k (p + 1) (by omega) (by omega)
theorem ref_Weights_some {l : List Int} (h : 0 < l.length) (hl : l.length ≤ 1024) (hw : A32 l) {k : Nat} (hk : l.length + 64 < k) : credenzaref04_Weights.f k l = some (weightsR l) := by
 obtain ⟨r, hr, e, e2⟩ := ref_Top_some h (by omega) (k := k) (by omega)
 rw [credenzaref04_Weights.f, e, Option.bind_some, if_pos (by omega), if_pos (by omega), e2]
 exact ref_w_loop l (topR l) (hw _ (topR_mem h)) (by omega) hw l.length k 0 (by omega) (by omega)
end Go.Proofs.Yteflolamihhmdaa.Pure

namespace Go.Proofs.Yteflolamihhmdaa.Q
open Go.RowKit Go.Proofs.YteflolamihhmdaaW.PrintWords Go.Proofs.YteflolamihhmdaaW.PrintLast Go.Proofs.YteflolamihhmdaaW.PrintMore
attribute [local go_sem] max2_int min2_int max_two min_two max_three min_three max_four min_four
def attn_shaped.l0 : Nat → Int → List (List Int) → Int → Int → Option (Bool)
 | 0, _, _, _, _ => none
 | k + 1, x1, x7, x8, x9 => if x9 < x8 then (if 0 ≤ x9 then (if x9 < (x7.length : Int) then (if ((rd_L11 x7 x9).length : Int) = x1 then (attn_shaped.l0 k x1 x7 x8 (wrap64 (x9 + 1))) else (some false)) else (none)) else (none)) else (some true)
def attn_shaped.f (k : Nat) (l0 : List (List Int)) (a1 : Int) : Option (Bool) := attn_shaped.l0 k a1 l0 (l0.length : Int) 0
theorem attn_shaped.mono_l : ∀ k, (∀ y0 y1 y2 y3, LeO (attn_shaped.l0 k y0 y1 y2 y3) (attn_shaped.l0 (k + 1) y0 y1 y2 y3))
 | 0 => fun _ _ _ _ r h => by simp [attn_shaped.l0] at h
 | k + 1 => by
  have ih0 := attn_shaped.mono_l k
  ·intro y0 y1 y2 y3
   unfold attn_shaped.l0
   repeat' with_reducible first | apply ih0 | apply LeO.refl | apply LeO.none | refine LeO.ite ?_ ?_ | refine LeO.bind ?_ (fun _ => ?_)
theorem attn_shaped.mono : ∀ a0 a1 k, LeO (attn_shaped.f k a0 a1) (attn_shaped.f (k + 1) a0 a1) := by
 intro a0 a1 k
 have ih0 := attn_shaped.mono_l k
 unfold attn_shaped.f
 repeat' with_reducible first | apply ih0 | apply LeO.refl | apply LeO.none | refine LeO.ite ?_ ?_ | refine LeO.bind ?_ (fun _ => ?_)
theorem attn_shaped.calls (k : Nat) (A0 : Option Addr) (c0 : Nat) (l0 : List (List Int)) (a1 : Int) (r : Bool) (w : World) (hr0 : Kd.C (Kd.slice 21 (Kd.int .i32)) w A0 l0.length l0) (hc0 : l0.length ≤ c0) (h : attn_shaped.f k l0 a1 = some r) :
  Calls Try.prog 62 #[.slice A0 l0.length c0, .int .i64 a1] w fun e w' => e = .returned (.bool r) ∧ Drawn0 w w' := by
 have HR0 := A_ hr0
 have HC0 := A_ hc0
 clear hr0 hc0
 have H := h
 unfold attn_shaped.f at H
 clear h
 have H' := A_ H
 clear H
 go_enter Try.func62, Try.ntmps62
 go_wp2
 go_loopg [9] k (fun kq v9 w' => ∃ (x9_1 : Int), v9 = .int .i64 x9_1 ∧ Aside0 (attn_shaped.l0 kq a1 l0 (l0.length : Int) x9_1 = some r) ∧ Aside0 (kq ≤ k) ∧ Drawn0 w w')
 case atStart => exact ⟨(0), rs_, H', ⟨Nat.le_refl _⟩, d0_⟩
 case round =>
  clear H'
  obtain ⟨x9_1, rfl, HA, HK1, ⟨m1, rfl⟩⟩ := hrel
  cases gk with
  | zero => exact absurd HA.out (by simp [attn_shaped.l0])
  | succ k1 =>
   have H := HA.out
   clear HA
   simp only [attn_shaped.l0] at H
   by_cases c3 : x9_1 < (l0.length : Int)
   ·rw [if_pos c3] at H
    have c3b0 : decide (x9_1 < (l0.length : Int)) = true := decide_eq_true c3
    clear c3
    by_cases c4 : 0 ≤ x9_1
    ·rw [if_pos c4] at H
     have c4b0 : decide (0 ≤ x9_1) = true := decide_eq_true c4
     clear c4
     by_cases c5 : x9_1 < (l0.length : Int)
     ·rw [if_pos c5] at H
      have c5b0 : decide (x9_1 < (l0.length : Int)) = true := decide_eq_true c5
      clear c5
      by_cases c6 : ((rd_L11 l0 x9_1).length : Int) = a1
      ·rw [if_pos c6] at H
       have c6b0 : (((rd_L11 l0 x9_1).length : Int) == a1) = true := beq_iff_eq.mpr c6
       have c6b1 : (((rd_L11 l0 x9_1).length : Int) != a1) = false := bne_eq_false_iff_eq.mpr c6
       clear c6
       have H' := A_ H
       clear H
       have p133 : 0 ≤ (x9_1 : Int) := od_
       have q133 : x9_1 < (l0.length : Int) := od_
       obtain ⟨ad133, A133_0, c133_0, e133, hx133_0, hl133_0, hi133_0⟩ := at_L11 HR0.out x9_1 p133 q133
       cases e133
       have HR133_0 := A_ hi133_0
       have HC133_0 := A_ hl133_0
       clear hi133_0 hl133_0
       replace p133 := eq_true p133
       replace q133 := eq_true q133
       go_wp2
       go_roundg k1
       case measure => have := HK1.out; omega
       case rel => exact ⟨(wrap64 (x9_1 + 1)), rs_, H', ⟨by have := HK1.out; omega⟩, d0_⟩
      ·rw [if_neg c6] at H
       have c6b0 : (((rd_L11 l0 x9_1).length : Int) == a1) = false := beq_eq_false_iff_ne.mpr c6
       have c6b1 : (((rd_L11 l0 x9_1).length : Int) != a1) = true := bne_iff_ne.mpr c6
       obtain rfl := Option.some.inj H
       have p133 : 0 ≤ (x9_1 : Int) := od_
       have q133 : x9_1 < (l0.length : Int) := od_
       obtain ⟨ad133, A133_0, c133_0, e133, hx133_0, hl133_0, hi133_0⟩ := at_L11 HR0.out x9_1 p133 q133
       cases e133
       have HR133_0 := A_ hi133_0
       have HC133_0 := A_ hl133_0
       clear hi133_0 hl133_0
       replace p133 := eq_true p133
       replace q133 := eq_true q133
       go_wp2
       go_ret
       exact ⟨rs_, d0_⟩
     ·rw [if_neg c5] at H
      exact absurd H (by simp)
    ·rw [if_neg c4] at H
     exact absurd H (by simp)
   ·rw [if_neg c3] at H
    have c3b0 : decide (x9_1 < (l0.length : Int)) = false := decide_eq_false c3
    clear c3
    obtain rfl := Option.some.inj H
    go_wp2
    go_ret
    exact ⟨rs_, d0_⟩
def attn_right.f (k : Nat) (q : List Int) (keys vals : List (List Int)) : Option Int :=
 if keys.length = 0 then some 14 else if 1024 < keys.length then some 12 else
 if keys.length = vals.length then (attn_sized.f ((keys.getD 0 []).length : Int)).bind fun b => if b = true then
  (if q.length = (keys.getD 0 []).length then (attn_shaped.f k keys ((keys.getD 0 []).length : Int)).bind fun b2 => if b2 = true then
   (attn_shaped.f k vals ((keys.getD 0 []).length : Int)).bind fun b3 => if b3 = true then some 0 else some 25
  else some 25 else some 25) else some 25
 else some 25
theorem attn_row_at {w : World} {A : Option Addr} {n : Nat} {xs : List (List Int)} (h : Kd.C (Kd.slice 21 (Kd.int .i32)) w A n xs) (t : Nat) (ht : t < n) : ∃ ad A0 c0, A = some ad ∧ w.cell? (ad.add t) = some (.slice A0 (xs.getD t []).length c0) ∧ (xs.getD t []).length ≤ c0 ∧ Kd.C (Kd.int .i32) w A0 (xs.getD t []).length (xs.getD t []) := by
 obtain ⟨ad, c, e, hc, ⟨A0, c0, rfl, hl, hr⟩, hcell⟩ := Kd.C_get h [] (t : Int) (by omega) (by omega)
 simp only [Int.toNat_natCast] at hl hr hcell
 refine ⟨ad, A0, c0, e, ?_, hl, hr⟩
 have := hcell 0 (.slice A0 (xs.getD t []).length c0) (by simp)
 simpa [Kd.slice] using this
theorem attn_right.calls (k : Nat) (Aq : Option Addr) (cq : Nat) (q : List Int) (Ak : Option Addr) (ck : Nat) (keys : List (List Int)) (Av : Option Addr) (cv : Nat) (vals : List (List Int)) (r : Int) (w : World)
  (hk : Kd.C (Kd.slice 21 (Kd.int .i32)) w Ak keys.length keys) (hck : keys.length ≤ ck) (hv : Kd.C (Kd.slice 21 (Kd.int .i32)) w Av vals.length vals) (hcv : vals.length ≤ cv)
  (h : attn_right.f k q keys vals = some r) :
  Calls Try.prog 39 #[.slice Aq q.length cq, .slice none 0 0, .slice Ak keys.length ck, .slice Av vals.length cv] w fun e w' => e = .returned (.int .i64 r) ∧ Below w.heap.size w w' := by
 have HK := A_ hk
 have HV := A_ hv
 have HCK := A_ hck
 have HCV := A_ hcv
 have hkl : keys.length ≤ 9223372036854775807 := hk.2.1
 clear hk hv hck hcv
 unfold attn_right.f at h
 by_cases c1 : keys.length = 0
 ·rw [if_pos c1] at h
  obtain rfl := Option.some.inj h
  clear h
  have c1b : ((keys.length : Int) == 0) = true := by rw [beq_iff_eq]; omega
  clear c1
  go_enter Try.func39, Try.ntmps39
  go_wp2
  go_loop [9, 19] (fun t i => t = .int .i64 (keys.length : Int) ∧ i = .int .i64 0) (fun _ _ => 0)
  case atStart => exact ⟨rfl, rfl⟩
  case round =>
   obtain ⟨rfl, rfl⟩ := hrel
   go_wp2
   go_ret
   exact ⟨rfl, br_⟩
 ·rw [if_neg c1] at h
  have c1b : ((keys.length : Int) == 0) = false := by rw [beq_eq_false_iff_ne]; omega
  have hk0 := attn_row_at HK.out 0 (by omega)
  obtain ⟨adk, A0, c0, rfl, hc0, hl0, hr0⟩ := hk0
  have HR0 := A_ hr0
  have hc00 : w.cell? adk = some (.slice A0 (keys.getD 0 []).length c0) := by simpa [Addr.add] using hc0
  generalize hrow : keys.getD 0 [] = row at hc0 hc00 hl0 HR0 h
  clear hrow hr0
  have hrl : row.length ≤ 9223372036854775807 := HR0.out.2.1
  by_cases c2 : 1024 < keys.length
  ·rw [if_pos c2] at h
   obtain rfl := Option.some.inj h
   clear h
   have c2b : decide (1024 < (keys.length : Int)) = true := decide_eq_true (by omega)
   clear c1 c2
   go_enter Try.func39, Try.ntmps39
   go_wp2
   go_loop [9, 19] (fun t i => t = .int .i64 (keys.length : Int) ∧ i = .int .i64 0) (fun _ _ => 0)
   case atStart => exact ⟨rfl, rfl⟩
   case round =>
    obtain ⟨rfl, rfl⟩ := hrel
    go_wp2
    go_ret
    exact ⟨rfl, br_⟩
  ·rw [if_neg c2] at h
   have c2b : decide (1024 < (keys.length : Int)) = false := decide_eq_false (by omega)
   have hkpos : 0 < keys.length := by omega
   have hkposi : (0 : Int) < (keys.length : Int) := by omega
   by_cases c3 : keys.length = vals.length
   ·rw [if_pos c3] at h
    have c3b : ((keys.length : Int) != (vals.length : Int)) = false := by rw [bne_eq_false_iff_eq]; omega
    obtain ⟨b, hb, h⟩ := Option.bind_eq_some_iff.1 h
    have H1 := A_ hb
    clear hb c1 c2 c3
    cases b with
    | false =>
     rw [if_neg (by simp)] at h
     obtain rfl := Option.some.inj h
     clear h
     go_enter Try.func39, Try.ntmps39
     go_wp2
     go_loop [9, 19] (fun t i => t = .int .i64 (keys.length : Int) ∧ i = .int .i64 0) (fun _ _ => 0)
     case atStart => exact ⟨rfl, rfl⟩
     case round =>
      obtain ⟨rfl, rfl⟩ := hrel
      go_wp2
      go_loop [50] (fun i => i = .int .i64 0) (fun _ => 0)
      case atStart => rfl
      case round =>
       obtain rfl := hrel
       go_wp2_with (go_at_call 23; (with_reducible refine (attn_sized.calls _ false _ H1.out).mono ?_); rintro e w2 ⟨rfl, ⟨nd, rfl⟩⟩)
       go_ret
       exact ⟨rfl, br_⟩
    | true =>
     rw [if_pos rfl] at h
     by_cases c4 : q.length = row.length
     ·rw [if_pos c4] at h
      have c4b : ((q.length : Int) != (row.length : Int)) = false := by rw [bne_eq_false_iff_eq]; omega
      obtain ⟨b, hb, h⟩ := Option.bind_eq_some_iff.1 h
      have H2 := A_ hb
      clear hb c4
      cases b with
      | false =>
       rw [if_neg (by simp)] at h
       obtain rfl := Option.some.inj h
       clear h
       go_enter Try.func39, Try.ntmps39
       go_wp2
       go_loop [9, 19] (fun t i => t = .int .i64 (keys.length : Int) ∧ i = .int .i64 0) (fun _ _ => 0)
       case atStart => exact ⟨rfl, rfl⟩
       case round =>
        obtain ⟨rfl, rfl⟩ := hrel
        go_wp2
        go_loop [50] (fun i => i = .int .i64 0) (fun _ => 0)
        case atStart => rfl
        case round =>
         obtain rfl := hrel
         go_wp2_with (first
          | (go_at_call 23; (with_reducible refine (attn_sized.calls _ true _ H1.out).mono ?_); rintro e w2 ⟨rfl, ⟨nd, rfl⟩⟩)
          | (go_at_call 62; (with_reducible refine (attn_shaped.calls k _ _ keys _ false _ (by first | exact HK.out | exact Kd.C_drewN HK.out _) HCK.out H2.out).mono ?_); rintro e w2 ⟨rfl, ⟨nd2, rfl⟩⟩))
         go_ret
         exact ⟨rfl, br_⟩
      | true =>
       rw [if_pos rfl] at h
       obtain ⟨b, hb, h⟩ := Option.bind_eq_some_iff.1 h
       have H3 := A_ hb
       clear hb
       cases b with
       | false =>
        rw [if_neg (by simp)] at h
        obtain rfl := Option.some.inj h
        clear h
        go_enter Try.func39, Try.ntmps39
        go_wp2
        go_loop [9, 19] (fun t i => t = .int .i64 (keys.length : Int) ∧ i = .int .i64 0) (fun _ _ => 0)
        case atStart => exact ⟨rfl, rfl⟩
        case round =>
         obtain ⟨rfl, rfl⟩ := hrel
         go_wp2
         go_loop [50] (fun i => i = .int .i64 0) (fun _ => 0)
         case atStart => rfl
         case round =>
          obtain rfl := hrel
          go_wp2_with (first
           | (go_at_call 23; (with_reducible refine (attn_sized.calls _ true _ H1.out).mono ?_); rintro e w2 ⟨rfl, ⟨nd, rfl⟩⟩)
           | (go_at_call 62; (with_reducible refine (attn_shaped.calls k _ _ keys _ true _ (by first | exact HK.out | exact Kd.C_drewN HK.out _) HCK.out H2.out).mono ?_); rintro e w2 ⟨rfl, ⟨nd2, rfl⟩⟩)
           | (go_at_call 62; (with_reducible refine (attn_shaped.calls k _ _ vals _ false _ (by first | exact HV.out | exact Kd.C_drewN HV.out _) HCV.out H3.out).mono ?_); rintro e w2 ⟨rfl, ⟨nd3, rfl⟩⟩))
          go_ret
          exact ⟨rfl, br_⟩
       | true =>
        rw [if_pos rfl] at h
        obtain rfl := Option.some.inj h
        clear h
        go_enter Try.func39, Try.ntmps39
        go_wp2
        go_loop [9, 19] (fun t i => t = .int .i64 (keys.length : Int) ∧ i = .int .i64 0) (fun _ _ => 0)
        case atStart => exact ⟨rfl, rfl⟩
        case round =>
         obtain ⟨rfl, rfl⟩ := hrel
         go_wp2
         go_loop [50] (fun i => i = .int .i64 0) (fun _ => 0)
         case atStart => rfl
         case round =>
          obtain rfl := hrel
          go_wp2_with (first
           | (go_at_call 23; (with_reducible refine (attn_sized.calls _ true _ H1.out).mono ?_); rintro e w2 ⟨rfl, ⟨nd, rfl⟩⟩)
           | (go_at_call 62; (with_reducible refine (attn_shaped.calls k _ _ keys _ true _ (by first | exact HK.out | exact Kd.C_drewN HK.out _) HCK.out H2.out).mono ?_); rintro e w2 ⟨rfl, ⟨nd2, rfl⟩⟩)
           | (go_at_call 62; (with_reducible refine (attn_shaped.calls k _ _ vals _ true _ (by first | exact HV.out | exact Kd.C_drewN HV.out _) HCV.out H3.out).mono ?_); rintro e w2 ⟨rfl, ⟨nd3, rfl⟩⟩))
          go_ret
          exact ⟨rfl, br_⟩
     ·rw [if_neg c4] at h
      obtain rfl := Option.some.inj h
      clear h
      have c4b : ((q.length : Int) != (row.length : Int)) = true := by rw [bne_iff_ne]; omega
      clear c4
      go_enter Try.func39, Try.ntmps39
      go_wp2
      go_loop [9, 19] (fun t i => t = .int .i64 (keys.length : Int) ∧ i = .int .i64 0) (fun _ _ => 0)
      case atStart => exact ⟨rfl, rfl⟩
      case round =>
       obtain ⟨rfl, rfl⟩ := hrel
       go_wp2
       go_loop [50] (fun i => i = .int .i64 0) (fun _ => 0)
       case atStart => rfl
       case round =>
        obtain rfl := hrel
        go_wp2_with (go_at_call 23; (with_reducible refine (attn_sized.calls _ true _ H1.out).mono ?_); rintro e w2 ⟨rfl, ⟨nd, rfl⟩⟩)
        go_ret
        exact ⟨rfl, br_⟩
   ·rw [if_neg c3] at h
    obtain rfl := Option.some.inj h
    clear h
    have c3b : ((keys.length : Int) != (vals.length : Int)) = true := by rw [bne_iff_ne]; omega
    clear c1 c2 c3
    go_enter Try.func39, Try.ntmps39
    go_wp2
    go_loop [9, 19] (fun t i => t = .int .i64 (keys.length : Int) ∧ i = .int .i64 0) (fun _ _ => 0)
    case atStart => exact ⟨rfl, rfl⟩
    case round =>
     obtain ⟨rfl, rfl⟩ := hrel
     go_wp2
     go_loop [50] (fun i => i = .int .i64 0) (fun _ => 0)
     case atStart => rfl
     case round =>
      obtain rfl := hrel
      go_wp2
      go_ret
      exact ⟨rfl, br_⟩
def attn_plain_value.f (l0_0 : List (List Int)) (l0_1 : List (List Int)) (a1 : Int) (a2 : Int) : Option (Int) := if 0 ≤ a1 then (if a1 < (l0_1.length : Int) then (if 0 ≤ a2 then (if a2 < ((rd_L11 l0_1 a1).length : Int) then (some (rd (rd_L11 l0_1 a1) a2)) else (none)) else (none)) else (none)) else (none)
theorem attn_plain_value.calls (A0_0 : Option Addr) (c0_0 : Nat) (l0_0 : List (List Int)) (A0_1 : Option Addr) (c0_1 : Nat) (l0_1 : List (List Int)) (a1 : Int) (a2 : Int) (r : Int) (w : World) (hr0_0 : Kd.C (Kd.slice 21 (Kd.int .i32)) w A0_0 l0_0.length l0_0) (hc0_0 : l0_0.length ≤ c0_0) (hr0_1 : Kd.C (Kd.slice 21 (Kd.int .i32)) w A0_1 l0_1.length l0_1) (hc0_1 : l0_1.length ≤ c0_1) (h : attn_plain_value.f l0_0 l0_1 a1 a2 = some r) :
  Calls Try.prog 121 #[.agg #[.slice A0_0 l0_0.length c0_0, .slice A0_1 l0_1.length c0_1], .int .i64 a1, .int .i64 a2] w fun e w' => e = .returned (.int .i32 r) ∧ Below w.heap.size w w' := by
 have hu81 := Try.underlying81
 have HR0_0 := A_ hr0_0
 have HC0_0 := A_ hc0_0
 clear hr0_0 hc0_0
 have HR0_1 := A_ hr0_1
 have HC0_1 := A_ hc0_1
 clear hr0_1 hc0_1
 have HB := A_ (Below.refl w.heap.size w)
 have H := h
 unfold attn_plain_value.f at H
 clear h
 by_cases c4 : 0 ≤ a1
 ·rw [if_pos c4] at H
  have c4b0 : decide (0 ≤ a1) = true := decide_eq_true c4
  clear c4
  by_cases c5 : a1 < (l0_1.length : Int)
  ·rw [if_pos c5] at H
   have c5b0 : decide (a1 < (l0_1.length : Int)) = true := decide_eq_true c5
   clear c5
   by_cases c6 : 0 ≤ a2
   ·rw [if_pos c6] at H
    have c6b0 : decide (0 ≤ a2) = true := decide_eq_true c6
    clear c6
    by_cases c7 : a2 < ((rd_L11 l0_1 a1).length : Int)
    ·rw [if_pos c7] at H
     have c7b0 : decide (a2 < ((rd_L11 l0_1 a1).length : Int)) = true := decide_eq_true c7
     clear c7
     obtain rfl := Option.some.inj H
     go_enter Try.func121, Try.ntmps121
     go_wp2_with (first | (refine box_event rfl (N := 3) rfl (cs := #[.slice A0_0 l0_0.length c0_0, .slice A0_1 l0_1.length c0_1]) (t := 81) ?hr ?_; (case hr => first | (go_simp; done) | (go_simp; rfl)); intro gb576 hg w8 hbox hb; have BK576 := A_ hbox; have GW576 := A_ (gw_ w hg); have GE576 := A_ (gw_ w hg); replace HB := A_ (below_step bl_ hb); clear hb hbox hg; have ⟨_, _, _, _⟩ := k2_ BK576.out; have p577 : 0 ≤ (a1 : Int) := od_; have q577 : a1 < (l0_1.length : Int) := od_; obtain ⟨ad577, A577_0, c577_0, e577, hx577_0, hl577_0, hi577_0⟩ := at_L11 HR0_1.out a1 p577 q577; cases e577; replace hx577_0 := hc_ HB.out hx577_0; have HR577_0 := A_ hi577_0; have HC577_0 := A_ hl577_0; clear hi577_0 hl577_0; replace p577 := eq_true p577; replace q577 := eq_true q577; have p578 : 0 ≤ (a2 : Int) := od_; have q578 : a2 < ((rd_L11 l0_1 a1).length : Int) := od_; obtain ⟨ad578, e578, hx578_0⟩ := Kd.at_int HR577_0.out a2 p578 q578; cases e578; replace hx578_0 := hc_ HB.out hx578_0; replace p578 := eq_true p578; replace q578 := eq_true q578))
     go_ret
     exact ⟨ew_, bl_⟩
    ·rw [if_neg c7] at H
     exact absurd H (by simp)
   ·rw [if_neg c6] at H
    exact absurd H (by simp)
  ·rw [if_neg c5] at H
   exact absurd H (by simp)
 ·rw [if_neg c4] at H
  exact absurd H (by simp)
def soft_Sum.l0 : Nat → Int → List Int → Int → Int → Option (Int)
 | 0, _, _, _, _ => none
 | k + 1, x3, x6, x7, x8 => if x8 < x7 then (if 0 ≤ x8 then (if x8 < (x6.length : Int) then (soft_Sum.l0 k (wrap64 (x3 + (rd x6 x8))) x6 x7 (wrap64 (x8 + 1))) else (none)) else (none)) else (some x3)
def soft_Sum.f (k : Nat) (l0 : List Int) : Option (Int) := soft_Sum.l0 k 0 l0 (l0.length : Int) 0
theorem soft_Sum.mono_l : ∀ k, (∀ y0 y1 y2 y3, LeO (soft_Sum.l0 k y0 y1 y2 y3) (soft_Sum.l0 (k + 1) y0 y1 y2 y3))
 | 0 => fun _ _ _ _ r h => by simp [soft_Sum.l0] at h
 | k + 1 => by
  have ih0 := soft_Sum.mono_l k
  ·intro y0 y1 y2 y3
   unfold soft_Sum.l0
   repeat' with_reducible first | apply ih0 | apply LeO.refl | apply LeO.none | refine LeO.ite ?_ ?_ | refine LeO.bind ?_ (fun _ => ?_)
theorem soft_Sum.mono : ∀ a0 k, LeO (soft_Sum.f k a0) (soft_Sum.f (k + 1) a0) := by
 intro a0 k
 have ih0 := soft_Sum.mono_l k
 unfold soft_Sum.f
 repeat' with_reducible first | apply ih0 | apply LeO.refl | apply LeO.none | refine LeO.ite ?_ ?_ | refine LeO.bind ?_ (fun _ => ?_)
theorem soft_Sum.calls (k : Nat) (A0 : Option Addr) (c0 : Nat) (l0 : List Int) (r : Int) (w : World) (hr0 : Kd.C (Kd.int .i64) w A0 l0.length l0) (hc0 : l0.length ≤ c0) (h : soft_Sum.f k l0 = some r) :
  Calls Try.prog 68 #[.slice A0 l0.length c0] w fun e w' => e = .returned (.int .i64 r) ∧ Drawn0 w w' := by
 have HR0 := A_ hr0
 have HC0 := A_ hc0
 clear hr0 hc0
 have H := h
 unfold soft_Sum.f at H
 clear h
 have H' := A_ H
 clear H
 go_enter Try.func68, Try.ntmps68
 go_wp2
 go_loopg [3, 8] k (fun kq v3 v8 w' => ∃ (x3_1 : Int) (x8_1 : Int), v3 = .int .i64 x3_1 ∧ v8 = .int .i64 x8_1 ∧ Aside0 (soft_Sum.l0 kq x3_1 l0 (l0.length : Int) x8_1 = some r) ∧ Aside0 (kq ≤ k) ∧ Drawn0 w w')
 case atStart => exact ⟨(0), (0), rs_, rs_, H', ⟨Nat.le_refl _⟩, d0_⟩
 case round =>
  clear H'
  obtain ⟨x3_1, x8_1, rfl, rfl, HA, HK1, ⟨m1, rfl⟩⟩ := hrel
  cases gk with
  | zero => exact absurd HA.out (by simp [soft_Sum.l0])
  | succ k1 =>
   have H := HA.out
   clear HA
   simp only [soft_Sum.l0] at H
   by_cases c2 : x8_1 < (l0.length : Int)
   ·rw [if_pos c2] at H
    have c2b0 : decide (x8_1 < (l0.length : Int)) = true := decide_eq_true c2
    clear c2
    by_cases c3 : 0 ≤ x8_1
    ·rw [if_pos c3] at H
     have c3b0 : decide (0 ≤ x8_1) = true := decide_eq_true c3
     clear c3
     by_cases c4 : x8_1 < (l0.length : Int)
     ·rw [if_pos c4] at H
      have c4b0 : decide (x8_1 < (l0.length : Int)) = true := decide_eq_true c4
      clear c4
      have H' := A_ H
      clear H
      have p152 : 0 ≤ (x8_1 : Int) := od_
      have q152 : x8_1 < (l0.length : Int) := od_
      obtain ⟨ad152, e152, hx152_0⟩ := Kd.at_int HR0.out x8_1 p152 q152
      cases e152
      replace p152 := eq_true p152
      replace q152 := eq_true q152
      go_wp2
      go_roundg k1
      case measure => have := HK1.out; omega
      case rel => exact ⟨(wrap64 (x3_1 + (rd l0 x8_1))), (wrap64 (x8_1 + 1)), rs_, rs_, H', ⟨by have := HK1.out; omega⟩, d0_⟩
     ·rw [if_neg c4] at H
      exact absurd H (by simp)
    ·rw [if_neg c3] at H
     exact absurd H (by simp)
   ·rw [if_neg c2] at H
    have c2b0 : decide (x8_1 < (l0.length : Int)) = false := decide_eq_false c2
    clear c2
    obtain rfl := Option.some.inj H
    go_wp2
    go_ret
    exact ⟨rs_, d0_⟩
end Go.Proofs.Yteflolamihhmdaa.Q

namespace Go.Proofs.Yteflolamihhmdaa.Q
open Go.RowKit Go.Proofs.YteflolamihhmdaaW.PrintWords Go.Proofs.YteflolamihhmdaaW.PrintLast Go.Proofs.YteflolamihhmdaaW.PrintMore
attribute [local go_sem] max2_int min2_int max_two min_two max_three min_three max_four min_four
attribute [local go_sem ↓] Go.wp_at_zero Go.wp_at_succ
theorem attn_gather.info64 : (Try.prog.info? 2).map (fun i => (i.zero, i.size, i.bytes)) = some (some (.int .i64 0), 1, 8) := by kernel_rfl
def attn_gadd.l (wt : Int) (v : List Int) : Nat → Nat → List Int → Option (List Int)
 | 0, _, sums => some sums
 | d + 1, p, sums => if p < v.length then ((attn_narrow.f (rd v (p : Int))).bind fun t => attn_gadd.l wt v d (p + 1) (sums.set p (wrap64 (rd sums (p : Int) + wrap64 (wt * t))))) else none
def attn_gsum.l (ws : List Int) : List (List Int) → Nat → List Int → Option (List Int)
 | [], _, sums => some sums
 | v :: vs, a, sums => if a < ws.length then ((attn_gadd.l (rd ws (a : Int)) v sums.length 0 sums).bind fun s => attn_gsum.l ws vs (a + 1) s) else none
def attn_gout.l (k : Nat) (ws : List Int) : List Int → Nat → List Int → Option (List Int)
 | [], _, out => some out
 | x :: xs, p, out => (soft_Sum.f k ws).bind fun s => (fix_Ratio.f x s).bind fun y => (fix_Narrow.f y).bind fun z => attn_gout.l k ws xs (p + 1) (out.set p z)
def attn_gather.l (k : Nat) (ws : List Int) (vals : List (List Int)) (wide : Nat) : Option (List Int) :=
 (attn_gsum.l ws vals 0 (List.replicate wide 0)).bind fun sums => attn_gout.l k ws sums 0 (List.replicate wide 0)
theorem attn_gadd.len {wt : Int} {v : List Int} : ∀ {d p : Nat} {sums r : List Int}, attn_gadd.l wt v d p sums = some r → r.length = sums.length
 | 0, p, sums, r, h => by simp only [attn_gadd.l] at h; rw [← Option.some.inj h]
 | d + 1, p, sums, r, h => by
  simp only [attn_gadd.l] at h
  split at h
  ·obtain ⟨t, _, h⟩ := Option.bind_eq_some_iff.1 h
   rw [attn_gadd.len h, List.length_set]
  ·exact absurd h (by simp)
theorem attn_gsum.len {ws : List Int} : ∀ {vs : List (List Int)} {a : Nat} {sums r : List Int}, attn_gsum.l ws vs a sums = some r → r.length = sums.length
 | [], a, sums, r, h => by simp only [attn_gsum.l] at h; rw [← Option.some.inj h]
 | v :: vs, a, sums, r, h => by
  simp only [attn_gsum.l] at h
  split at h
  ·obtain ⟨t, ht, h⟩ := Option.bind_eq_some_iff.1 h
   rw [attn_gsum.len h, attn_gadd.len ht]
  ·exact absurd h (by simp)
theorem attn_plain_value.at_ {l0 l1 : List (List Int)} {t p : Nat} (h1 : t < l1.length) (h2 : p < (l1.getD t []).length) : attn_plain_value.f l0 l1 (t : Int) (p : Int) = some (rd (l1.getD t []) (p : Int)) := by
 unfold attn_plain_value.f
 rw [if_pos (by omega), if_pos (by omega), if_pos (by omega), if_pos (by simpa [rd_L11] using h2)]
 simp [rd_L11]
theorem attn_keep_row {α : Type} {d : Kd α} {e t : Nat} {w w1 : World} {base g : Nat} {v : Value} {xs : List α} {cs : Array Value} (h : d.R e w base (fun _ => True) v xs) (hb : w.heap[g]? = some (.cells cs t (0, 0))) (ht : ∀ q, q ∈ e :: d.E → q ≠ t) (hg : w.grownBy w1 (some g)) : d.R e w1 base (fun _ => True) v xs :=
 Kd.R_mono (Kd.R_grown (Kd.R_types h hb ht) hg (fun k hk e => hk.2 (Option.some.inj e))) (fun _ _ => trivial)
theorem attn_gather.calls (k : Nat) (Aw : Option Addr) (cw : Nat) (ws : List Int) (A : Option Addr) (c : Nat) (ss : List attn_Src) (wide : Nat) (r : List Int) (w : World)
  (hw : Kd.C (Kd.int .i64) w Aw ws.length ws) (hcw : ws.length ≤ cw) (hs : attn_Srcs w A ss) (hsame : ∀ s ∈ ss, s.keys.length = s.vals.length) (hn1 : ss.length ≤ 1000000) (hw1 : 1 ≤ wide) (hw2 : wide ≤ 1000000)
  (h : attn_gather.l k ws (attn_vals ss) wide = some r) :
  Calls Try.prog 42 #[.slice Aw ws.length cw, .slice A ss.length c, .int .i64 wide] w fun e w' => ∃ v0_ : Value, e = .returned (v0_) ∧ Kd.R (Kd.int .i32) 21 w' w.heap.size (fun _ => True) v0_ r ∧ Below w.heap.size w w' := by
 obtain ⟨sm, hsm, hout⟩ := Option.bind_eq_some_iff.1 h
 have hsl : sm.length = wide := by rw [attn_gsum.len hsm, List.length_replicate]
 have HSL := A_ hsl
 have hn2 : ws.length ≤ 9223372036854775807 := hw.2.1
 have HWS := A_ hw
 have HCW := A_ hcw
 have HS := A_ hs
 have HSAME := A_ hsame
 have HSM := A_ hsm
 have HOUT := A_ hout
 clear hw hs hsm hout h hsl hsame hcw
 go_enter Try.func42, Try.ntmps42
 go_wp2_with ((with_reducible refine gate_dst (N := 17) rfl ?_); refine Kd.R_make (Kd.int .i64) w.heap.size 2 rfl (N := 17) rfl 113 _ _ rfl (wide : Int) rfl rfl Try.underlying113 (.int .i64 0) 8 attn_gather.info64 rfl (by decide) (by omega) 0 (ok := fun _ => True) (okp := fun _ => True) rfl (fun _ hk => hk) trivial (by omega) (by omega) (Below.refl _ _) (Nat.le_refl _) ?_; intro v7 w4 ho5 hb hg_ hnew_; clear hg_ hnew_; rw [Int.toNat_natCast] at ho5)
 have hform := Kd.R_form ho5 (by rw [List.length_replicate]; omega)
 rw [List.length_replicate] at hform
 obtain ⟨g7, c7, rfl, hg7, -, -⟩ := hform
 have HO5 := A_ ho5
 have HB4 := A_ hb
 clear ho5 hb
 go_loopw [8, 20] (fun v i wr => ∃ (j a : Nat) (sums : List Int), j ≤ ss.length ∧ i = .int .i64 j ∧ v = .int .i64 a ∧ sums.length = wide ∧ Aside0 (attn_gsum.l ws (attn_vals (ss.drop j)) a sums = some sm) ∧ Aside0 (Kd.R (Kd.int .i64) 2 wr w.heap.size (fun _ => True) (.slice (some ⟨g7, 0, none⟩) wide c7) sums) ∧ Aside0 (Below w.heap.size w wr)) (fun _ i _ => ss.length - (intOf i).toNat)
 case atStart => exact ⟨0, 0, _, Nat.zero_le _, rfl, rfl, List.length_replicate, HSM, HO5, HB4⟩
 case round =>
  clear HSM HO5 HB4
  obtain ⟨j, a, sums, hj, rfl, rfl, hsl, HA, HO, HB⟩ := hrel
  by_cases hlt : j < ss.length
  ·obtain ⟨ad, v, rfl, hc, hv⟩ := HS.out.at_ j hlt
   have hst := attn_vals_step hlt
   have hsm2 := HSAME.out (ss.getD j ⟨[], []⟩) (by rw [List.getD_eq_getElem?_getD, List.getElem?_eq_getElem hlt]; exact List.getElem_mem hlt)
   generalize ss.getD j ⟨[], []⟩ = s at hv hst hsm2
   have HA2 := HA.out
   rw [hst] at HA2
   have HA3 := A_ HA2
   clear HA2 hst HA
   replace hc := pw_cell_below HB.out hc
   obtain ⟨Ak, ck, Av, cv, rfl, hck, hcv, hk, hvv⟩ := hv
   have HK := A_ hk
   have HV := A_ hvv
   have HKV := A_ hsm2
   clear hk hvv hsm2
   obtain ⟨wo, rfl⟩ : ∃ wo : World, wo = wr := ⟨_, rfl⟩
   have N1 := attn_plain.nil_count
   have M1 := attn_plain.m_count
   go_wp2_with (go_at_call 119; (with_reducible refine (attn_plain_count.calls Ak ck s.keys Av cv s.vals (s.keys.length : Int) _ (Kd.C_below HK.out HB.out) hck (Kd.C_below HV.out HB.out) hcv rfl).mono ?_); rintro e w1 ⟨rfl, hb1⟩)
   have hkl : s.keys.length ≤ 9223372036854775807 := HK.out.2.1
   clear N1 M1
   have N1 := attn_plain.nil_value
   have M1 := attn_plain.m_value
   have hb0 := HB.out.trans (hb1.mono HB.out.size)
   have HB1 := A_ hb0
   have HO1 := A_ (Kd.R_below HO.out hb1)
   clear hb1 hb0 HO hc HB
   go_loopw [8, 26] (fun v i wr => ∃ (t a : Nat) (sums : List Int), t ≤ s.keys.length ∧ i = .int .i64 t ∧ v = .int .i64 a ∧ sums.length = wide ∧ Aside0 (attn_gsum.l ws (s.vals.drop t ++ attn_vals (ss.drop (j + 1))) a sums = some sm) ∧ Aside0 (Kd.R (Kd.int .i64) 2 wr w.heap.size (fun _ => True) (.slice (some ⟨g7, 0, none⟩) wide c7) sums) ∧ Aside0 (Below w.heap.size w wr)) (fun _ i _ => s.keys.length - (intOf i).toNat)
   case atStart => exact ⟨0, a, sums, Nat.zero_le _, rfl, rfl, hsl, HA3, HO1, HB1⟩
   case round =>
    clear HA3 HO1 HB1 hsl
    obtain ⟨t, a, sums, ht, rfl, rfl, hsl, HA, HO, HB⟩ := hrel
    by_cases htl : t < s.keys.length
    ·have htv : t < s.vals.length := by have := HKV.out; omega
     have HA2 := HA.out
     rw [attn_drop_row htv, List.cons_append] at HA2
     simp only [attn_gsum.l] at HA2
     by_cases haw : a < ws.length
     ·rw [if_pos haw, hsl] at HA2
      obtain ⟨s2, hs2, HA2⟩ := Option.bind_eq_some_iff.1 HA2
      have HS2 := A_ hs2
      have hs2l : s2.length = wide := by rw [attn_gadd.len hs2]; exact hsl
      have HA4 := A_ HA2
      clear HA hs2 HA2
      have HVAL := A_ (fun p => attn_plain_value.at_ (l0 := s.keys) (p := p) htv)
      generalize s.vals.getD t [] = val at HS2 HVAL
      obtain ⟨wo, rfl⟩ : ∃ wo : World, wo = wr := ⟨_, rfl⟩
      obtain ⟨adw, rfl, hcw0⟩ := Kd.at_int HWS.out (a : Int) (by omega) (by omega)
      simp only [Int.toNat_natCast] at hcw0
      generalize rd ws (a : Int) = wt at HS2 hcw0
      have HCWC := A_ hcw0
      clear hcw0
      go_wp2
      go_loopw [31] (fun i wr => ∃ (p : Nat) (sums : List Int), p ≤ wide ∧ i = .int .i64 p ∧ sums.length = wide ∧ Aside0 (attn_gadd.l wt val (wide - p) p sums = some s2) ∧ Aside0 (Kd.R (Kd.int .i64) 2 wr w.heap.size (fun _ => True) (.slice (some ⟨g7, 0, none⟩) wide c7) sums) ∧ Aside0 (Below w.heap.size w wr)) (fun i _ => wide - (intOf i).toNat)
      case atStart => exact ⟨0, sums, Nat.zero_le _, rfl, hsl, HS2, HO, HB⟩
      case round =>
       clear HS2 HO HB hsl
       obtain ⟨p, sums, hp, rfl, hsl, HG, HO, HB⟩ := hrel
       by_cases hpl : p < wide
       ·have HG2 := HG.out
        rw [show wide - p = (wide - (p + 1)) + 1 by omega] at HG2
        simp only [attn_gadd.l] at HG2
        by_cases hpv : p < val.length
        ·rw [if_pos hpv] at HG2
         obtain ⟨tt, htt, HG2⟩ := Option.bind_eq_some_iff.1 HG2
         have HTT := A_ htt
         have HG4 := A_ HG2
         have HV2 := A_ (HVAL.out p hpv)
         clear HG2 htt HG hpv
         obtain ⟨hcs, hfs⟩ := Kd.R_celln 0 HO.out (p : Int) (by omega) (by omega)
         simp only [Int.toNat_natCast] at hcs hfs
         have hput := fun W (hb : Below wr.heap.size wr W) (x : Int) => Kd.R_putg (Kd.R_below HO.out hb) (p : Int) x
         simp only [Int.toNat_natCast] at hput
         have HPUT := A_ hput
         clear hput
         have hcw1 := pw_cell_below HB.out HCWC.out
         change wr.cell? ⟨g7, p, none⟩ = some (.int .i64 (rd sums (p : Int))) at hcs
         generalize hz0 : rd sums (p : Int) = z0 at hcs HG4
         clear hz0
         go_wp2_with fail
         go_region_with (first
          | (go_at_call 121; (with_reducible refine (attn_plain_value.calls Ak ck s.keys Av cv s.vals (t : Int) (p : Int) _ _ (by first | exact Kd.C_below HK.out HB.out | exact Kd.C_below HK.out (below_drew HB.out) | exact Kd.C_below HK.out (pw_below_drewN HB.out _)) hck (by first | exact Kd.C_below HV.out HB.out | exact Kd.C_below HV.out (below_drew HB.out) | exact Kd.C_below HV.out (pw_below_drewN HB.out _)) hcv HV2.out).mono ?_); rintro e w2 ⟨rfl, hb2'⟩; have hb2 : Below wr.heap.size wr w2 := ⟨hb2'.os, hb2'.tape, hb2'.output, hb2'.size, hb2'.block⟩; have hcs2 := pw_cell_below hb2 hcs; have hcw2 := pw_cell_below hb2 hcw1; have hfs2 := (hb2.frozen (p := ⟨g7, p, none⟩) (World.block_lt_of_cell? wr _ hcs)).trans hfs; clear hb2')
          | (go_at_call 45; (with_reducible refine (attn_narrow.calls (rd val (p : Int)) tt _ HTT.out).mono ?_); rintro e w3 ⟨rfl, hb3'⟩; have hb3 : Below w2.heap.size w2 w3 := ⟨hb3'.os, hb3'.tape, hb3'.output, hb3'.size, hb3'.block⟩; have hcs3 := pw_cell_below hb3 hcs2; have hcw3 := pw_cell_below hb3 hcw2; have hfs3 := (hb3.frozen (p := ⟨g7, p, none⟩) (World.block_lt_of_cell? w2 _ hcs2)).trans hfs2; clear hb3'))
         all_goals go_wp2_with fail
         all_goals (have hbb := hb2.trans (hb3.mono hb2.size))
         all_goals exact ⟨⟨p + 1, sums.set p (wrap64 (z0 + wrap64 (wt * tt))), by omega, by go_num, by rw [List.length_set]; exact hsl, HG4, ⟨(HPUT.out w3 hbb _).1⟩, ⟨below_set (HB.out.trans (hbb.mono HB.out.size)) hg7⟩⟩, by simp [intOf]; omega⟩
        ·rw [if_neg hpv] at HG2
         exact absurd HG2 (by simp)
       ·obtain rfl : p = wide := by omega
        have HG2 := HG.out
        rw [Nat.sub_self] at HG2
        obtain rfl := Option.some.inj HG2
        clear HG2 HG
        go_wp2
        go_roundw
        case rel => exact ⟨t + 1, a + 1, sums, by omega, by go_num, by go_num, hsl, HA4, HO, HB⟩
        case measure => simp [intOf]; omega
     ·rw [if_neg haw] at HA2
      exact absurd HA2 (by simp)
    ·obtain rfl : t = s.keys.length := by omega
     have HA2 := HA.out
     rw [List.drop_eq_nil_of_le (by have := HKV.out; omega), List.nil_append] at HA2
     have HA4 := A_ HA2
     clear HA2 HA
     go_wp2
     go_roundw
     case rel => exact ⟨j + 1, a, sums, by omega, by go_num, rfl, hsl, HA4, HO, HB⟩
     case measure => simp [intOf]; omega
  ·obtain rfl : j = ss.length := by omega
   have HA2 := HA.out
   rw [List.drop_length] at HA2
   obtain rfl := Option.some.inj HA2
   clear HA2 HA
   go_wp2_with ((with_reducible refine gate_dst (N := 56) rfl ?_); refine Kd.R_make (Kd.int .i32) w.heap.size 21 rfl (N := 56) rfl 22 _ _ rfl (wide : Int) rfl rfl Try.underlying22 (.int .i32 0) 4 info21 rfl (by decide) (by omega) 0 (ok := fun _ => True) (okp := fun _ => True) rfl (fun _ hk => hk) trivial (by omega) (by omega) HB.out HB.out.size ?_; intro v13 w5 ho6 hb6 hg6 hnew6; rw [Int.toNat_natCast] at ho6)
   have hform := Kd.R_form ho6 (by rw [List.length_replicate]; omega)
   rw [List.length_replicate] at hform
   obtain ⟨g13, c13, rfl, hg13, -, -⟩ := hform
   have HO6 := A_ ho6
   have HB6 := A_ hb6
   have HO7 := A_ (Kd.R_grown HO.out hg6 (fun _ _ => by simp))
   clear ho6 hb6 hg6 HO HB hnew6
   go_loopw [59] (fun i wr => ∃ (p : Nat) (out : List Int), p ≤ wide ∧ i = .int .i64 p ∧ out.length = wide ∧ Aside0 (attn_gout.l k ws (sums.drop p) p out = some r) ∧ Aside0 (Kd.R (Kd.int .i64) 2 wr w.heap.size (fun _ => True) (.slice (some ⟨g7, 0, none⟩) wide c7) sums) ∧ Aside0 (Kd.R (Kd.int .i32) 21 wr w.heap.size (fun _ => True) (.slice (some ⟨g13, 0, none⟩) wide c13) out) ∧ Aside0 (Below w.heap.size w wr)) (fun i _ => wide - (intOf i).toNat)
   case atStart => exact ⟨0, _, Nat.zero_le _, rfl, List.length_replicate, HOUT, HO7, HO6, HB6⟩
   case round =>
    clear HOUT HO7 HO6 HB6
    obtain ⟨p, out, hp, rfl, hol, HG, HO, HOO, HB⟩ := hrel
    by_cases hpl : p < wide
    ·have HG2 := HG.out
     rw [attn_drop_num (by omega)] at HG2
     simp only [attn_gout.l] at HG2
     obtain ⟨s, hs, HG2⟩ := Option.bind_eq_some_iff.1 HG2
     obtain ⟨y, hy, HG2⟩ := Option.bind_eq_some_iff.1 HG2
     obtain ⟨z, hz, HG2⟩ := Option.bind_eq_some_iff.1 HG2
     have H1 := A_ hs
     have H2 := A_ hy
     have H3 := A_ hz
     have H4 := A_ HG2
     clear hs hy hz HG2 HG
     obtain ⟨hcs, hfs⟩ := Kd.R_celln 0 HO.out (p : Int) (by omega) (by omega)
     obtain ⟨hco, hfo⟩ := Kd.R_celln 0 HOO.out (p : Int) (by omega) (by omega)
     simp only [Int.toNat_natCast] at hcs hfs hco hfo
     change wr.cell? ⟨g7, p, none⟩ = some (.int .i64 (rd sums (p : Int))) at hcs
     have hput := fun W (hb : Below wr.heap.size wr W) (x : Int) => Kd.R_putg (Kd.R_below HOO.out hb) (p : Int) x
     simp only [Int.toNat_natCast] at hput
     have HPUT := A_ hput
     have hown := fun W (hb : Below wr.heap.size wr W) => Kd.R_form (Kd.R_below HOO.out hb) (by omega)
     have HOWN := A_ hown
     clear hput hown
     go_wp2_with (first
      | (go_at_call 68; (with_reducible refine (soft_Sum.calls k (Aw) cw ws s _ (by first | exact Kd.C_below HWS.out HB.out | exact Kd.C_below HWS.out (below_drew HB.out) | exact Kd.C_below HWS.out (pw_below_drewN HB.out _)) HCW.out H1.out).mono ?_); rintro e w2 ⟨rfl, ⟨nd, rfl⟩⟩)
      | (go_at_call 67; (with_reducible refine (fix_Ratio.calls _ _ y _ H2.out).mono ?_); rintro e w2 ⟨rfl, ⟨nd2, rfl⟩⟩)
      | (go_at_call 66; (with_reducible refine (fix_Narrow.calls y z _ H3.out).mono ?_); rintro e w3 ⟨rfl, hb3'⟩; have hb3 : Below wr.heap.size wr w3 := ⟨hb3'.os, hb3'.tape, hb3'.output, hb3'.size, hb3'.block⟩; have hco3 := pw_cell_below hb3 hco; have hfo3 := (hb3.frozen (p := ⟨g13, p, none⟩) (World.block_lt_of_cell? wr _ hco)).trans hfo; clear hb3'))
     go_roundw
     case rel =>
      refine ⟨p + 1, out.set p z, by omega, by go_num, by rw [List.length_set]; exact hol, H4, ⟨?_⟩, ⟨(HPUT.out w3 hb3 z).1⟩, ⟨below_set (HB.out.trans (hb3.mono HB.out.size)) hg13⟩⟩
      obtain ⟨g', cap', e', -, -, cells, hcells⟩ := HOWN.out w3 hb3
      obtain ⟨rfl⟩ : g13 = g' := by injection e' with e1; injection e1 with e1; injection e1
      exact attn_keep_row (Kd.R_below HO.out hb3) hcells (by intro q hq; simp [Kd.int, Kd.scalar] at hq; omega) (HPUT.out w3 hb3 z).2
     case measure => simp [intOf]; omega
    ·obtain rfl : p = wide := by omega
     have HG2 := HG.out
     rw [List.drop_eq_nil_of_le (by omega)] at HG2
     obtain rfl := Option.some.inj HG2
     clear HG2 HG
     go_wp2
     go_ret
     exact ⟨_, rfl, by (with_reducible repeat (first | apply Kd.R_alloc | apply Kd.R_drewN | apply Kd.R_drew)); exact HOO.out, bl_⟩
theorem attn_gather.one (k : Nat) (Aw : Option Addr) (cw : Nat) (ws : List Int) (A : Option Addr) (c : Nat) (s : attn_Src) (wide : Nat) (r : List Int) (w : World)
  (hw : Kd.C (Kd.int .i64) w Aw ws.length ws) (hcw : ws.length ≤ cw) (hs : attn_Srcs w A [s]) (hsame : s.keys.length = s.vals.length) (hw1 : 1 ≤ wide) (hw2 : wide ≤ 1000000)
  (h : attn_gather.l k ws s.vals wide = some r) :
  Calls Try.prog 42 #[.slice Aw ws.length cw, .slice A 1 c, .int .i64 wide] w fun e w' => ∃ v0_ : Value, e = .returned (v0_) ∧ Kd.R (Kd.int .i32) 21 w' w.heap.size (fun _ => True) v0_ r ∧ Below w.heap.size w w' :=
 attn_gather.calls k Aw cw ws A c [s] wide r w hw hcw hs (by simpa using hsame) (by simp) hw1 hw2 (by simpa [attn_vals] using h)
end Go.Proofs.Yteflolamihhmdaa.Q

namespace Go.Proofs.Yteflolamihhmdaa.Q
open Go.RowKit Go.Proofs.YteflolamihhmdaaW.PrintWords Go.Proofs.YteflolamihhmdaaW.PrintLast Go.Proofs.YteflolamihhmdaaW.PrintMore
attribute [local go_sem] max2_int min2_int max_two min_two max_three min_three max_four min_four
theorem attn_Fused.infoSrc : (Try.prog.info? 110).map (fun i => (i.zero, i.size, i.bytes)) = some (some .nilIface, 1, 16) := by kernel_rfl
theorem attn_right.zero {k : Nat} {q : List Int} {keys vals : List (List Int)} (h : attn_right.f k q keys vals = some 0) : 1 ≤ keys.length ∧ keys.length ≤ 1024 ∧ keys.length = vals.length ∧ 1 ≤ q.length ∧ q.length ≤ 16 := by
 unfold attn_right.f at h
 by_cases c1 : keys.length = 0
 ·rw [if_pos c1] at h
  exact absurd h (by simp)
 rw [if_neg c1] at h
 by_cases c2 : 1024 < keys.length
 ·rw [if_pos c2] at h
  exact absurd h (by simp)
 rw [if_neg c2] at h
 by_cases c3 : keys.length = vals.length
 ·rw [if_pos c3] at h
  obtain ⟨b, hb, h⟩ := Option.bind_eq_some_iff.1 h
  cases b with
  | false => exact absurd h (by simp)
  | true =>
   rw [if_pos rfl] at h
   by_cases c4 : q.length = (keys.getD 0 []).length
   ·unfold attn_sized.f at hb
    rw [← c4] at hb
    by_cases c5 : (q.length : Int) ≥ 1
    ·rw [if_pos c5] at hb
     have := Option.some.inj hb
     simp at this
     exact ⟨by omega, by omega, c3, by omega, by omega⟩
    ·rw [if_neg c5] at hb
     exact absurd hb (by simp)
   ·rw [if_neg c4] at h
    exact absurd h (by simp)
 ·rw [if_neg c3] at h
  exact absurd h (by simp)
def attn_Fused.f (k : Nat) (q : List Int) (keys vals : List (List Int)) : Option (List Int × Int) :=
 (attn_right.f k q keys vals).bind fun e => if e = 0 then
  (attn_cut.f k q).bind fun q2 => (attn_scores.l k q2 keys []).bind fun sc => (soft_Weights.f k sc).bind fun we => if we.2 = 0 then
   (attn_gather.l k we.1 vals q.length).bind fun r => some (r, 0) else some ([], we.2)
 else some ([], e)
theorem attn_right.mono (q : List Int) (keys vals : List (List Int)) (k : Nat) : LeO (attn_right.f k q keys vals) (attn_right.f (k + 1) q keys vals) := by
 unfold attn_right.f
 repeat' with_reducible first | apply attn_shaped.mono | apply LeO.refl | refine LeO.ite ?_ ?_ | refine LeO.bind ?_ (fun _ => ?_)
theorem attn_scores.mono_l (q : List Int) (k : Nat) : ∀ (ks : List (List Int)) (out : List Int), LeO (attn_scores.l k q ks out) (attn_scores.l (k + 1) q ks out)
 | [], out => LeO.refl _
 | key :: ks, out => by
  simp only [attn_scores.l]
  exact LeO.bind (LeO.refl _) (fun _ => LeO.bind (attn_scaled.mono _ _ _) (fun _ => attn_scores.mono_l q k ks _))
theorem attn_gout.mono_l (ws : List Int) (k : Nat) : ∀ (xs : List Int) (p : Nat) (out : List Int), LeO (attn_gout.l k ws xs p out) (attn_gout.l (k + 1) ws xs p out)
 | [], p, out => LeO.refl _
 | x :: xs, p, out => by
  simp only [attn_gout.l]
  exact LeO.bind (soft_Sum.mono _ _) (fun _ => LeO.bind (LeO.refl _) (fun _ => LeO.bind (LeO.refl _) (fun _ => attn_gout.mono_l ws k xs _ _)))
theorem attn_Fused.mono (q : List Int) (keys vals : List (List Int)) (k : Nat) : LeO (attn_Fused.f k q keys vals) (attn_Fused.f (k + 1) q keys vals) := by
 unfold attn_Fused.f
 refine LeO.bind (attn_right.mono _ _ _ _) (fun _ => LeO.ite ?_ (LeO.refl _))
 refine LeO.bind (attn_cut.mono _ _) (fun _ => LeO.bind (attn_scores.mono_l _ _ _ _) (fun _ => LeO.bind (soft_Weights.mono _ _) (fun _ => LeO.ite ?_ (LeO.refl _))))
 exact LeO.bind (LeO.bind (LeO.refl _) (fun _ => attn_gout.mono_l _ _ _ _ _)) (fun _ => LeO.refl _)
theorem attn_Fused.calls (k : Nat) (Aq : Option Addr) (cq : Nat) (q : List Int) (Ak : Option Addr) (ck : Nat) (keys : List (List Int)) (Av : Option Addr) (cv : Nat) (vals : List (List Int)) (r1 : List Int) (r2 : Int) (w : World)
  (hq : Kd.C (Kd.int .i32) w Aq q.length q) (hcq : q.length ≤ cq) (hk : Kd.C (Kd.slice 21 (Kd.int .i32)) w Ak keys.length keys) (hck : keys.length ≤ ck) (hv : Kd.C (Kd.slice 21 (Kd.int .i32)) w Av vals.length vals) (hcv : vals.length ≤ cv)
  (h : attn_Fused.f k q keys vals = some (r1, r2)) :
  Calls Try.prog 22 #[.slice Aq q.length cq, .slice none 0 0, .slice Ak keys.length ck, .slice Av vals.length cv] w fun e w' => ∃ v0_ : Value, e = .returned (.tuple #[v0_, .int .i64 r2]) ∧ Kd.R (Kd.int .i32) 21 w' w.heap.size (fun _ => True) v0_ r1 ∧ Below w.heap.size w w' := by
 obtain ⟨e, he, h⟩ := Option.bind_eq_some_iff.1 h
 have HQ := A_ hq
 have HCQ := A_ hcq
 have HK := A_ hk
 have HV := A_ hv
 have HCK := A_ hck
 have HCV := A_ hcv
 have HE := A_ he
 clear hq hcq hk hv hck hcv he
 by_cases c1 : e = 0
 ·rw [if_pos c1] at h
  subst c1
  obtain ⟨hz1, hz2, hz3, hz4, hz5⟩ := attn_right.zero HE.out
  have HZ3 := A_ hz3
  clear hz3
  obtain ⟨q2, hq2, h⟩ := Option.bind_eq_some_iff.1 h
  obtain ⟨sc, hsc, h⟩ := Option.bind_eq_some_iff.1 h
  obtain ⟨⟨ws, e2⟩, hwe, h⟩ := Option.bind_eq_some_iff.1 h
  have H1 := A_ hq2
  have H2 := A_ hsc
  have H3 := A_ hwe
  have H4 := A_ h
  have HSL := A_ (attn_scores.len hsc)
  clear hq2 hsc hwe h
  go_enter Try.func22, Try.ntmps22
  go_wp2_with fail
  refine (attn_right.calls k Aq cq q Ak ck keys Av cv vals 0 _ HK.out HCK.out HV.out HCV.out HE.out).mono ?_
  rintro e' w1 ⟨rfl, hb1⟩
  go_wp2
  go_loop [11, 26] (fun v i => v = .slice none 0 0 ∧ i = .int .i64 0) (fun _ _ => 0)
  case atStart => exact ⟨rfl, rfl⟩
  case round =>
   obtain ⟨rfl, rfl⟩ := hrel
   go_wp2_with ((with_reducible refine gate_builtin (b := .append) rfl ?_); at_builtin; refine print_append (w0 := w) w.heap.size rfl _ _ 77 110 .nilIface 16 rfl Try.underlying77 attn_Fused.infoSrc rfl (by decide) (.slice none 0 0) [] (.iface 81 (.agg #[.slice Ak keys.length ck, .slice Av vals.length cv])) rfl rfl rfl (own_nil _ _ _ _) hb1 hb1.size (by simp) ?_; intro v11 w11 hown hb11 hg11 hat11)
   rw [List.nil_append] at hown
   obtain ⟨g11, c11, rfl, -, -⟩ := hown.form (by simp)
   have hsrc : ∀ W, Below w11.heap.size w11 W → attn_Srcs W (some ⟨g11, 0, none⟩) [⟨keys, vals⟩] := fun W hb => by
    have hbw : Below w.heap.size w W := hb11.trans (hb.mono hb11.size)
    refine ⟨[.iface 81 (.agg #[.slice Ak keys.length ck, .slice Av vals.length cv])], rfl, fun j hj => ?_, fun j hj => ?_⟩
    ·obtain rfl : j = 0 := by simpa using hj
     exact ⟨_, rfl, pw_cell_below hb (hown.cells (g := g11) rfl 0 _ rfl)⟩
    ·obtain rfl : j = 0 := by simpa using hj
     exact ⟨Ak, ck, Av, cv, rfl, HCK.out, HCV.out, Kd.C_below HK.out hbw, Kd.C_below HV.out hbw⟩
   have HSRC := A_ hsrc
   have HB11 := A_ hb11
   clear hsrc hown hb11 hg11 hat11 hb1
   refine (attn_cut.calls k Aq cq q q2 _ (Kd.C_below HQ.out HB11.out) HCQ.out H1.out).mono ?_
   rintro e' w12 ⟨vq, rfl, hRq, hb12⟩
   obtain ⟨Aq2, cq2, rfl, hlq2, hCq⟩ := Kd.R_reads hRq
   have HQ2 := A_ hCq
   have HB12 := A_ hb12
   clear hRq hCq hb12 hlq2
   go_wp2_with fail
   refine (attn_scores.one k Aq2 cq2 q2 (some ⟨g11, 0, none⟩) c11 ⟨keys, vals⟩ sc _ HQ2.out (HSRC.out _ HB12.out) (by have := HSL.out; simp at this; omega) H2.out).mono ?_
   rintro e' w13 ⟨vs, rfl, hRs, hb13⟩
   obtain ⟨As, cs, rfl, hls, hCs⟩ := Kd.R_reads hRs
   have HCs := A_ hCs
   have HLs := A_ hls
   have HB13 := A_ (HB12.out.trans (hb13.mono HB12.out.size))
   clear hRs hCs hb13 hls
   go_wp2_with fail
   refine (soft_Weights.calls k As cs sc ws e2 _ HCs.out HLs.out H3.out).mono ?_
   rintro e' w14 ⟨vw, rfl, hRw, hb14⟩
   obtain ⟨Aw, cw, rfl, hlw, hCw⟩ := Kd.R_reads hRw
   have HCw := A_ hCw
   have HLw := A_ hlw
   have HB14 := A_ (HB13.out.trans (hb14.mono HB13.out.size))
   clear hRw hCw hb14 hlw
   have HBA := A_ (HB11.out.trans (HB14.out.mono HB11.out.size))
   by_cases c2 : e2 = 0
   ·subst c2
    have H5 := H4.out
    rw [if_pos rfl] at H5
    obtain ⟨r, hr, H5⟩ := Option.bind_eq_some_iff.1 H5
    obtain ⟨rfl, rfl⟩ := Prod.mk.inj (Option.some.inj H5)
    have HR := A_ hr
    clear hr H5 H4
    go_wp2_with fail
    refine (attn_gather.one k Aw cw ws (some ⟨g11, 0, none⟩) c11 ⟨keys, vals⟩ q.length r _ HCw.out HLw.out (HSRC.out _ HB14.out) HZ3.out hz4 (by omega) HR.out).mono ?_
    rintro e' w15 ⟨vr, rfl, hRr, hb15⟩
    have hRr2 := Kd.R_lower hRr HBA.out.size
    have hbz := HBA.out.trans (hb15.mono HBA.out.size)
    have HRR := A_ hRr2
    have HBZ := A_ hbz
    clear hRr hRr2 hbz hb15
    go_wp2
    go_ret2
    exact ⟨_, rfl, HRR.out, HBZ.out⟩
   ·have H5 := H4.out
    rw [if_neg c2] at H5
    obtain ⟨rfl, rfl⟩ := Prod.mk.inj (Option.some.inj H5)
    clear H5 H4
    have c2b : (e2 != 0) = true := by rw [bne_iff_ne]; exact c2
    clear c2
    go_wp2
    go_ret2
    exact ⟨_, rfl, Kd.R_nil _ _ _ _ _, HBA.out⟩
 ·rw [if_neg c1] at h
  obtain ⟨rfl, rfl⟩ := Prod.mk.inj (Option.some.inj h)
  have c1b : (e != 0) = true := by rw [bne_iff_ne]; exact c1
  clear c1 h
  go_enter Try.func22, Try.ntmps22
  go_wp2_with fail
  refine (attn_right.calls k Aq cq q Ak ck keys Av cv vals e _ HK.out HCK.out HV.out HCV.out HE.out).mono ?_
  rintro e' w1 ⟨rfl, hb1⟩
  have HB1 := A_ hb1
  clear hb1
  go_wp2
  go_ret2
  exact ⟨_, rfl, Kd.R_nil _ _ _ _ _, HB1.out⟩
def credenzaref04_Sum.l0 : Nat → List Int → Int → Int → Option (Int)
 | 0, _, _, _ => none
 | k + 1, x0, x3, x4 => if x4 < (x0.length : Int) then (if 0 ≤ x4 then (credenzaref04_Sum.l0 k x0 (wrap64 (x3 + (rd x0 x4))) (wrap64 (x4 + 1))) else (none)) else (some x3)
def credenzaref04_Sum.f (k : Nat) (l0 : List Int) : Option (Int) := credenzaref04_Sum.l0 k l0 0 0
theorem credenzaref04_Sum.calls (k : Nat) (A0 : Option Addr) (c0 : Nat) (l0 : List Int) (r : Int) (w : World) (hr0 : Kd.C (Kd.int .i64) w A0 l0.length l0) (hc0 : l0.length ≤ c0) (h : credenzaref04_Sum.f k l0 = some r) :
  Calls Try.prog 53 #[.slice A0 l0.length c0] w fun e w' => e = .returned (.int .i64 r) ∧ Drawn0 w w' := by
 have HR0 := A_ hr0
 have HC0 := A_ hc0
 clear hr0 hc0
 have H := h
 unfold credenzaref04_Sum.f at H
 clear h
 have H' := A_ H
 clear H
 go_enter Try.func53, Try.ntmps53
 go_wp2
 go_loopg [3, 4] k (fun kq v3 v4 w' => ∃ (x3_1 : Int) (x4_1 : Int), v3 = .int .i64 x3_1 ∧ v4 = .int .i64 x4_1 ∧ Aside0 (credenzaref04_Sum.l0 kq l0 x3_1 x4_1 = some r) ∧ Aside0 (kq ≤ k) ∧ Drawn0 w w')
 case atStart => exact ⟨(0), (0), rs_, rs_, H', ⟨Nat.le_refl _⟩, d0_⟩
 case round =>
  clear H'
  obtain ⟨x3_1, x4_1, rfl, rfl, HA, HK1, ⟨m1, rfl⟩⟩ := hrel
  cases gk with
  | zero => exact absurd HA.out (by simp [credenzaref04_Sum.l0])
  | succ k1 =>
   have H := HA.out
   clear HA
   simp only [credenzaref04_Sum.l0] at H
   by_cases c2 : x4_1 < (l0.length : Int)
   ·rw [if_pos c2] at H
    have c2b0 : decide (x4_1 < (l0.length : Int)) = true := decide_eq_true c2
    clear c2
    by_cases c3 : 0 ≤ x4_1
    ·rw [if_pos c3] at H
     have c3b0 : decide (0 ≤ x4_1) = true := decide_eq_true c3
     clear c3
     have H' := A_ H
     clear H
     have p231 : 0 ≤ (x4_1 : Int) := od_
     have q231 : x4_1 < (l0.length : Int) := od_
     obtain ⟨ad231, e231, hx231_0⟩ := Kd.at_int HR0.out x4_1 p231 q231
     cases e231
     replace p231 := eq_true p231
     replace q231 := eq_true q231
     go_wp2
     go_roundg k1
     case measure => have := HK1.out; omega
     case rel => exact ⟨(wrap64 (x3_1 + (rd l0 x4_1))), (wrap64 (x4_1 + 1)), rs_, rs_, H', ⟨by have := HK1.out; omega⟩, d0_⟩
    ·rw [if_neg c3] at H
     exact absurd H (by simp)
   ·rw [if_neg c2] at H
    have c2b0 : decide (x4_1 < (l0.length : Int)) = false := decide_eq_false c2
    clear c2
    obtain rfl := Option.some.inj H
    go_wp2
    go_ret
    exact ⟨rs_, d0_⟩
mutual
def credenzaref04_Mix.l0 : Nat → List Int → List (List Int) → List Int → Int → Option (List Int)
 | 0, _, _, _, _ => none
 | k + 1, x0, x1, x5, x6 => if 0 < (x1.length : Int) then (if x6 < ((rd_L11 x1 0).length : Int) then (credenzaref04_Mix.l1 k x0 x1 x5 x6 0 0) else (some x5)) else (none)
def credenzaref04_Mix.l1 : Nat → List Int → List (List Int) → List Int → Int → Int → Int → Option (List Int)
 | 0, _, _, _, _, _, _ => none
 | k + 1, x0, x1, x5, x6, x7, x8 => if x8 < (x1.length : Int) then (if 0 ≤ x8 then (if x8 < (x0.length : Int) then (if 0 ≤ x6 then (if x6 < ((rd_L11 x1 x8).length : Int) then (credenzaref04_Mix.l1 k x0 x1 x5 x6 (wrap64 (x7 + (wrap64 ((rd x0 x8) * (wrap64 (rd (rd_L11 x1 x8) x6)))))) (wrap64 (x8 + 1))) else (none)) else (none)) else (none)) else (none)) else ((credenzaref04_Sum.f k x0).bind fun t236 => ((credenzaref01_Ratio.f x7 t236).bind fun t237 => ((credenzaref01_Narrow.f t237).bind fun t238 => (if x5.length < 35184372088832 then (credenzaref04_Mix.l0 k x0 x1 (x5 ++ [t238]) (wrap64 (x6 + 1))) else (none)))))
end
def credenzaref04_Mix.f (k : Nat) (l0 : List Int) (l1 : List (List Int)) : Option (List Int) := credenzaref04_Mix.l0 k l0 l1 ([] : List Int) 0
theorem credenzaref04_Mix.calls (k : Nat) (A0 : Option Addr) (c0 : Nat) (l0 : List Int) (A1 : Option Addr) (c1 : Nat) (l1 : List (List Int)) (r : List Int) (w : World) (hr0 : Kd.C (Kd.int .i64) w A0 l0.length l0) (hc0 : l0.length ≤ c0) (hr1 : Kd.C (Kd.slice 21 (Kd.int .i32)) w A1 l1.length l1) (hc1 : l1.length ≤ c1) (h : credenzaref04_Mix.f k l0 l1 = some r) :
  Calls Try.prog 32 #[.slice A0 l0.length c0, .slice A1 l1.length c1] w fun e w' => ∃ v0_ : Value, e = .returned (v0_) ∧ Kd.R (Kd.int .i32) 21 w' w.heap.size (fun _ => True) v0_ r ∧ Below w.heap.size w w' := by
 have HR0 := A_ hr0
 have HC0 := A_ hc0
 clear hr0 hc0
 have HR1 := A_ hr1
 have HC1 := A_ hc1
 clear hr1 hc1
 have HB := A_ (Below.refl w.heap.size w)
 have H := h
 unfold credenzaref04_Mix.f at H
 clear h
 have H' := A_ H
 clear H
 go_enter Try.func32, Try.ntmps32
 go_wp2
 repeat (go_quiet (fail); try go_wp2)
 go_loopg [5, 6] k (fun kq v5 v6 w' => ∃ (x5_1 : List Int) (x6_1 : Int), v6 = .int .i64 x6_1 ∧ Aside0 (credenzaref04_Mix.l0 kq l0 l1 x5_1 x6_1 = some r) ∧ Aside0 (kq ≤ k) ∧ Aside0 (Kd.R (Kd.int .i32) 21 w' w.heap.size (fun _ => True) v5 x5_1) ∧ Aside0 (Below w.heap.size w w'))
 case atStart => exact ⟨(([] : List Int)), (0), rs_, H', ⟨Nat.le_refl _⟩, ⟨nil_⟩, ⟨bl_⟩⟩
 case round =>
  clear H'
  obtain ⟨x5_1, x6_1, rfl, HA, HK1, HO_5, HB⟩ := hrel
  cases gk with
  | zero => exact absurd HA.out (by simp [credenzaref04_Mix.l0])
  | succ k1 =>
   have H := HA.out
   clear HA
   simp only [credenzaref04_Mix.l0] at H
   by_cases c3 : 0 < (l1.length : Int)
   ·rw [if_pos c3] at H
    have c3b0 : decide (0 < (l1.length : Int)) = true := decide_eq_true c3
    have c3b1 : decide (0 < l1.length) = true := decide_eq_true (by omega)
    clear c3
    by_cases c4 : x6_1 < ((rd_L11 l1 0).length : Int)
    ·rw [if_pos c4] at H
     have c4b0 : decide (x6_1 < ((rd_L11 l1 0).length : Int)) = true := decide_eq_true c4
     clear c4
     have H' := A_ H
     clear H
     have p232 : 0 ≤ (0 : Int) := (by omega)
     have q232 : 0 < (l1.length : Int) := od_
     obtain ⟨ad232, A232_0, c232_0, e232, hx232_0, hl232_0, hi232_0⟩ := at_L11 HR1.out 0 p232 q232
     cases e232
     have qi232 : (0 < l1.length) = True := eq_true (by omega)
     (try rw [show ((0 : Int)).toNat = 0 from rfl] at hx232_0)
     (try rw [Addr.add_zero'] at hx232_0)
     replace hx232_0 := hc_ HB.out hx232_0
     have HR232_0 := A_ hi232_0
     have HC232_0 := A_ hl232_0
     clear hi232_0 hl232_0
     replace p232 := eq_true p232
     replace q232 := eq_true q232
     go_wp2
     repeat (go_quiet (fail); try go_wp2)
     go_loopg [7, 8] k1 (fun kq v7 v8 w' => ∃ (x7_2 : Int) (x8_2 : Int), v7 = .int .i64 x7_2 ∧ v8 = .int .i64 x8_2 ∧ Aside0 (credenzaref04_Mix.l1 kq l0 l1 x5_1 x6_1 x7_2 x8_2 = some r) ∧ Aside0 (kq ≤ k1) ∧ Aside0 (Kd.R (Kd.int .i32) 21 w' w.heap.size (fun _ => True) u5 x5_1) ∧ Aside0 (Below w.heap.size w w'))
     case atStart => exact ⟨(0), (0), rs_, rs_, H', ⟨Nat.le_refl _⟩, ⟨mv_ HO_5.out⟩, ⟨bl_⟩⟩
     case round =>
      clear H'
      obtain ⟨x7_2, x8_2, rfl, rfl, HA, HK2, HO_5, HB⟩ := hrel
      cases gk with
      | zero => exact absurd HA.out (by simp [credenzaref04_Mix.l1])
      | succ k2 =>
       have H := HA.out
       clear HA
       simp only [credenzaref04_Mix.l1] at H
       by_cases c5 : x8_2 < (l1.length : Int)
       ·rw [if_pos c5] at H
        have c5b0 : decide (x8_2 < (l1.length : Int)) = true := decide_eq_true c5
        clear c5
        by_cases c6 : 0 ≤ x8_2
        ·rw [if_pos c6] at H
         have c6b0 : decide (0 ≤ x8_2) = true := decide_eq_true c6
         clear c6
         by_cases c7 : x8_2 < (l0.length : Int)
         ·rw [if_pos c7] at H
          have c7b0 : decide (x8_2 < (l0.length : Int)) = true := decide_eq_true c7
          clear c7
          by_cases c8 : 0 ≤ x6_1
          ·rw [if_pos c8] at H
           have c8b0 : decide (0 ≤ x6_1) = true := decide_eq_true c8
           clear c8
           by_cases c9 : x6_1 < ((rd_L11 l1 x8_2).length : Int)
           ·rw [if_pos c9] at H
            have c9b0 : decide (x6_1 < ((rd_L11 l1 x8_2).length : Int)) = true := decide_eq_true c9
            clear c9
            have H' := A_ H
            clear H
            have p233 : 0 ≤ (x8_2 : Int) := od_
            have q233 : x8_2 < (l0.length : Int) := od_
            obtain ⟨ad233, e233, hx233_0⟩ := Kd.at_int HR0.out x8_2 p233 q233
            cases e233
            replace hx233_0 := hc_ HB.out hx233_0
            replace p233 := eq_true p233
            replace q233 := eq_true q233
            have p234 : 0 ≤ (x8_2 : Int) := od_
            have q234 : x8_2 < (l1.length : Int) := od_
            obtain ⟨ad234, A234_0, c234_0, e234, hx234_0, hl234_0, hi234_0⟩ := at_L11 HR1.out x8_2 p234 q234
            obtain rfl : ad232 = ad234 := (by injection e234)
            replace hx234_0 := hc_ HB.out hx234_0
            have HR234_0 := A_ hi234_0
            have HC234_0 := A_ hl234_0
            clear hi234_0 hl234_0
            replace p234 := eq_true p234
            replace q234 := eq_true q234
            have p235 : 0 ≤ (x6_1 : Int) := od_
            have q235 : x6_1 < ((rd_L11 l1 x8_2).length : Int) := od_
            obtain ⟨ad235, e235, hx235_0⟩ := Kd.at_int HR234_0.out x6_1 p235 q235
            cases e235
            replace hx235_0 := hc_ HB.out hx235_0
            replace p235 := eq_true p235
            replace q235 := eq_true q235
            go_wp2
            repeat (go_quiet (fail); try go_wp2)
            go_roundg k2
            case measure => have := HK1.out; have := HK2.out; omega
            case rel => exact ⟨(wrap64 (x7_2 + (wrap64 ((rd l0 x8_2) * (wrap64 (rd (rd_L11 l1 x8_2) x6_1)))))), (wrap64 (x8_2 + 1)), rs_, rs_, H', ⟨by have := HK1.out; have := HK2.out; omega⟩, ⟨mv_ HO_5.out⟩, ⟨bl_⟩⟩
           ·rw [if_neg c9] at H
            exact absurd H (by simp)
          ·rw [if_neg c8] at H
           exact absurd H (by simp)
         ·rw [if_neg c7] at H
          exact absurd H (by simp)
        ·rw [if_neg c6] at H
         exact absurd H (by simp)
       ·rw [if_neg c5] at H
        have c5b0 : decide (x8_2 < (l1.length : Int)) = false := decide_eq_false c5
        clear c5
        replace H := ob_ H
        obtain ⟨t236, A10, H⟩ := H
        try dsimp only at H
        replace H := ob_ H
        obtain ⟨t237, A11, H⟩ := H
        try dsimp only at H
        replace H := ob_ H
        obtain ⟨t238, A12, H⟩ := H
        try dsimp only at H
        by_cases c13 : x5_1.length < 35184372088832
        ·rw [if_pos c13] at H
         have LMc13 := A_ c13
         clear c13
         obtain ⟨y239, hy239⟩ : ∃ y_ : List Int, y_ = (x5_1 ++ [t238]) := ⟨_, rfl⟩
         replace H : (credenzaref04_Mix.l0 k2 l0 l1 y239 (wrap64 (x6_1 + 1))) = some r := hy_ hy239 H
         have Ny239 := A_ hy239
         clear hy239
         have H' := A_ H
         clear H
         go_wp2_with (first | (go_at_call 53; (with_reducible refine (credenzaref04_Sum.calls k2 _ _ l0 t236 _ ?side1 ?side2 A10.out).mono ?_); (case side1 => exact cb_ (Kd.C_below HR0.out HB.out)); (case side2 => exact HC0.out); rintro e w' ⟨rfl, ⟨nd, rfl⟩⟩; (try exact dd_)) | (go_at_call 29; (with_reducible refine (credenzaref01_Ratio.calls x7_2 t236 t237 _ A11.out).mono ?_); rintro e w' ⟨rfl, ⟨nd, rfl⟩⟩; (try exact dd_)) | (go_at_call 34; (with_reducible refine (credenzaref01_Narrow.calls t237 t238 _ A12.out).mono ?_); rintro e w' ⟨rfl, ⟨nd, rfl⟩⟩; (try exact dd_)) | ((with_reducible refine gate_builtin (b := .append) (xs := #[.tmp 38, .tmp 44]) rfl ?_); at_builtin; refine Kd.R_append (Kd.int .i32) (w0 := w) w.heap.size rfl (.tmp 38) (.tmp 44) 22 21 (.int .i32 0) 4 rfl Try.underlying22 info21 rfl (by decide) (by omega) u5 x5_1 t238 [.int .i32 t238] (fun _ => True) (fun _ => False) rfl rfl ?aP (fun _ hk => hk.elim) ?aF ?aO ?aB ?aS ?aL ?_; (case aP => exact rfl); (case aB => exact bl_); (case aF => exact (fun _ _ => trivial)); (case aO => exact (mv_ HO_5.out)); (case aS => exact (below_size bl_)); (case aL => have := LMc13.out; omega); intro v240 w14 ho hb hg hat; rw [← Ny239.out] at ho; have HO241 := A_ ho; replace HB := A_ hb; clear HO_5 ho hb hg hat))
         repeat (go_quiet (first | (go_at_call 53; (with_reducible refine (credenzaref04_Sum.calls k2 _ _ l0 t236 _ ?side1 ?side2 A10.out).mono ?_); (case side1 => exact cb_ (Kd.C_below HR0.out HB.out)); (case side2 => exact HC0.out); rintro e w' ⟨rfl, ⟨nd, rfl⟩⟩; (try exact dd_)) | (go_at_call 29; (with_reducible refine (credenzaref01_Ratio.calls x7_2 t236 t237 _ A11.out).mono ?_); rintro e w' ⟨rfl, ⟨nd, rfl⟩⟩; (try exact dd_)) | (go_at_call 34; (with_reducible refine (credenzaref01_Narrow.calls t237 t238 _ A12.out).mono ?_); rintro e w' ⟨rfl, ⟨nd, rfl⟩⟩; (try exact dd_)) | ((with_reducible refine gate_builtin (b := .append) (xs := #[.tmp 38, .tmp 44]) rfl ?_); at_builtin; refine Kd.R_append (Kd.int .i32) (w0 := w) w.heap.size rfl (.tmp 38) (.tmp 44) 22 21 (.int .i32 0) 4 rfl Try.underlying22 info21 rfl (by decide) (by omega) u5 x5_1 t238 [.int .i32 t238] (fun _ => True) (fun _ => False) rfl rfl ?aP (fun _ hk => hk.elim) ?aF ?aO ?aB ?aS ?aL ?_; (case aP => exact rfl); (case aB => exact bl_); (case aF => exact (fun _ _ => trivial)); (case aO => exact (mv_ HO_5.out)); (case aS => exact (below_size bl_)); (case aL => have := LMc13.out; omega); intro v240 w14 ho hb hg hat; rw [← Ny239.out] at ho; have HO241 := A_ ho; replace HB := A_ hb; clear HO_5 ho hb hg hat)); try go_wp2_with (first | (go_at_call 53; (with_reducible refine (credenzaref04_Sum.calls k2 _ _ l0 t236 _ ?side1 ?side2 A10.out).mono ?_); (case side1 => exact cb_ (Kd.C_below HR0.out HB.out)); (case side2 => exact HC0.out); rintro e w' ⟨rfl, ⟨nd, rfl⟩⟩; (try exact dd_)) | (go_at_call 29; (with_reducible refine (credenzaref01_Ratio.calls x7_2 t236 t237 _ A11.out).mono ?_); rintro e w' ⟨rfl, ⟨nd, rfl⟩⟩; (try exact dd_)) | (go_at_call 34; (with_reducible refine (credenzaref01_Narrow.calls t237 t238 _ A12.out).mono ?_); rintro e w' ⟨rfl, ⟨nd, rfl⟩⟩; (try exact dd_)) | ((with_reducible refine gate_builtin (b := .append) (xs := #[.tmp 38, .tmp 44]) rfl ?_); at_builtin; refine Kd.R_append (Kd.int .i32) (w0 := w) w.heap.size rfl (.tmp 38) (.tmp 44) 22 21 (.int .i32 0) 4 rfl Try.underlying22 info21 rfl (by decide) (by omega) u5 x5_1 t238 [.int .i32 t238] (fun _ => True) (fun _ => False) rfl rfl ?aP (fun _ hk => hk.elim) ?aF ?aO ?aB ?aS ?aL ?_; (case aP => exact rfl); (case aB => exact bl_); (case aF => exact (fun _ _ => trivial)); (case aO => exact (mv_ HO_5.out)); (case aS => exact (below_size bl_)); (case aL => have := LMc13.out; omega); intro v240 w14 ho hb hg hat; rw [← Ny239.out] at ho; have HO241 := A_ ho; replace HB := A_ hb; clear HO_5 ho hb hg hat)))
         go_roundg k2
         case measure => have := HK1.out; have := HK2.out; omega
         case rel => exact ⟨(y239), (wrap64 (x6_1 + 1)), rs_, H', ⟨by have := HK1.out; have := HK2.out; omega⟩, ⟨mv_ HO241.out⟩, ⟨bl_⟩⟩
        ·rw [if_neg c13] at H
         exact absurd H (by simp)
    ·rw [if_neg c4] at H
     have c4b0 : decide (x6_1 < ((rd_L11 l1 0).length : Int)) = false := decide_eq_false c4
     clear c4
     obtain rfl := Option.some.inj H
     have p232 : 0 ≤ (0 : Int) := (by omega)
     have q232 : 0 < (l1.length : Int) := od_
     obtain ⟨ad232, A232_0, c232_0, e232, hx232_0, hl232_0, hi232_0⟩ := at_L11 HR1.out 0 p232 q232
     cases e232
     have qi232 : (0 < l1.length) = True := eq_true (by omega)
     (try rw [show ((0 : Int)).toNat = 0 from rfl] at hx232_0)
     (try rw [Addr.add_zero'] at hx232_0)
     replace hx232_0 := hc_ HB.out hx232_0
     have HR232_0 := A_ hi232_0
     have HC232_0 := A_ hl232_0
     clear hi232_0 hl232_0
     replace p232 := eq_true p232
     replace q232 := eq_true q232
     go_wp2
     repeat (go_quiet (fail); try go_wp2)
     go_ret
     exact ⟨_, ew_, by (with_reducible repeat (first | apply Kd.R_alloc | apply Kd.R_drewN | apply Kd.R_drew)); exact HO_5.out, bl_⟩
   ·rw [if_neg c3] at H
    exact absurd H (by simp)
def credenzaref14_Gather.l0 : Nat → List Int → List (List Int) → List (List Int) → List Int → List (List Int) → Int → Option (List Int)
 | 0, _, _, _, _, _, _ => none
 | k + 1, x0, x1, x2, x7, x8, x9 => if x9 < (x1.length : Int) then (if 0 ≤ x9 then ((credenzaref14_Score.f k x0 (rd_L11 x1 x9)).bind fun t259 => (if x7.length < 35184372088832 then (if x9 < (x2.length : Int) then ((credenzaref14_Narrow.f k (rd_L11 x2 x9)).bind fun t264 => (if x8.length < 5864062014805 then (credenzaref14_Gather.l0 k x0 x1 x2 (x7 ++ [t259]) (x8 ++ [t264]) (wrap64 (x9 + 1))) else (none))) else (none)) else (none))) else (none)) else ((credenzaref04_Weights.f k x7).bind fun t270 => ((credenzaref04_Mix.f k t270 x8).bind fun t273 => (some t273)))
def credenzaref14_Gather.f (k : Nat) (l0 : List Int) (l1 : List (List Int)) (l2 : List (List Int)) : Option (List Int) := credenzaref14_Gather.l0 k l0 l1 l2 ([] : List Int) ([] : List (List Int)) 0
theorem credenzaref14_Gather.calls (k : Nat) (A0 : Option Addr) (c0 : Nat) (l0 : List Int) (A1 : Option Addr) (c1 : Nat) (l1 : List (List Int)) (A2 : Option Addr) (c2 : Nat) (l2 : List (List Int)) (r : List Int) (w : World) (hr0 : Kd.C (Kd.int .i32) w A0 l0.length l0) (hc0 : l0.length ≤ c0) (hr1 : Kd.C (Kd.slice 21 (Kd.int .i32)) w A1 l1.length l1) (hc1 : l1.length ≤ c1) (hr2 : Kd.C (Kd.slice 21 (Kd.int .i32)) w A2 l2.length l2) (hc2 : l2.length ≤ c2) (h : credenzaref14_Gather.f k l0 l1 l2 = some r) :
  Calls Try.prog 15 #[.slice A0 l0.length c0, .slice A1 l1.length c1, .slice A2 l2.length c2] w fun e w' => ∃ v0_ : Value, e = .returned (v0_) ∧ Kd.R (Kd.int .i32) 21 w' w.heap.size (fun _ => True) v0_ r ∧ Below w.heap.size w w' := by
 have HR0 := A_ hr0
 have HC0 := A_ hc0
 clear hr0 hc0
 have HR1 := A_ hr1
 have HC1 := A_ hc1
 clear hr1 hc1
 have HR2 := A_ hr2
 have HC2 := A_ hc2
 clear hr2 hc2
 have HB := A_ (Below.refl w.heap.size w)
 have H := h
 unfold credenzaref14_Gather.f at H
 clear h
 have H' := A_ H
 clear H
 go_enter Try.func15, Try.ntmps15
 go_wp2
 go_loopg [7, 8, 9] k (fun kq v7 v8 v9 w' => ∃ (x7_1 : List Int) (x8_1 : List (List Int)) (x9_1 : Int), v9 = .int .i64 x9_1 ∧ Aside0 (credenzaref14_Gather.l0 kq l0 l1 l2 x7_1 x8_1 x9_1 = some r) ∧ Aside0 (kq ≤ k) ∧ Aside0 (Kd.R (Kd.int .i32) 21 w' w.heap.size (fun _ => True) v7 x7_1) ∧ Aside0 (Kd.S (Kd.slice 21 (Kd.int .i32)) 22 w' w.heap.size (fun k_ => some k_ ≠ (v7 : Value).ownBlock) v8 x8_1) ∧ Aside0 (Below w.heap.size w w'))
 case atStart => exact ⟨(([] : List Int)), (([] : List (List Int))), (0), rs_, H', ⟨Nat.le_refl _⟩, ⟨nil_⟩, ⟨nil_⟩, ⟨bl_⟩⟩
 case round =>
  clear H'
  obtain ⟨x7_1, x8_1, x9_1, rfl, HA, HK1, HO_7, HO_8, HB⟩ := hrel
  cases gk with
  | zero => exact absurd HA.out (by simp [credenzaref14_Gather.l0])
  | succ k1 =>
   have H := HA.out
   clear HA
   simp only [credenzaref14_Gather.l0] at H
   by_cases c4 : x9_1 < (l1.length : Int)
   ·rw [if_pos c4] at H
    have c4b0 : decide (x9_1 < (l1.length : Int)) = true := decide_eq_true c4
    clear c4
    by_cases c5 : 0 ≤ x9_1
    ·rw [if_pos c5] at H
     have c5b0 : decide (0 ≤ x9_1) = true := decide_eq_true c5
     clear c5
     replace H := ob_ H
     obtain ⟨t259, A6, H⟩ := H
     try dsimp only at H
     by_cases c7 : x7_1.length < 35184372088832
     ·rw [if_pos c7] at H
      have LMc7 := A_ c7
      clear c7
      obtain ⟨y260, hy260⟩ : ∃ y_ : List Int, y_ = (x7_1 ++ [t259]) := ⟨_, rfl⟩
      replace H : (if x9_1 < (l2.length : Int) then ((credenzaref14_Narrow.f k1 (rd_L11 l2 x9_1)).bind fun t264 => (if x8_1.length < 5864062014805 then (credenzaref14_Gather.l0 k1 l0 l1 l2 y260 (x8_1 ++ [t264]) (wrap64 (x9_1 + 1))) else (none))) else (none)) = some r := hy_ hy260 H
      have Ny260 := A_ hy260
      clear hy260
      by_cases c8 : x9_1 < (l2.length : Int)
      ·rw [if_pos c8] at H
       have c8b0 : decide (x9_1 < (l2.length : Int)) = true := decide_eq_true c8
       clear c8
       replace H := ob_ H
       obtain ⟨t264, A9, H⟩ := H
       try dsimp only at H
       by_cases c10 : x8_1.length < 5864062014805
       ·rw [if_pos c10] at H
        have LMc10 := A_ c10
        clear c10
        obtain ⟨y267, hy267⟩ : ∃ y_ : List (List Int), y_ = (x8_1 ++ [t264]) := ⟨_, rfl⟩
        replace H : (credenzaref14_Gather.l0 k1 l0 l1 l2 y260 y267 (wrap64 (x9_1 + 1))) = some r := hy_ hy267 H
        have Ny267 := A_ hy267
        clear hy267
        have H' := A_ H
        clear H
        have p258 : 0 ≤ (x9_1 : Int) := od_
        have q258 : x9_1 < (l1.length : Int) := od_
        obtain ⟨ad258, A258_0, c258_0, e258, hx258_0, hl258_0, hi258_0⟩ := at_L11 HR1.out x9_1 p258 q258
        cases e258
        replace hx258_0 := hc_ HB.out hx258_0
        have HR258_0 := A_ hi258_0
        have HC258_0 := A_ hl258_0
        clear hi258_0 hl258_0
        replace p258 := eq_true p258
        replace q258 := eq_true q258
        go_wp2_with (first | (refine goesL_ (some 22) rfl rfl Try.func10 (by kernel_rfl) rfl #[.slice A0 l0.length c0, .slice A258_0 (rd_L11 l1 x9_1).length c258_0] rfl ar_ ?_; (with_reducible refine (credenzaref14_Score.calls k1 _ _ l0 _ _ (rd_L11 l1 x9_1) t259 _ ?side1 ?side2 ?side3 ?side4 A6.out).mono ?_); (case side1 => exact cb_ (Kd.C_below HR0.out HB.out)); (case side2 => exact HC0.out); (case side3 => exact cb_ (Kd.C_below HR258_0.out HB.out)); (case side4 => exact HC258_0.out); rintro e w11 ⟨rfl, hb⟩; refine ⟨_, rfl, ?_⟩; replace HO_7 := A_ (Kd.R_below (mv_ HO_7.out) hb); replace HO_8 := A_ (Kd.S_below (mv_ HO_8.out) hb); replace HB := A_ (below_step bl_ hb)) | ((with_reducible refine gate_builtin (b := .append) (xs := #[.tmp 16, .tmp 23]) rfl ?_); at_builtin; refine Kd.R_append (Kd.int .i32) (w0 := w) w.heap.size rfl (.tmp 16) (.tmp 23) 22 21 (.int .i32 0) 4 rfl Try.underlying22 info21 rfl (by decide) (by omega) u7 x7_1 t259 [.int .i32 t259] (fun _ => True) (fun _ => False) rfl rfl ?aP (fun _ hk => hk.elim) ?aF ?aO ?aB ?aS ?aL ?_; (case aP => exact rfl); (case aB => exact bl_); (case aF => exact (fun _ _ => trivial)); (case aO => exact (mv_ HO_7.out)); (case aS => exact (below_size bl_)); (case aL => have := LMc7.out; omega); intro v261 w12 ho hb hg hat; rw [← Ny260.out] at ho; replace HO_8 := A_ (Kd.S_after (ok := (fun _ => True)) (by (with_reducible repeat (first | apply Kd.S_alloc | apply Kd.S_drewN | apply Kd.S_drew)); exact Kd.S_mono HO_8.out (fun _ hk => ⟨trivial, hk⟩)) hg hat); have HO262 := A_ ho; replace HB := A_ hb; clear HO_7 ho hb hg hat; have p263 : 0 ≤ (x9_1 : Int) := od_; have q263 : x9_1 < (l2.length : Int) := od_; obtain ⟨ad263, A263_0, c263_0, e263, hx263_0, hl263_0, hi263_0⟩ := at_L11 HR2.out x9_1 p263 q263; cases e263; replace hx263_0 := hc_ HB.out hx263_0; have HR263_0 := A_ hi263_0; have HC263_0 := A_ hl263_0; clear hi263_0 hl263_0; replace p263 := eq_true p263; replace q263 := eq_true q263) | (refine goesL_ (some 30) rfl rfl Try.func16 (by kernel_rfl) rfl #[.slice A263_0 (rd_L11 l2 x9_1).length c263_0] rfl ar_ ?_; (with_reducible refine (credenzaref14_Narrow.calls k1 _ _ (rd_L11 l2 x9_1) t264 _ ?side1 ?side2 A9.out).mono ?_); (case side1 => exact cb_ (Kd.C_below HR263_0.out HB.out)); (case side2 => exact HC263_0.out); rintro e w13 ⟨v265, rfl, ho0, hb⟩; refine ⟨_, rfl, ?_⟩; replace HO_8 := A_ (Kd.S_elder' (mv_ HO_8.out) (Kd.R_base ho0) hb); have HO266 := A_ (Kd.R_lower (Kd.R_new' ho0 (Kd.R_lt (mv_ HO262.out))) (below_size bl_)); replace HO262 := A_ (Kd.R_elder' (mv_ HO262.out) (Kd.R_base ho0) hb); replace HB := A_ (below_step bl_ hb); obtain ⟨Ao15, co15, eo15⟩ := Kd.R_slice HO266.out; subst eo15) | ((with_reducible refine gate_builtin (b := .append) (xs := #[.tmp 25, .tmp 31]) rfl ?_); at_builtin; refine Kd.S_append (Kd.slice 21 (Kd.int .i32)) (w0 := w) w.heap.size rfl (.tmp 25) (.tmp 31) 29 22 (.slice none 0 0) 24 rfl Try.underlying29 info22 rfl (by decide) (by omega) u8 x8_1 t264 [.slice Ao15 t264.length co15] (fun k_ => some k_ ≠ (v261 : Value).ownBlock) (fun k_ => some k_ = (.slice Ao15 t264.length co15 : Value).ownBlock) rfl rfl ?aP (fun k_ hk_ => ((Kd.R_mono (ok' := fun k_ => ((fun k_ => some k_ ≠ (v261 : Value).ownBlock)) k_ ∧ some k_ ≠ (u8 : Value).ownBlock) (Kd.R_apart' (HO266.out) (Kd.S_typed HO_8.out) (by decide)) (fun k_ hk => ⟨hk.1.2, hk.2⟩))).1 k_ hk_.symm) ?aF ?aO ?aB ?aS ?aL ?_; (case aP => exact Kd.M_row (Kd.R_mono (Kd.R_tight rfl (Kd.R_mono (ok' := fun k_ => ((fun k_ => some k_ ≠ (v261 : Value).ownBlock)) k_ ∧ some k_ ≠ (u8 : Value).ownBlock) (Kd.R_apart' (HO266.out) (Kd.S_typed HO_8.out) (by decide)) (fun k_ hk => ⟨hk.1.2, hk.2⟩))) (fun _ h_ => h_))); (case aB => exact bl_); (case aF => exact (fun k_ hk => Kd.fresh' (Kd.R_lt (mv_ HO262.out)) k_ hk)); (case aO => exact (by (with_reducible repeat (first | apply Kd.S_alloc | apply Kd.S_drewN | apply Kd.S_drew)); exact Kd.S_mono HO_8.out (fun k_ hk => ⟨hk.1.2, fun e_ => hk.2 e_⟩))); (case aS => exact (below_size bl_)); (case aL => have := LMc10.out; omega); intro v268 w14 ho hb hg hat; rw [← Ny267.out] at ho; replace HO262 := A_ (Kd.R_over' (mv_ HO262.out) (Kd.S_typed (mv_ HO_8.out)) (by decide) hg); have HO269 := A_ ho; replace HB := A_ hb; clear HO_8 HO266 ho hb hg hat))
        go_roundg k1
        case measure => have := HK1.out; omega
        case rel => exact ⟨(y260), (y267), (wrap64 (x9_1 + 1)), rs_, H', ⟨by have := HK1.out; omega⟩, ⟨by (with_reducible repeat (first | apply Kd.R_alloc | apply Kd.R_drewN | apply Kd.R_drew)); exact Kd.R_mono HO262.out (fun _ hk => trivial)⟩, ⟨mv_ HO269.out⟩, ⟨bl_⟩⟩
       ·rw [if_neg c10] at H
        exact absurd H (by simp)
      ·rw [if_neg c8] at H
       exact absurd H (by simp)
     ·rw [if_neg c7] at H
      exact absurd H (by simp)
    ·rw [if_neg c5] at H
     exact absurd H (by simp)
   ·rw [if_neg c4] at H
    have c4b0 : decide (x9_1 < (l1.length : Int)) = false := decide_eq_false c4
    clear c4
    replace H := ob_ H
    obtain ⟨t270, A16, H⟩ := H
    try dsimp only at H
    replace H := ob_ H
    obtain ⟨t273, A17, H⟩ := H
    try dsimp only at H
    obtain rfl := Option.some.inj H
    obtain ⟨Ao18, co18, eo18⟩ := Kd.R_slice HO_7.out
    subst eo18
    go_wp2_with (first | (refine goesL_ (some 34) rfl rfl Try.func33 (by kernel_rfl) rfl #[.slice Ao18 x7_1.length co18] rfl ar_ ?_; (with_reducible refine (credenzaref04_Weights.calls k1 _ _ x7_1 t270 _ ?side1 ?side2 A16.out).mono ?_); (case side1 => exact cb_ (Kd.R_reads' HO_7.out).2.2); (case side2 => exact (Kd.R_reads' HO_7.out).2.1); rintro e w19 ⟨v271, rfl, ho0, hb⟩; refine ⟨_, rfl, ?_⟩; replace HO_7 := A_ (Kd.R_below (mv_ HO_7.out) hb); replace HO_8 := A_ (Kd.S_below (mv_ HO_8.out) hb); have HO272 := A_ (Kd.R_lower ho0 (below_size bl_)); replace HB := A_ (below_step bl_ hb); obtain ⟨Ao20, co20, eo20⟩ := Kd.R_slice HO272.out; subst eo20; obtain ⟨Ao21, co21, eo21⟩ := Kd.S_slice HO_8.out; subst eo21) | (refine goesL_ (some 36) rfl rfl Try.func32 (by kernel_rfl) rfl #[.slice Ao20 t270.length co20, .slice Ao21 x8_1.length co21] rfl ar_ ?_; (with_reducible refine (credenzaref04_Mix.calls k1 _ _ t270 _ _ x8_1 t273 _ ?side1 ?side2 ?side3 ?side4 A17.out).mono ?_); (case side1 => exact cb_ (Kd.R_reads' HO272.out).2.2); (case side2 => exact (Kd.R_reads' HO272.out).2.1); (case side3 => exact cb_ (Kd.S_reads' HO_8.out).2.2); (case side4 => exact (Kd.S_reads' HO_8.out).2.1); rintro e w22 ⟨v274, rfl, ho0, hb⟩; refine ⟨_, rfl, ?_⟩; replace HO_8 := A_ (Kd.S_elder' (mv_ HO_8.out) (Kd.R_base ho0) hb); replace HO272 := A_ (Kd.R_below (mv_ HO272.out) hb); have HO275 := A_ (Kd.R_lower (Kd.R_new' ho0 (Kd.R_lt (mv_ HO_7.out))) (below_size bl_)); replace HO_7 := A_ (Kd.R_elder' (mv_ HO_7.out) (Kd.R_base ho0) hb); replace HB := A_ (below_step bl_ hb)))
    go_ret
    exact ⟨_, ew_, by (with_reducible repeat (first | apply Kd.R_alloc | apply Kd.R_drewN | apply Kd.R_drew)); exact Kd.R_mono HO275.out (fun _ hk => trivial), bl_⟩
mutual
def credenzaref14_Right.j0 : Nat → List (List Int) → List (List Int) → Int → Bool → Option (Int)
 | 0, _, _, _, _ => none
 | k + 1, x1, x2, x7, x37 => if x37 = true then (some 25) else (credenzaref14_Right.l0 k x1 x2 x7 0)
def credenzaref14_Right.l0 : Nat → List (List Int) → List (List Int) → Int → Int → Option (Int)
 | 0, _, _, _, _ => none
 | k + 1, x1, x2, x7, x8 => if x8 < (x1.length : Int) then (if 0 ≤ x8 then (if ((rd_L11 x1 x8).length : Int) = x7 then (if x8 < (x2.length : Int) then (if ((rd_L11 x2 x8).length : Int) = x7 then (credenzaref14_Right.l0 k x1 x2 x7 (wrap64 (x8 + 1))) else (some 25)) else (none)) else (some 25)) else (none)) else (some 0)
end
def credenzaref14_Right.f (k : Nat) (l0 : List Int) (l1 : List (List Int)) (l2 : List (List Int)) : Option (Int) := if (l1.length : Int) = 0 then (some 14) else (if (l1.length : Int) > 1024 then (some 12) else (if 0 < (l1.length : Int) then (if (l2.length : Int) = (l1.length : Int) then (if (l0.length : Int) = ((rd_L11 l1 0).length : Int) then (if ((rd_L11 l1 0).length : Int) < 1 then (credenzaref14_Right.j0 k l1 l2 ((rd_L11 l1 0).length : Int) true) else (credenzaref14_Right.j0 k l1 l2 ((rd_L11 l1 0).length : Int) (decide (((rd_L11 l1 0).length : Int) > 16)))) else (credenzaref14_Right.j0 k l1 l2 ((rd_L11 l1 0).length : Int) true)) else (credenzaref14_Right.j0 k l1 l2 ((rd_L11 l1 0).length : Int) true)) else (none)))
theorem credenzaref14_Right.mono_l : ∀ k, (∀ y0 y1 y2 y3, LeO (credenzaref14_Right.j0 k y0 y1 y2 y3) (credenzaref14_Right.j0 (k + 1) y0 y1 y2 y3)) ∧ (∀ y0 y1 y2 y3, LeO (credenzaref14_Right.l0 k y0 y1 y2 y3) (credenzaref14_Right.l0 (k + 1) y0 y1 y2 y3))
 | 0 => ⟨fun _ _ _ _ r h => by simp [credenzaref14_Right.j0] at h, fun _ _ _ _ r h => by simp [credenzaref14_Right.l0] at h⟩
 | k + 1 => by
  obtain ⟨ih0, ih1⟩ := credenzaref14_Right.mono_l k
  refine ⟨?_, ?_⟩
  ·intro y0 y1 y2 y3
   unfold credenzaref14_Right.j0
   repeat' with_reducible first | apply ih0 | apply ih1 | apply LeO.refl | apply LeO.none | refine LeO.ite ?_ ?_ | refine LeO.bind ?_ (fun _ => ?_)
  ·intro y0 y1 y2 y3
   unfold credenzaref14_Right.l0
   repeat' with_reducible first | apply ih0 | apply ih1 | apply LeO.refl | apply LeO.none | refine LeO.ite ?_ ?_ | refine LeO.bind ?_ (fun _ => ?_)
theorem credenzaref14_Right.mono : ∀ a0 a1 a2 k, LeO (credenzaref14_Right.f k a0 a1 a2) (credenzaref14_Right.f (k + 1) a0 a1 a2) := by
 intro a0 a1 a2 k
 obtain ⟨ih0, ih1⟩ := credenzaref14_Right.mono_l k
 unfold credenzaref14_Right.f
 repeat' with_reducible first | apply ih0 | apply ih1 | apply LeO.refl | apply LeO.none | refine LeO.ite ?_ ?_ | refine LeO.bind ?_ (fun _ => ?_)
theorem credenzaref14_Right.calls (k : Nat) (A0 : Option Addr) (c0 : Nat) (l0 : List Int) (A1 : Option Addr) (c1 : Nat) (l1 : List (List Int)) (A2 : Option Addr) (c2 : Nat) (l2 : List (List Int)) (r : Int) (w : World) (hr0 : Kd.C (Kd.int .i32) w A0 l0.length l0) (hc0 : l0.length ≤ c0) (hr1 : Kd.C (Kd.slice 21 (Kd.int .i32)) w A1 l1.length l1) (hc1 : l1.length ≤ c1) (hr2 : Kd.C (Kd.slice 21 (Kd.int .i32)) w A2 l2.length l2) (hc2 : l2.length ≤ c2) (h : credenzaref14_Right.f k l0 l1 l2 = some r) :
  Calls Try.prog 13 #[.slice A0 l0.length c0, .slice A1 l1.length c1, .slice A2 l2.length c2] w fun e w' => e = .returned (.int .i64 r) ∧ Drawn0 w w' := by
 have HR0 := A_ hr0
 have HC0 := A_ hc0
 clear hr0 hc0
 have HR1 := A_ hr1
 have HC1 := A_ hc1
 clear hr1 hc1
 have HR2 := A_ hr2
 have HC2 := A_ hc2
 clear hr2 hc2
 have H := h
 unfold credenzaref14_Right.f at H
 clear h
 by_cases c4 : (l1.length : Int) = 0
 ·rw [if_pos c4] at H
  have c4b0 : ((l1.length : Int) == 0) = true := beq_iff_eq.mpr c4
  have c4b1 : ((l1.length : Int) != 0) = false := bne_eq_false_iff_eq.mpr c4
  clear c4
  obtain rfl := Option.some.inj H
  go_enter Try.func13, Try.ntmps13
  go_wp2
  go_ret
  exact ⟨rs_, d0_⟩
 ·rw [if_neg c4] at H
  have c4b0 : ((l1.length : Int) == 0) = false := beq_eq_false_iff_ne.mpr c4
  have c4b1 : ((l1.length : Int) != 0) = true := bne_iff_ne.mpr c4
  have c4b2 : ¬ (l1 = []) := fun h_ => c4 (by rw [h_]; rfl)
  by_cases c5 : (l1.length : Int) > 1024
  ·rw [if_pos c5] at H
   have c5b0 : decide (1024 < (l1.length : Int)) = true := decide_eq_true c5
   have c5b1 : decide (1024 < l1.length) = true := decide_eq_true (by omega)
   clear c5
   obtain rfl := Option.some.inj H
   go_enter Try.func13, Try.ntmps13
   go_wp2
   go_ret
   exact ⟨rs_, d0_⟩
  ·rw [if_neg c5] at H
   have c5b0 : decide (1024 < (l1.length : Int)) = false := decide_eq_false c5
   have c5b1 : decide (1024 < l1.length) = false := decide_eq_false (by omega)
   clear c5
   by_cases c6 : 0 < (l1.length : Int)
   ·rw [if_pos c6] at H
    have c6b0 : decide (0 < (l1.length : Int)) = true := decide_eq_true c6
    have c6b1 : decide (0 < l1.length) = true := decide_eq_true (by omega)
    clear c6
    have HC7 := A_ H
    clear H
    have p226 : 0 ≤ (0 : Int) := (by omega)
    have q226 : 0 < (l1.length : Int) := od_
    obtain ⟨ad226, A226_0, c226_0, e226, hx226_0, hl226_0, hi226_0⟩ := at_L11 HR1.out 0 p226 q226
    cases e226
    have qi226 : (0 < l1.length) = True := eq_true (by omega)
    (try rw [show ((0 : Int)).toNat = 0 from rfl] at hx226_0)
    (try rw [Addr.add_zero'] at hx226_0)
    have HR226_0 := A_ hi226_0
    have HC226_0 := A_ hl226_0
    clear hi226_0 hl226_0
    replace p226 := eq_true p226
    replace q226 := eq_true q226
    go_enter Try.func13, Try.ntmps13
    go_upto_region 6 with (fail)
    go_cut [37] (fun v37 wc => ∃ (kq : Nat) (x37_6 : Bool), v37 = .bool x37_6 ∧ Aside0 (credenzaref14_Right.j0 kq l1 l2 ((rd_L11 l1 0).length : Int) x37_6 = some r) ∧ Aside0 (kq ≤ k) ∧ Drawn0 w wc)
    case first =>
     have H := HC7.out
     clear HC7
     by_cases c8 : (l2.length : Int) = (l1.length : Int)
     ·rw [if_pos c8] at H
      have c8b0 : ((l2.length : Int) == (l1.length : Int)) = true := beq_iff_eq.mpr c8
      have c8b1 : ((l2.length : Int) != (l1.length : Int)) = false := bne_eq_false_iff_eq.mpr c8
      have c8b2 : (l2.length == l1.length) = true := by first | simpa using c8 | (simp at c8 ⊢; omega)
      clear c8
      (first | rw [c8b0] | (simp only [i64_w, i32_w]; rw [c8b0]) | skip)
      by_cases c9 : (l0.length : Int) = ((rd_L11 l1 0).length : Int)
      ·rw [if_pos c9] at H
       have c9b0 : ((l0.length : Int) == ((rd_L11 l1 0).length : Int)) = true := beq_iff_eq.mpr c9
       have c9b1 : ((l0.length : Int) != ((rd_L11 l1 0).length : Int)) = false := bne_eq_false_iff_eq.mpr c9
       have c9b2 : (l0.length == (rd_L11 l1 0).length) = true := by first | simpa using c9 | (simp at c9 ⊢; omega)
       clear c9
       by_cases c10 : ((rd_L11 l1 0).length : Int) < 1
       ·rw [if_pos c10] at H
        have c10b0 : decide (((rd_L11 l1 0).length : Int) < 1) = true := decide_eq_true c10
        have c10b1 : decide ((rd_L11 l1 0).length < 1) = true := decide_eq_true (by omega)
        clear c10
        have H' := A_ H
        clear H
        go_wp2
        go_meet
        case rel => exact ⟨_, (true), rs_, H', ⟨by first | omega | exact Nat.le_refl _⟩, d0_⟩
       ·rw [if_neg c10] at H
        have c10b0 : decide (((rd_L11 l1 0).length : Int) < 1) = false := decide_eq_false c10
        have c10b1 : decide ((rd_L11 l1 0).length < 1) = false := decide_eq_false (by omega)
        clear c10
        have H' := A_ H
        clear H
        go_wp2
        go_meet
        case rel => exact ⟨_, (decide (((rd_L11 l1 0).length : Int) > 16)), rs_, H', ⟨by first | omega | exact Nat.le_refl _⟩, d0_⟩
      ·rw [if_neg c9] at H
       have c9b0 : ((l0.length : Int) == ((rd_L11 l1 0).length : Int)) = false := beq_eq_false_iff_ne.mpr c9
       have c9b1 : ((l0.length : Int) != ((rd_L11 l1 0).length : Int)) = true := bne_iff_ne.mpr c9
       have c9b2 : (l0.length == (rd_L11 l1 0).length) = false := by first | simpa using c9 | (simp at c9 ⊢; omega)
       have H' := A_ H
       clear H
       go_wp2
       go_meet
       case rel => exact ⟨_, (true), rs_, H', ⟨by first | omega | exact Nat.le_refl _⟩, d0_⟩
     ·rw [if_neg c8] at H
      have c8b0 : ((l2.length : Int) == (l1.length : Int)) = false := beq_eq_false_iff_ne.mpr c8
      have c8b1 : ((l2.length : Int) != (l1.length : Int)) = true := bne_iff_ne.mpr c8
      have c8b2 : (l2.length == l1.length) = false := by first | simpa using c8 | (simp at c8 ⊢; omega)
      (first | rw [c8b0] | (simp only [i64_w, i32_w]; rw [c8b0]) | skip)
      have H' := A_ H
      clear H
      go_wp2
      go_meet
      case rel => exact ⟨_, (true), rs_, H', ⟨by first | omega | exact Nat.le_refl _⟩, d0_⟩
    case rest =>
     clear HC7
     obtain ⟨kq, x37_6, rfl, HA, HJ6, ⟨mc6, rfl⟩⟩ := hcut
     cases kq with
     | zero => exact absurd HA.out (by simp [credenzaref14_Right.j0])
     | succ kj6 =>
      have H := HA.out
      clear HA
      simp only [credenzaref14_Right.j0] at H
      by_cases c11 : x37_6 = true
      ·subst c11
       replace H : (some 25) = some r := by rw [if_pos rfl] at H; exact H
       obtain rfl := Option.some.inj H
       go_wp2
       go_ret
       exact ⟨rs_, d0_⟩
      ·replace c11 := Bool.eq_false_iff.mpr c11
       subst c11
       replace H : (credenzaref14_Right.l0 kj6 l1 l2 ((rd_L11 l1 0).length : Int) 0) = some r := by rw [if_neg (show ¬ (false = true) by decide)] at H; exact H
       have H' := A_ H
       clear H
       go_wp2
       go_loopg [8] kj6 (fun kq v8 w' => ∃ (x8_2 : Int), v8 = .int .i64 x8_2 ∧ Aside0 (credenzaref14_Right.l0 kq l1 l2 ((rd_L11 l1 0).length : Int) x8_2 = some r) ∧ Aside0 (kq ≤ kj6) ∧ Drawn0 w w')
       case atStart => exact ⟨(0), rs_, H', ⟨Nat.le_refl _⟩, d0_⟩
       case round =>
        clear H'
        obtain ⟨x8_2, rfl, HA, HK2, ⟨m2, rfl⟩⟩ := hrel
        cases gk with
        | zero => exact absurd HA.out (by simp [credenzaref14_Right.l0])
        | succ k2 =>
         have H := HA.out
         clear HA
         simp only [credenzaref14_Right.l0] at H
         by_cases c12 : x8_2 < (l1.length : Int)
         ·rw [if_pos c12] at H
          have c12b0 : decide (x8_2 < (l1.length : Int)) = true := decide_eq_true c12
          clear c12
          by_cases c13 : 0 ≤ x8_2
          ·rw [if_pos c13] at H
           have c13b0 : decide (0 ≤ x8_2) = true := decide_eq_true c13
           clear c13
           by_cases c14 : ((rd_L11 l1 x8_2).length : Int) = ((rd_L11 l1 0).length : Int)
           ·rw [if_pos c14] at H
            have c14b0 : (((rd_L11 l1 x8_2).length : Int) == ((rd_L11 l1 0).length : Int)) = true := beq_iff_eq.mpr c14
            have c14b1 : (((rd_L11 l1 x8_2).length : Int) != ((rd_L11 l1 0).length : Int)) = false := bne_eq_false_iff_eq.mpr c14
            have c14b2 : ((rd_L11 l1 x8_2).length == (rd_L11 l1 0).length) = true := by first | simpa using c14 | (simp at c14 ⊢; omega)
            clear c14
            by_cases c15 : x8_2 < (l2.length : Int)
            ·rw [if_pos c15] at H
             have c15b0 : decide (x8_2 < (l2.length : Int)) = true := decide_eq_true c15
             clear c15
             by_cases c16 : ((rd_L11 l2 x8_2).length : Int) = ((rd_L11 l1 0).length : Int)
             ·rw [if_pos c16] at H
              have c16b0 : (((rd_L11 l2 x8_2).length : Int) == ((rd_L11 l1 0).length : Int)) = true := beq_iff_eq.mpr c16
              have c16b1 : (((rd_L11 l2 x8_2).length : Int) != ((rd_L11 l1 0).length : Int)) = false := bne_eq_false_iff_eq.mpr c16
              have c16b2 : ((rd_L11 l2 x8_2).length == (rd_L11 l1 0).length) = true := by first | simpa using c16 | (simp at c16 ⊢; omega)
              clear c16
              have H' := A_ H
              clear H
              have p227 : 0 ≤ (x8_2 : Int) := od_
              have q227 : x8_2 < (l1.length : Int) := od_
              obtain ⟨ad227, A227_0, c227_0, e227, hx227_0, hl227_0, hi227_0⟩ := at_L11 HR1.out x8_2 p227 q227
              obtain rfl : ad226 = ad227 := (by injection e227)
              have HR227_0 := A_ hi227_0
              have HC227_0 := A_ hl227_0
              clear hi227_0 hl227_0
              replace p227 := eq_true p227
              replace q227 := eq_true q227
              have p228 : 0 ≤ (x8_2 : Int) := od_
              have q228 : x8_2 < (l2.length : Int) := od_
              obtain ⟨ad228, A228_0, c228_0, e228, hx228_0, hl228_0, hi228_0⟩ := at_L11 HR2.out x8_2 p228 q228
              cases e228
              have HR228_0 := A_ hi228_0
              have HC228_0 := A_ hl228_0
              clear hi228_0 hl228_0
              replace p228 := eq_true p228
              replace q228 := eq_true q228
              go_wp2
              go_roundg k2
              case measure => have := HJ6.out; have := HK2.out; omega
              case rel => exact ⟨(wrap64 (x8_2 + 1)), rs_, H', ⟨by have := HJ6.out; have := HK2.out; omega⟩, d0_⟩
             ·rw [if_neg c16] at H
              have c16b0 : (((rd_L11 l2 x8_2).length : Int) == ((rd_L11 l1 0).length : Int)) = false := beq_eq_false_iff_ne.mpr c16
              have c16b1 : (((rd_L11 l2 x8_2).length : Int) != ((rd_L11 l1 0).length : Int)) = true := bne_iff_ne.mpr c16
              have c16b2 : ((rd_L11 l2 x8_2).length == (rd_L11 l1 0).length) = false := by first | simpa using c16 | (simp at c16 ⊢; omega)
              obtain rfl := Option.some.inj H
              have p227 : 0 ≤ (x8_2 : Int) := od_
              have q227 : x8_2 < (l1.length : Int) := od_
              obtain ⟨ad227, A227_0, c227_0, e227, hx227_0, hl227_0, hi227_0⟩ := at_L11 HR1.out x8_2 p227 q227
              obtain rfl : ad226 = ad227 := (by injection e227)
              have HR227_0 := A_ hi227_0
              have HC227_0 := A_ hl227_0
              clear hi227_0 hl227_0
              replace p227 := eq_true p227
              replace q227 := eq_true q227
              have p228 : 0 ≤ (x8_2 : Int) := od_
              have q228 : x8_2 < (l2.length : Int) := od_
              obtain ⟨ad228, A228_0, c228_0, e228, hx228_0, hl228_0, hi228_0⟩ := at_L11 HR2.out x8_2 p228 q228
              cases e228
              have HR228_0 := A_ hi228_0
              have HC228_0 := A_ hl228_0
              clear hi228_0 hl228_0
              replace p228 := eq_true p228
              replace q228 := eq_true q228
              go_wp2
              go_ret
              exact ⟨rs_, d0_⟩
            ·rw [if_neg c15] at H
             exact absurd H (by simp)
           ·rw [if_neg c14] at H
            have c14b0 : (((rd_L11 l1 x8_2).length : Int) == ((rd_L11 l1 0).length : Int)) = false := beq_eq_false_iff_ne.mpr c14
            have c14b1 : (((rd_L11 l1 x8_2).length : Int) != ((rd_L11 l1 0).length : Int)) = true := bne_iff_ne.mpr c14
            have c14b2 : ((rd_L11 l1 x8_2).length == (rd_L11 l1 0).length) = false := by first | simpa using c14 | (simp at c14 ⊢; omega)
            obtain rfl := Option.some.inj H
            have p227 : 0 ≤ (x8_2 : Int) := od_
            have q227 : x8_2 < (l1.length : Int) := od_
            obtain ⟨ad227, A227_0, c227_0, e227, hx227_0, hl227_0, hi227_0⟩ := at_L11 HR1.out x8_2 p227 q227
            obtain rfl : ad226 = ad227 := (by injection e227)
            have HR227_0 := A_ hi227_0
            have HC227_0 := A_ hl227_0
            clear hi227_0 hl227_0
            replace p227 := eq_true p227
            replace q227 := eq_true q227
            go_wp2
            go_ret
            exact ⟨rs_, d0_⟩
          ·rw [if_neg c13] at H
           exact absurd H (by simp)
         ·rw [if_neg c12] at H
          have c12b0 : decide (x8_2 < (l1.length : Int)) = false := decide_eq_false c12
          clear c12
          obtain rfl := Option.some.inj H
          go_wp2
          go_ret
          exact ⟨rs_, d0_⟩
   ·rw [if_neg c6] at H
    exact absurd H (by simp)
end Go.Proofs.Yteflolamihhmdaa.Q
