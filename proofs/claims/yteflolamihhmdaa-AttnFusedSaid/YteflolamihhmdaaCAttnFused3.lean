/- AttnFused: of any pages and plain tokens a query gathers just what it gathers of what they mean, as lists. (part 3: functions of the program as plain functions, and what is shown of them.) Conditions: as each theorem states; the last one has none. -/
import Derived.Test.YteflolamihhmdaaWShare
import Derived.Test.YteflolamihhmdaaWRepsOne
import Derived.Deep.DrawnRows
import Derived.Test.YteflolamihhmdaaCAttnFused1
import Derived.Test.YteflolamihhmdaaCAttnFused2
set_option maxHeartbeats 8000000
set_option maxRecDepth 100000
set_option linter.unusedVariables false
set_option linter.unusedSimpArgs false
namespace Go.Proofs.Yteflolamihhmdaa.Q
open Go.RowKit Go.Proofs.YteflolamihhmdaaW.PrintWords Go.Proofs.YteflolamihhmdaaW.PrintLast Go.Proofs.YteflolamihhmdaaW.PrintMore
attribute [local go_sem] max2_int min2_int max_two min_two max_three min_three max_four min_four
def credenzaref03_Same.l0 : Nat → List Int → List Int → Int → Option (Bool)
 | 0, _, _, _ => none
 | k + 1, x0, x1, x5 => if x5 < (x0.length : Int) then (if 0 ≤ x5 then (if x5 < (x1.length : Int) then (if (rd x0 x5) = (rd x1 x5) then (credenzaref03_Same.l0 k x0 x1 (wrap64 (x5 + 1))) else (some false)) else (none)) else (none)) else (some true)
def credenzaref03_Same.f (k : Nat) (l0 : List Int) (l1 : List Int) : Option (Bool) := if (l0.length : Int) = (l1.length : Int) then (credenzaref03_Same.l0 k l0 l1 0) else (some false)
theorem credenzaref03_Same.calls (k : Nat) (A0 : Option Addr) (c0 : Nat) (l0 : List Int) (A1 : Option Addr) (c1 : Nat) (l1 : List Int) (r : Bool) (w : World) (hr0 : Kd.C (Kd.int .i32) w A0 l0.length l0) (hc0 : l0.length ≤ c0) (hr1 : Kd.C (Kd.int .i32) w A1 l1.length l1) (hc1 : l1.length ≤ c1) (h : credenzaref03_Same.f k l0 l1 = some r) :
  Calls Try.prog 14 #[.slice A0 l0.length c0, .slice A1 l1.length c1] w fun e w' => e = .returned (.bool r) ∧ Drawn0 w w' := by
 have HR0 := A_ hr0
 have HC0 := A_ hc0
 clear hr0 hc0
 have HR1 := A_ hr1
 have HC1 := A_ hc1
 clear hr1 hc1
 have H := h
 unfold credenzaref03_Same.f at H
 clear h
 by_cases c3 : (l0.length : Int) = (l1.length : Int)
 ·rw [if_pos c3] at H
  have c3b0 : ((l0.length : Int) == (l1.length : Int)) = true := beq_iff_eq.mpr c3
  have c3b1 : ((l0.length : Int) != (l1.length : Int)) = false := bne_eq_false_iff_eq.mpr c3
  have c3b2 : (l0.length == l1.length) = true := by first | simpa using c3 | (simp at c3 ⊢; omega)
  clear c3
  have H' := A_ H
  clear H
  go_enter Try.func14, Try.ntmps14
  go_wp2
  repeat (go_quiet (fail); try go_wp2)
  go_loopg [5] k (fun kq v5 w' => ∃ (x5_1 : Int), v5 = .int .i64 x5_1 ∧ Aside0 (credenzaref03_Same.l0 kq l0 l1 x5_1 = some r) ∧ Aside0 (kq ≤ k) ∧ Drawn0 w w')
  case atStart => exact ⟨(0), rs_, H', ⟨Nat.le_refl _⟩, d0_⟩
  case round =>
   clear H'
   obtain ⟨x5_1, rfl, HA, HK1, ⟨m1, rfl⟩⟩ := hrel
   cases gk with
   | zero => exact absurd HA.out (by simp [credenzaref03_Same.l0])
   | succ k1 =>
    have H := HA.out
    clear HA
    simp only [credenzaref03_Same.l0] at H
    by_cases c4 : x5_1 < (l0.length : Int)
    ·rw [if_pos c4] at H
     have c4b0 : decide (x5_1 < (l0.length : Int)) = true := decide_eq_true c4
     clear c4
     by_cases c5 : 0 ≤ x5_1
     ·rw [if_pos c5] at H
      have c5b0 : decide (0 ≤ x5_1) = true := decide_eq_true c5
      clear c5
      by_cases c6 : x5_1 < (l1.length : Int)
      ·rw [if_pos c6] at H
       have c6b0 : decide (x5_1 < (l1.length : Int)) = true := decide_eq_true c6
       clear c6
       by_cases c7 : (rd l0 x5_1) = (rd l1 x5_1)
       ·rw [if_pos c7] at H
        have c7b0 : ((rd l0 x5_1) == (rd l1 x5_1)) = true := beq_iff_eq.mpr c7
        have c7b1 : ((rd l0 x5_1) != (rd l1 x5_1)) = false := bne_eq_false_iff_eq.mpr c7
        clear c7
        have H' := A_ H
        clear H
        have p229 : 0 ≤ (x5_1 : Int) := od_
        have q229 : x5_1 < (l0.length : Int) := od_
        obtain ⟨ad229, e229, hx229_0⟩ := Kd.at_int HR0.out x5_1 p229 q229
        cases e229
        replace p229 := eq_true p229
        replace q229 := eq_true q229
        have p230 : 0 ≤ (x5_1 : Int) := od_
        have q230 : x5_1 < (l1.length : Int) := od_
        obtain ⟨ad230, e230, hx230_0⟩ := Kd.at_int HR1.out x5_1 p230 q230
        cases e230
        replace p230 := eq_true p230
        replace q230 := eq_true q230
        go_wp2
        repeat (go_quiet (fail); try go_wp2)
        go_roundg k1
        case measure => have := HK1.out; omega
        case rel => exact ⟨(wrap64 (x5_1 + 1)), rs_, H', ⟨by have := HK1.out; omega⟩, d0_⟩
       ·rw [if_neg c7] at H
        have c7b0 : ((rd l0 x5_1) == (rd l1 x5_1)) = false := beq_eq_false_iff_ne.mpr c7
        have c7b1 : ((rd l0 x5_1) != (rd l1 x5_1)) = true := bne_iff_ne.mpr c7
        obtain rfl := Option.some.inj H
        have p229 : 0 ≤ (x5_1 : Int) := od_
        have q229 : x5_1 < (l0.length : Int) := od_
        obtain ⟨ad229, e229, hx229_0⟩ := Kd.at_int HR0.out x5_1 p229 q229
        cases e229
        replace p229 := eq_true p229
        replace q229 := eq_true q229
        have p230 : 0 ≤ (x5_1 : Int) := od_
        have q230 : x5_1 < (l1.length : Int) := od_
        obtain ⟨ad230, e230, hx230_0⟩ := Kd.at_int HR1.out x5_1 p230 q230
        cases e230
        replace p230 := eq_true p230
        replace q230 := eq_true q230
        go_wp2
        repeat (go_quiet (fail); try go_wp2)
        go_ret
        exact ⟨rs_, d0_⟩
      ·rw [if_neg c6] at H
       exact absurd H (by simp)
     ·rw [if_neg c5] at H
      exact absurd H (by simp)
    ·rw [if_neg c4] at H
     have c4b0 : decide (x5_1 < (l0.length : Int)) = false := decide_eq_false c4
     clear c4
     obtain rfl := Option.some.inj H
     go_wp2
     repeat (go_quiet (fail); try go_wp2)
     go_ret
     exact ⟨rs_, d0_⟩
 ·rw [if_neg c3] at H
  have c3b0 : ((l0.length : Int) == (l1.length : Int)) = false := beq_eq_false_iff_ne.mpr c3
  have c3b1 : ((l0.length : Int) != (l1.length : Int)) = true := bne_iff_ne.mpr c3
  have c3b2 : (l0.length == l1.length) = false := by first | simpa using c3 | (simp at c3 ⊢; omega)
  obtain rfl := Option.some.inj H
  go_enter Try.func14, Try.ntmps14
  go_wp2
  repeat (go_quiet (fail); try go_wp2)
  go_ret
  exact ⟨rs_, d0_⟩
end Go.Proofs.Yteflolamihhmdaa.Q

namespace Go.Proofs.Yteflolamihhmdaa.Pure
open Go.RowKit Go.Proofs.Yteflolamihhmdaa.Q Go.Proofs.YteflolamihhmdaaW.PrintWords Go.Proofs.YteflolamihhmdaaW.PrintLast
def sumR : List Int → Int
 | [] => 0
 | x :: xs => x + sumR xs
def WB (l : List Int) : Prop := ∀ x ∈ l, 0 ≤ x ∧ x ≤ 131072
theorem sumR_bd : ∀ {l : List Int}, WB l → 0 ≤ sumR l ∧ sumR l ≤ l.length * 131072
 | [], _ => by simp [sumR]
 | x :: xs, h => by
  have h1 := h x (by simp)
  have h2 := sumR_bd (l := xs) (fun z hz => h z (by simp [hz]))
  simp only [sumR, List.length_cons]
  omega
theorem soft_Sum_loop (l : List Int) (hl : l.length ≤ 1024) (hw : WB l) : ∀ (d k p : Nat) (s : Int), p + d = l.length → d < k → 0 ≤ s → s ≤ p * 131072 → soft_Sum.l0 k s l (l.length : Int) (p : Int) = some (s + sumR (l.drop p)) := by
 intro d
 induction d with
 | zero =>
  intro k p s hp hk h1 h2
  obtain ⟨k, rfl⟩ : ∃ m, k = m + 1 := ⟨k - 1, by omega⟩
  rw [soft_Sum.l0, if_neg (by omega), List.drop_eq_nil_of_le (by omega)]
  simp [sumR]
 | succ d ih =>
  intro k p s hp hk h1 h2
  obtain ⟨k, rfl⟩ : ∃ m, k = m + 1 := ⟨k - 1, by omega⟩
  have hlt : p < l.length := by omega
  have hx := hw _ (rd_mem hlt)
  rw [soft_Sum.l0, if_pos (by omega), if_pos (by omega), if_pos (by omega), wnext hlt (by omega), drop_rd hlt, w64 (x := s + rd l (p : Int)) (by omega) (by omega), ih k (p + 1) _ (by omega) (by omega) (by omega) (by omega), sumR]
  congr 1
  omega
theorem soft_Sum_some {l : List Int} (hl : l.length ≤ 1024) (hw : WB l) {k : Nat} (hk : l.length < k) : soft_Sum.f k l = some (sumR l) := by
 have := soft_Sum_loop l hl hw l.length k 0 0 (by omega) hk (by omega) (by omega)
 simpa [soft_Sum.f] using this
theorem ref_Sum_loop (l : List Int) (hl : l.length ≤ 1024) (hw : WB l) : ∀ (d k p : Nat) (s : Int), p + d = l.length → d < k → 0 ≤ s → s ≤ p * 131072 → credenzaref04_Sum.l0 k l s (p : Int) = some (s + sumR (l.drop p)) := by
 intro d
 induction d with
 | zero =>
  intro k p s hp hk h1 h2
  obtain ⟨k, rfl⟩ : ∃ m, k = m + 1 := ⟨k - 1, by omega⟩
  rw [credenzaref04_Sum.l0, if_neg (by omega), List.drop_eq_nil_of_le (by omega)]
  simp [sumR]
 | succ d ih =>
  intro k p s hp hk h1 h2
  obtain ⟨k, rfl⟩ : ∃ m, k = m + 1 := ⟨k - 1, by omega⟩
  have hlt : p < l.length := by omega
  have hx := hw _ (rd_mem hlt)
  rw [credenzaref04_Sum.l0, if_pos (by omega), if_pos (by omega), wnext hlt (by omega), drop_rd hlt, w64 (x := s + rd l (p : Int)) (by omega) (by omega), ih k (p + 1) _ (by omega) (by omega) (by omega) (by omega), sumR]
  congr 1
  omega
theorem ref_Sum_some {l : List Int} (hl : l.length ≤ 1024) (hw : WB l) {k : Nat} (hk : l.length < k) : credenzaref04_Sum.f k l = some (sumR l) := by
 have := ref_Sum_loop l hl hw l.length k 0 0 (by omega) hk (by omega) (by omega)
 simpa [credenzaref04_Sum.f] using this
theorem weightsR_wb {l : List Int} : WB (weightsR l) := by
 intro x hx
 obtain ⟨y, _, rfl⟩ := List.mem_map.1 hx
 exact expR_bd (wideR_bd _)
theorem weightsR_length (l : List Int) : (weightsR l).length = l.length := by simp [weightsR]
theorem sumR_mem : ∀ {l : List Int} {x : Int}, WB l → x ∈ l → x ≤ sumR l
 | y :: l, x, h, hx => by
  have h1 := h y (by simp)
  have h2 := sumR_bd (l := l) (fun z hz => h z (by simp [hz]))
  simp only [sumR]
  rcases List.mem_cons.1 hx with rfl | hx
  ·omega
  ·have := sumR_mem (fun z hz => h z (by simp [hz])) hx
   omega
theorem weightsR_pos {l : List Int} (h : 0 < l.length) : 65536 ≤ sumR (weightsR l) := by
 have h1 : wR (topR l) (topR l) ∈ weightsR l := List.mem_map.2 ⟨_, topR_mem h, rfl⟩
 have h2 : wR (topR l) (topR l) = 65536 := by
  unfold wR
  rw [Int.sub_self]
  exact expR_0
 have := sumR_mem weightsR_wb h1
 omega
def addR (w : Int) : List Int → List Int → List Int
 | s :: ss, x :: xs => (s + w * narR x) :: addR w ss xs
 | _, _ => []
def gR : List Int → List Int → List (List Int) → List Int
 | sums, w :: ws, v :: vs => gR (addR w sums v) ws vs
 | sums, _, _ => sums
theorem addR_length (w : Int) : ∀ (s v : List Int), s.length ≤ v.length → (addR w s v).length = s.length
 | [], [], _ => rfl
 | [], _ :: _, _ => rfl
 | _ :: _, [], h => by simp at h
 | a :: s, b :: v, h => by simp only [addR, List.length_cons]; rw [addR_length w s v (by simpa using h)]
theorem wn_bd {w x : Int} (hw : 0 ≤ w ∧ w ≤ 131072) : -1099511627776 ≤ w * narR x ∧ w * narR x ≤ 1099511627776 := mul_bd (A := 131072) (B := 8388608) (by omega) hw.2 (narR_bd x).1 (narR_bd x).2
def SB (B : Int) (l : List Int) : Prop := ∀ x ∈ l, -B ≤ x ∧ x ≤ B
theorem addR_sb {w B : Int} (hw : 0 ≤ w ∧ w ≤ 131072) : ∀ {s v : List Int}, SB B s → SB (B + 1099511627776) (addR w s v)
 | [], [], _ => by simp [addR, SB]
 | [], _ :: _, _ => by simp [addR, SB]
 | _ :: _, [], _ => by simp [addR, SB]
 | a :: s, b :: v, h => by
  intro x hx
  have h1 := h a (by simp)
  have h2 := wn_bd (x := b) hw
  rcases List.mem_cons.1 hx with rfl | hx
  ·omega
  ·exact addR_sb hw (fun z hz => h z (by simp [hz])) x hx
theorem gadd_some {w : Int} (hw : 0 ≤ w ∧ w ≤ 131072) {v : List Int} (hv : A32 v) : ∀ (rest pre : List Int), pre.length + rest.length ≤ v.length → SB 4503599627370496 rest → attn_gadd.l w v rest.length pre.length (pre ++ rest) = some (pre ++ addR w rest (v.drop pre.length))
 | [], pre, hl, hs => by
  rw [List.length_nil, attn_gadd.l]
  cases hd : v.drop pre.length <;> simp [addR]
 | s :: rest, pre, hl, hs => by
  simp only [List.length_cons] at hl
  have hlv : pre.length < v.length := by omega
  have h1 := hs s (by simp)
  have h2 := wn_bd (x := rd v (pre.length : Int)) hw
  have hn := narR_bd (rd v (pre.length : Int))
  have e1 : rd (pre ++ s :: rest) (pre.length : Int) = s := by simp [rd]
  have e2 : (pre ++ s :: rest).set pre.length (s + w * narR (rd v (pre.length : Int))) = (pre ++ [s + w * narR (rd v (pre.length : Int))]) ++ rest := by simp
  have ih := gadd_some hw hv rest (pre ++ [s + w * narR (rd v (pre.length : Int))]) (by simp; omega) (fun z hz => hs z (by simp [hz]))
  rw [List.length_append, List.length_singleton] at ih
  rw [List.length_cons, attn_gadd.l, if_pos hlv, attn_narrow_some (hv _ (rd_mem hlv)), Option.bind_some, w64 (x := w * narR (rd v (pre.length : Int))) (by omega) (by omega), e1, w64 (x := s + w * narR (rd v (pre.length : Int))) (by omega) (by omega), e2, ih, drop_rd hlv, addR]
  simp
theorem gsum_some {wide : Nat} (ws : List Int) (hw : WB ws) (hn : ws.length ≤ 1024) : ∀ (vals : List (List Int)) (a : Nat) (sums : List Int), a + vals.length = ws.length → sums.length = wide → (∀ v ∈ vals, v.length = wide ∧ A32 v) → SB (a * 1099511627776) sums → attn_gsum.l ws vals a sums = some (gR sums (ws.drop a) vals) := by
 intro vals
 induction vals with
 | nil =>
  intro a sums ha hs hv hb
  rw [attn_gsum.l]
  cases hd : ws.drop a <;> simp [gR]
 | cons v vals ih =>
  intro a sums ha hs hv hb
  simp only [List.length_cons] at ha
  have hlt : a < ws.length := by omega
  obtain ⟨hvl, hv32⟩ := hv v (by simp)
  have hww := hw _ (rd_mem hlt)
  have h1 := gadd_some hww hv32 sums [] (by simp; omega) (fun x hx => by have := hb x hx; omega)
  simp only [List.nil_append, List.length_nil, List.drop_zero] at h1
  have h2 : SB ((a + 1 : Nat) * 1099511627776) (addR (rd ws (a : Int)) sums v) := by
   have := addR_sb hww (v := v) hb
   intro x hx
   have := this x hx
   omega
  have ih := ih (a + 1) (addR (rd ws (a : Int)) sums v) (by omega) (by rw [addR_length _ _ _ (by omega)]; exact hs) (fun z hz => hv z (by simp [hz])) h2
  rw [attn_gsum.l, if_pos hlt, h1, Option.bind_some, ih, drop_rd hlt, gR]
def outR (ws : List Int) (x : Int) : Int := narR (rnd x (sumR ws))
theorem gout_some {ws : List Int} (hw : WB ws) (hn : ws.length ≤ 1024) (hp : 0 < sumR ws) {k : Nat} (hk : ws.length < k) : ∀ (xs pre rest : List Int), rest.length = xs.length → SB 4503599627370496 xs → attn_gout.l k ws xs pre.length (pre ++ rest) = some (pre ++ xs.map (outR ws))
 | [], pre, rest, hr, hs => by
  rw [attn_gout.l, List.eq_nil_of_length_eq_zero hr]
  rfl
 | x :: xs, pre, [], hr, hs => by simp at hr
 | x :: xs, pre, r :: rest, hr, hs => by
  have hb := sumR_bd hw
  have hx := hs x (by simp)
  have e2 : (pre ++ r :: rest).set pre.length (narR (rnd x (sumR ws))) = (pre ++ [outR ws x]) ++ rest := by simp [outR]
  have ih := gout_some hw hn hp hk xs (pre ++ [outR ws x]) rest (by simpa using hr) (fun z hz => hs z (by simp [hz]))
  rw [List.length_append, List.length_singleton] at ih
  rw [attn_gout.l, soft_Sum_some hn hw hk, Option.bind_some, fix_Ratio_some (by omega) (by omega) (by omega) (by omega), Option.bind_some, fix_Narrow_some, Option.bind_some, e2, ih]
  simp
theorem gR_sb (ws : List Int) (hw : WB ws) (hn : ws.length ≤ 1024) : ∀ (vals : List (List Int)) (a : Nat) (sums : List Int), a + vals.length ≤ ws.length → SB (a * 1099511627776) sums → SB 4503599627370496 (gR sums (ws.drop a) vals) := by
 intro vals
 induction vals with
 | nil =>
  intro a sums ha hb
  have e : gR sums (ws.drop a) [] = sums := by cases hd : ws.drop a <;> simp [gR]
  rw [e]
  intro x hx
  have := hb x hx
  simp only [List.length_nil] at ha
  omega
 | cons v vals ih =>
  intro a sums ha hb
  simp only [List.length_cons] at ha
  have hlt : a < ws.length := by omega
  have hww := hw _ (rd_mem hlt)
  rw [drop_rd hlt, gR]
  refine ih (a + 1) _ (by omega) ?_
  have := addR_sb hww (v := v) hb
  intro x hx
  have := this x hx
  omega
theorem gR_length : ∀ (ws : List Int) (vals : List (List Int)) (sums : List Int), (∀ v ∈ vals, v.length = sums.length) → (gR sums ws vals).length = sums.length
 | [], vals, sums, _ => by cases vals <;> simp [gR]
 | _ :: _, [], sums, _ => by simp [gR]
 | w :: ws, v :: vals, sums, h => by
  have hv := h v (by simp)
  have hl := addR_length w sums v (by omega)
  rw [gR, gR_length ws vals _ (fun z hz => by rw [hl]; exact h z (by simp [hz])), hl]
def mixR (ws : List Int) (vals : List (List Int)) (wide : Nat) : List Int := (gR (List.replicate wide 0) ws vals).map (outR ws)
theorem attn_gather_some {ws : List Int} {vals : List (List Int)} {wide : Nat} (hl : ws.length = vals.length) (hn : ws.length ≤ 1024) (hw : WB ws) (hp : 0 < sumR ws) (hv : ∀ v ∈ vals, v.length = wide ∧ A32 v) {k : Nat} (hk : ws.length < k) : attn_gather.l k ws vals wide = some (mixR ws vals wide) := by
 have h0 : SB ((0 : Nat) * 1099511627776) (List.replicate wide 0) := by
  intro x hx
  obtain ⟨_, rfl⟩ := List.mem_replicate.1 hx
  omega
 have h1 := gsum_some (wide := wide) ws hw hn vals 0 (List.replicate wide 0) (by omega) (by simp) hv h0
 have h2 := gR_sb ws hw hn vals 0 (List.replicate wide 0) (by omega) h0
 have h3 := gR_length (ws.drop 0) vals (List.replicate wide 0) (fun v hv' => by rw [(hv v hv').1]; simp)
 have h4 := gout_some hw hn hp hk (gR (List.replicate wide 0) (ws.drop 0) vals) [] (List.replicate wide 0) (by rw [h3]) h2
 rw [List.drop_zero] at h1 h4
 simp only [List.nil_append, List.length_nil] at h4
 rw [attn_gather.l, h1, Option.bind_some, h4]
 rfl
def colR : List Int → List (List Int) → Int → Int
 | w :: ws, v :: vals, i => w * narR (rd v i) + colR ws vals i
 | _, _, _ => 0
theorem addR_at (w : Int) : ∀ (s v : List Int) (i : Nat), s.length ≤ v.length → i < s.length → rd (addR w s v) (i : Int) = rd s (i : Int) + w * narR (rd v (i : Int))
 | [], v, i, _, h => by simp at h
 | a :: s, [], i, h, _ => by simp at h
 | a :: s, b :: v, 0, _, _ => by simp [addR, rd]
 | a :: s, b :: v, i + 1, h, hi => by
  have ih := addR_at w s v i (by simpa using h) (by simpa using hi)
  simp only [rd, addR] at ih ⊢
  simpa using ih
theorem gR_at : ∀ (ws : List Int) (vals : List (List Int)) (sums : List Int) (i : Nat), (∀ v ∈ vals, v.length = sums.length) → i < sums.length → rd (gR sums ws vals) (i : Int) = rd sums (i : Int) + colR ws vals (i : Int)
 | [], vals, sums, i, _, _ => by cases vals <;> simp [gR, colR]
 | _ :: _, [], sums, i, _, _ => by simp [gR, colR]
 | w :: ws, v :: vals, sums, i, h, hi => by
  have hv := h v (by simp)
  have hl := addR_length w sums v (by omega)
  rw [gR, gR_at ws vals _ i (fun z hz => by rw [hl]; exact h z (by simp [hz])) (by omega), addR_at w sums v i (by omega) hi, colR]
  omega
theorem mixR_length {ws : List Int} {vals : List (List Int)} {wide : Nat} (hv : ∀ v ∈ vals, v.length = wide) : (mixR ws vals wide).length = wide := by
 unfold mixR
 rw [List.length_map, gR_length ws vals _ (fun v h => by rw [hv v h]; simp), List.length_replicate]
theorem mixR_at {ws : List Int} {vals : List (List Int)} {wide : Nat} (hv : ∀ v ∈ vals, v.length = wide) {i : Nat} (hi : i < wide) : rd (mixR ws vals wide) (i : Int) = outR ws (colR ws vals (i : Int)) := by
 have hl := gR_length ws vals (List.replicate wide 0) (fun v h => by rw [hv v h]; simp)
 rw [List.length_replicate] at hl
 have h1 := gR_at ws vals (List.replicate wide 0) i (fun v h => by rw [hv v h]; simp) (by simpa using hi)
 have h2 : rd (List.replicate wide 0) (i : Int) = 0 := by simp [rd, hi]
 rw [h2, Int.zero_add] at h1
 rw [← h1]
 unfold mixR
 rw [rd_at (by rw [List.length_map, hl]; exact hi), rd_at (by rw [hl]; exact hi), List.getElem_map]
def rowAt (l : List (List Int)) (t : Int) : List Int := l.getD t.toNat []
theorem rowAt_at {l : List (List Int)} {t : Nat} (h : t < l.length) : rowAt l (t : Int) = l[t] := by simp [rowAt, List.getD_eq_getElem?_getD, List.getElem?_eq_getElem h]
theorem rowAt_mem {l : List (List Int)} {t : Nat} (h : t < l.length) : rowAt l (t : Int) ∈ l := by rw [rowAt_at h]; exact List.getElem_mem h
theorem drop_row {l : List (List Int)} {p : Nat} (h : p < l.length) : l.drop p = rowAt l (p : Int) :: l.drop (p + 1) := by rw [rowAt_at h]; exact List.drop_eq_getElem_cons h
theorem take_row {l : List (List Int)} {p : Nat} (h : p < l.length) : l.take (p + 1) = l.take p ++ [rowAt l (p : Int)] := by rw [rowAt_at h, List.take_succ_eq_append_getElem h]
theorem rowAt_map {l : List (List Int)} {t : Nat} (h : t < l.length) : rowAt (l.map nars) (t : Int) = nars (rowAt l (t : Int)) := by
 rw [rowAt_at (by simpa using h), rowAt_at h, List.getElem_map]
theorem rd_nars {l : List Int} {i : Nat} (h : i < l.length) : rd (nars l) (i : Int) = narR (rd l (i : Int)) := by
 rw [rd_at (by rw [nars_length]; exact h), rd_at h]
 simp [nars]
end Go.Proofs.Yteflolamihhmdaa.Pure

namespace Go.Proofs.Yteflolamihhmdaa.Q
open Go.RowKit Go.Proofs.YteflolamihhmdaaW.PrintWords Go.Proofs.YteflolamihhmdaaW.PrintLast Go.Proofs.YteflolamihhmdaaW.PrintMore
attribute [local go_sem] max2_int min2_int max_two min_two max_three min_three max_four min_four
def attn_Gather.f (k : Nat) (l0 : List Int) (l1 : List (List Int)) (l2 : List (List Int)) : Option (List Int × Int) := attn_Fused.f k l0 l1 l2
theorem attn_Gather.mono : ∀ (a0 : List Int) (a1 a2 : List (List Int)) (k : Nat), LeO (attn_Gather.f k a0 a1 a2) (attn_Gather.f (k + 1) a0 a1 a2) := fun a0 a1 a2 k => attn_Fused.mono a0 a1 a2 k
theorem attn_Gather.calls (k : Nat) (A0 : Option Addr) (c0 : Nat) (l0 : List Int) (A1 : Option Addr) (c1 : Nat) (l1 : List (List Int)) (A2 : Option Addr) (c2 : Nat) (l2 : List (List Int)) (r1 : List Int) (r2 : Int) (w : World)
  (hr0 : Kd.C (Kd.int .i32) w A0 l0.length l0) (hc0 : l0.length ≤ c0) (hr1 : Kd.C (Kd.slice 21 (Kd.int .i32)) w A1 l1.length l1) (hc1 : l1.length ≤ c1) (hr2 : Kd.C (Kd.slice 21 (Kd.int .i32)) w A2 l2.length l2) (hc2 : l2.length ≤ c2)
  (h : attn_Gather.f k l0 l1 l2 = some (r1, r2)) :
  Calls Try.prog 12 #[.slice A0 l0.length c0, .slice A1 l1.length c1, .slice A2 l2.length c2] w fun e w' => ∃ v0_ : Value, e = .returned (.tuple #[v0_, .int .i64 r2]) ∧ Kd.R (Kd.int .i32) 21 w' w.heap.size (fun _ => True) v0_ r1 ∧ Below w.heap.size w w' := by
 have H := A_ h
 have HR0 := A_ hr0
 have HR1 := A_ hr1
 have HR2 := A_ hr2
 have HC0 := A_ hc0
 have HC1 := A_ hc1
 have HC2 := A_ hc2
 clear h hr0 hr1 hr2 hc0 hc1 hc2
 go_enter Try.func12, Try.ntmps12
 go_wp2_with fail
 refine (attn_Fused.calls k A0 c0 l0 A1 c1 l1 A2 c2 l2 r1 r2 _ HR0.out HC0.out HR1.out HC1.out HR2.out HC2.out H.out).mono ?_
 rintro e w1 ⟨v, rfl, hR, hb⟩
 have HR := A_ hR
 have HB := A_ hb
 clear hR hb
 go_wp2
 go_ret2
 exact ⟨_, rfl, HR.out, HB.out⟩
end Go.Proofs.Yteflolamihhmdaa.Q

namespace Go.Proofs.Yteflolamihhmdaa.Pure
open Go.RowKit Go.Proofs.Yteflolamihhmdaa.Q Go.Proofs.YteflolamihhmdaaW.PrintWords Go.Proofs.YteflolamihhmdaaW.PrintLast
theorem rdL (l : List (List Int)) (t : Int) : rd_L11 l t = rowAt l t := rfl
def Rows (n : Nat) (l : List (List Int)) : Prop := ∀ r ∈ l, r.length = n
def AA32 (l : List (List Int)) : Prop := ∀ r ∈ l, A32 r
theorem scores_some {q : List Int} (h1 : 1 ≤ q.length) (h2 : q.length ≤ 16) {k : Nat} (hk : 40 ≤ k) : ∀ (keys : List (List Int)) (out : List Int), Rows q.length keys → AA32 keys → attn_scores.l k (nars q) keys out = some (out ++ keys.map (scoreR q))
 | [], out, _, _ => by simp [attn_scores.l]
 | key :: keys, out, hr, ha => by
  have hl := hr key (by simp)
  have hb := dotR_bd (nars_nb q) (nars_nb key)
  rw [nars_length] at hb
  have e1 := sum_loop key (ha key (by simp)) (nars q) 0 0 (by rw [nars_length]; omega) (by rw [nars_length]; omega) (nars_nb q) (by omega) (by omega)
  rw [List.drop_zero, Int.zero_add] at e1
  have e2 := attn_scaled_some (s := dotR (nars q) (nars key)) (n := q.length) h1 h2 (by omega) (by omega) hk
  have ih := scores_some h1 h2 hk keys (out ++ [scoreR q key]) (fun r h => hr r (by simp [h])) (fun r h => ha r (by simp [h]))
  rw [attn_scores.l, e1, Option.bind_some, nars_length, e2, Option.bind_some]
  rw [show scaledR (dotR (nars q) (nars key)) q.length = scoreR q key from rfl, ih]
  simp
theorem mix_l1 (ws : List Int) (vals : List (List Int)) (wide i k : Nat) (acc : List Int) (hw : WB ws) (hl : ws.length = vals.length) (hn : ws.length ≤ 1024) (hr : Rows wide vals) (hi : i < wide) : ∀ (d p : Nat) (s : Int), p + d = vals.length → -(p * 1099511627776 : Int) ≤ s → s ≤ p * 1099511627776 →
  credenzaref04_Mix.l1 (k + d + 1) ws (vals.map nars) acc (i : Int) s (p : Int) = (credenzaref04_Sum.f k ws).bind fun t => (credenzaref01_Ratio.f (s + colR (ws.drop p) (vals.drop p) (i : Int)) t).bind fun y => (credenzaref01_Narrow.f y).bind fun z => if acc.length < 35184372088832 then credenzaref04_Mix.l0 k ws (vals.map nars) (acc ++ [z]) (wrap64 ((i : Int) + 1)) else none := by
 intro d
 induction d with
 | zero =>
  intro p s hp h1 h2
  rw [credenzaref04_Mix.l1, if_neg (by rw [List.length_map]; omega), show ws.drop p = [] from List.drop_eq_nil_of_le (by omega), show vals.drop p = [] from List.drop_eq_nil_of_le (by omega)]
  simp only [colR, Int.add_zero]
 | succ d ih =>
  intro p s hp h1 h2
  have hlt : p < vals.length := by omega
  have hlw : p < ws.length := by omega
  have hrl := hr _ (rowAt_mem hlt)
  have hww := hw _ (rd_mem hlw)
  have hm := wn_bd (x := rd (rowAt vals (p : Int)) (i : Int)) hww
  have hnr := narR_bd (rd (rowAt vals (p : Int)) (i : Int))
  rw [show k + (d + 1) + 1 = (k + d + 1) + 1 by omega, credenzaref04_Mix.l1, rdL, rowAt_map hlt, rd_nars (by omega), nars_length, hrl]
  rw [if_pos (by rw [List.length_map]; omega), if_pos (by omega), if_pos (by omega), if_pos (by omega), if_pos (by omega), wnext hlt (by omega), w64 (x := narR (rd (rowAt vals (p : Int)) (i : Int))) (by omega) (by omega), w64 (x := rd ws (p : Int) * narR (rd (rowAt vals (p : Int)) (i : Int))) (by omega) (by omega)]
  have hc : colR (ws.drop p) (vals.drop p) (i : Int) = rd ws (p : Int) * narR (rd (rowAt vals (p : Int)) (i : Int)) + colR (ws.drop (p + 1)) (vals.drop (p + 1)) (i : Int) := by rw [drop_rd hlw, drop_row hlt, colR]
  rw [hc]
  generalize rd ws (p : Int) * narR (rd (rowAt vals (p : Int)) (i : Int)) = m at *
  rw [w64 (x := s + m) (by omega) (by omega), ih (p + 1) (s + m) (by omega) (by omega) (by omega), Int.add_assoc]
theorem colR_bd : ∀ (ws : List Int) (vals : List (List Int)) (i : Int), WB ws → -(ws.length * 1099511627776 : Int) ≤ colR ws vals i ∧ colR ws vals i ≤ ws.length * 1099511627776 := by
 intro ws
 induction ws with
 | nil => intro vals i _; cases vals <;> simp [colR]
 | cons w ws ih =>
  intro vals i h
  cases vals with
  | nil => simp only [colR, List.length_cons]; omega
  | cons v vals =>
   have h1 := ih vals i (fun z hz => h z (by simp [hz]))
   have h2 := wn_bd (x := rd v i) (h w (by simp))
   simp only [colR, List.length_cons]
   omega
theorem mix_l0 (ws : List Int) (vals : List (List Int)) (wide : Nat) (hw : WB ws) (hp : 0 < sumR ws) (hl : ws.length = vals.length) (hn : ws.length ≤ 1024) (h0 : 0 < vals.length) (hr : Rows wide vals) (hwd : wide ≤ 16) : ∀ (d k i : Nat), i + d = wide → (d + 1) * (vals.length + 2) + 2 ≤ k → credenzaref04_Mix.l0 k ws (vals.map nars) ((mixR ws vals wide).take i) (i : Int) = some (mixR ws vals wide) := by
 intro d
 have hml := mixR_length (ws := ws) hr
 have hrow0 : (rd_L11 (vals.map nars) 0).length = wide := by
  have h1 := rowAt_map h0
  have h2 : ((0 : Nat) : Int) = 0 := rfl
  rw [h2] at h1
  rw [rdL, h1, nars_length]
  exact hr _ (rowAt_mem (t := 0) h0)
 have hsb := sumR_bd hw
 induction d with
 | zero =>
  intro k i hi hk
  obtain ⟨k, rfl⟩ : ∃ m, k = m + 1 := ⟨k - 1, by omega⟩
  rw [credenzaref04_Mix.l0, if_pos (by rw [List.length_map]; omega), hrow0, if_neg (by omega), List.take_of_length_le (by omega)]
 | succ d ih =>
  intro k i hi hk
  have hk2 : (d + 1 + 1) * (vals.length + 2) = (d + 1) * (vals.length + 2) + (vals.length + 2) := by rw [Nat.add_mul, Nat.one_mul]
  obtain ⟨k, rfl⟩ : ∃ m, k = (m + vals.length + 1) + 1 := ⟨k - vals.length - 2, by omega⟩
  have hlt : i < wide := by omega
  have hkk : (d + 1) * (vals.length + 2) + 2 ≤ k := by omega
  have hkn : ws.length < k := by
   have : 1 * (vals.length + 2) ≤ (d + 1) * (vals.length + 2) := Nat.mul_le_mul_right _ (by omega)
   omega
  have hcb := colR_bd ws vals (i : Int) hw
  have e1 := mix_l1 ws vals wide i k ((mixR ws vals wide).take i) hw hl hn hr hlt vals.length 0 0 (by omega) (by omega) (by omega)
  rw [List.drop_zero, List.drop_zero, Int.zero_add, show ((0 : Nat) : Int) = 0 from rfl] at e1
  have e2 : (mixR ws vals wide).take i ++ [outR ws (colR ws vals (i : Int))] = (mixR ws vals wide).take (i + 1) := by rw [take_rd (by omega), mixR_at hr hlt]
  rw [credenzaref04_Mix.l0, if_pos (by rw [List.length_map]; omega), hrow0, if_pos (by omega), e1, ref_Sum_some hn hw hkn, Option.bind_some, ref_Ratio_some (by omega) (by omega) (by omega) (by omega), Option.bind_some, ref_Narrow_some, Option.bind_some, if_pos (by rw [List.length_take]; omega), wnext hlt (by omega), show narR (rnd (colR ws vals (i : Int)) (sumR ws)) = outR ws (colR ws vals (i : Int)) from rfl, e2]
  exact ih k (i + 1) (by omega) hkk
theorem ref_Mix_some {ws : List Int} {vals : List (List Int)} {wide : Nat} (hw : WB ws) (hp : 0 < sumR ws) (hl : ws.length = vals.length) (hn : ws.length ≤ 1024) (h0 : 0 < vals.length) (hr : Rows wide vals) (hwd : wide ≤ 16) {k : Nat} (hk : (wide + 1) * (vals.length + 2) + 2 ≤ k) : credenzaref04_Mix.f k ws (vals.map nars) = some (mixR ws vals wide) := by
 have := mix_l0 ws vals wide hw hp hl hn h0 hr hwd wide k 0 (by omega) hk
 rw [List.take_zero] at this
 exact this
def gatherR (q : List Int) (keys vals : List (List Int)) : List Int := mixR (weightsR (keys.map (scoreR q))) vals q.length
theorem scoreR_i32 (q key : List Int) : I32 (scoreR q key) := wideR_bd _
theorem scores_a32 (q : List Int) (keys : List (List Int)) : A32 (keys.map (scoreR q)) := by
 intro x hx
 obtain ⟨y, _, rfl⟩ := List.mem_map.1 hx
 exact scoreR_i32 q y
def Right (q : List Int) (keys vals : List (List Int)) : Prop := keys.length = vals.length ∧ 1 ≤ q.length ∧ q.length ≤ 16 ∧ Rows q.length keys ∧ Rows q.length vals
theorem shaped_loop (l : List (List Int)) (n : Nat) (hl : l.length ≤ 1000000) : ∀ (d k p : Nat), p + d = l.length → d < k → ∃ b, attn_shaped.l0 k (n : Int) l (l.length : Int) (p : Int) = some b ∧ (b = true ↔ Rows n (l.drop p)) := by
 intro d
 induction d with
 | zero =>
  intro k p hp hk
  obtain ⟨k, rfl⟩ : ∃ m, k = m + 1 := ⟨k - 1, by omega⟩
  refine ⟨true, by rw [attn_shaped.l0, if_neg (by omega)], ?_⟩
  rw [List.drop_eq_nil_of_le (by omega)]
  simp [Rows]
 | succ d ih =>
  intro k p hp hk
  obtain ⟨k, rfl⟩ : ∃ m, k = m + 1 := ⟨k - 1, by omega⟩
  have hlt : p < l.length := by omega
  rw [attn_shaped.l0, if_pos (by omega), if_pos (by omega), if_pos (by omega), rdL, drop_row hlt]
  by_cases c : (rowAt l (p : Int)).length = n
  ·rw [if_pos (by omega), wnext hlt (by omega)]
   obtain ⟨b, h1, h2⟩ := ih k (p + 1) (by omega) (by omega)
   refine ⟨b, h1, h2.trans ?_⟩
   simp [Rows, c]
  ·refine ⟨false, by rw [if_neg (by omega)], ?_⟩
   simp [Rows, c]
theorem shaped_some (l : List (List Int)) (n : Nat) (hl : l.length ≤ 1000000) {k : Nat} (hk : l.length < k) : ∃ b, attn_shaped.f k l (n : Int) = some b ∧ (b = true ↔ Rows n l) := by
 have := shaped_loop l n hl l.length k 0 (by omega) hk
 rw [List.drop_zero] at this
 exact this
def RightIs (q : List Int) (keys vals : List (List Int)) (e : Int) : Prop := (keys.length = 0 ∧ e = 14) ∨ (0 < keys.length ∧ 1024 < keys.length ∧ e = 12) ∨ (0 < keys.length ∧ keys.length ≤ 1024 ∧ Right q keys vals ∧ e = 0) ∨ (0 < keys.length ∧ keys.length ≤ 1024 ∧ ¬ Right q keys vals ∧ e = 25)
theorem getD0 {l : List (List Int)} (h : 0 < l.length) : l.getD 0 [] ∈ l := rowAt_mem (t := 0) h
theorem attn_right_some {q : List Int} {keys vals : List (List Int)} (hv : vals.length ≤ 1000000) {k : Nat} (hkv : vals.length < k) : ∃ e, attn_right.f k q keys vals = some e ∧ RightIs q keys vals e := by
 unfold attn_right.f RightIs
 by_cases c1 : keys.length = 0
 ·exact ⟨14, by rw [if_pos c1], .inl ⟨c1, rfl⟩⟩
 rw [if_neg c1]
 by_cases c2 : 1024 < keys.length
 ·exact ⟨12, by rw [if_pos c2], .inr (.inl ⟨by omega, c2, rfl⟩)⟩
 rw [if_neg c2]
 have hm := getD0 (l := keys) (by omega)
 have no : ∀ h : ¬ Right q keys vals, ∃ e, some (25 : Int) = some e ∧ ((keys.length = 0 ∧ e = 14) ∨ (0 < keys.length ∧ 1024 < keys.length ∧ e = 12) ∨ (0 < keys.length ∧ keys.length ≤ 1024 ∧ Right q keys vals ∧ e = 0) ∨ (0 < keys.length ∧ keys.length ≤ 1024 ∧ ¬ Right q keys vals ∧ e = 25)) := fun h => ⟨25, rfl, .inr (.inr (.inr ⟨by omega, by omega, h, rfl⟩))⟩
 by_cases c3 : keys.length = vals.length
 ·rw [if_pos c3]
  unfold attn_sized.f
  by_cases c4 : 1 ≤ (keys.getD 0 []).length
  ·rw [if_pos (by omega)]
   by_cases c5 : (keys.getD 0 []).length ≤ 16
   ·rw [decide_eq_true (by omega), Option.bind_some, if_pos rfl]
    by_cases c6 : q.length = (keys.getD 0 []).length
    ·rw [if_pos c6]
     obtain ⟨b, hb, hb2⟩ := shaped_some keys (keys.getD 0 []).length (by omega) (k := k) (by omega)
     obtain ⟨b', hb', hb2'⟩ := shaped_some vals (keys.getD 0 []).length hv hkv
     rw [← c6] at hb2 hb2'
     rw [hb, Option.bind_some]
     cases b with
     | false =>
      rw [if_neg (by simp)]
      exact no (fun h => by have := hb2.2 h.2.2.2.1; cases this)
     | true =>
      rw [if_pos rfl, hb', Option.bind_some]
      cases b' with
      | false =>
       rw [if_neg (by simp)]
       exact no (fun h => by have := hb2'.2 h.2.2.2.2; cases this)
      | true =>
       rw [if_pos rfl]
       exact ⟨0, rfl, .inr (.inr (.inl ⟨by omega, by omega, ⟨c3, by omega, by omega, hb2.1 rfl, hb2'.1 rfl⟩, rfl⟩))⟩
    ·rw [if_neg c6]
     exact no (fun h => c6 (h.2.2.2.1 _ hm).symm)
   ·rw [decide_eq_false (by omega), Option.bind_some, if_neg (by simp)]
    exact no (fun h => by have := h.2.2.2.1 _ hm; have := h.2.2.1; omega)
  ·rw [if_neg (by omega), Option.bind_some, if_neg (by simp)]
   exact no (fun h => by have := h.2.2.2.1 _ hm; have := h.2.1; omega)
 ·rw [if_neg c3]
  exact no (fun h => c3 h.1)
theorem ref_right_loop (keys vals : List (List Int)) (n : Nat) (hl : keys.length = vals.length) (hn : keys.length ≤ 1024) : ∀ (d k p : Nat), p + d = keys.length → d < k → (Rows n (keys.drop p) ∧ Rows n (vals.drop p) ∧ credenzaref14_Right.l0 k keys vals (n : Int) (p : Int) = some 0) ∨ (¬ (Rows n (keys.drop p) ∧ Rows n (vals.drop p)) ∧ credenzaref14_Right.l0 k keys vals (n : Int) (p : Int) = some 25) := by
 intro d
 induction d with
 | zero =>
  intro k p hp hk
  obtain ⟨k, rfl⟩ : ∃ m, k = m + 1 := ⟨k - 1, by omega⟩
  refine .inl ⟨?_, ?_, by rw [credenzaref14_Right.l0, if_neg (by omega)]⟩
  ·rw [List.drop_eq_nil_of_le (by omega)]; simp [Rows]
  ·rw [List.drop_eq_nil_of_le (by omega)]; simp [Rows]
 | succ d ih =>
  intro k p hp hk
  obtain ⟨k, rfl⟩ : ∃ m, k = m + 1 := ⟨k - 1, by omega⟩
  have hlt : p < keys.length := by omega
  have hlv : p < vals.length := by omega
  rw [credenzaref14_Right.l0, if_pos (by omega), if_pos (by omega), rdL, rdL, drop_row hlt, drop_row hlv]
  by_cases c : (rowAt keys (p : Int)).length = n
  ·rw [if_pos (by omega), if_pos (by omega)]
   by_cases c2 : (rowAt vals (p : Int)).length = n
   ·rw [if_pos (by omega), wnext hlt (by omega)]
    rcases ih k (p + 1) (by omega) (by omega) with ⟨h1, h2, h3⟩ | ⟨h1, h3⟩
    ·exact .inl ⟨by simpa [Rows, c] using h1, by simpa [Rows, c2] using h2, h3⟩
    ·exact .inr ⟨fun h => h1 ⟨fun r hr => h.1 r (by simp [hr]), fun r hr => h.2 r (by simp [hr])⟩, h3⟩
   ·exact .inr ⟨fun h => c2 (h.2 _ (by simp)), by rw [if_neg (by omega)]⟩
  ·exact .inr ⟨fun h => c (h.1 _ (by simp)), by rw [if_neg (by omega)]⟩
theorem ref_Right_some {q : List Int} {keys vals : List (List Int)} {k : Nat} (hk : 1026 < k) : ∃ e, credenzaref14_Right.f k q keys vals = some e ∧ RightIs q keys vals e := by
 obtain ⟨k, rfl⟩ : ∃ m, k = m + 1 := ⟨k - 1, by omega⟩
 have j25 : ∀ a b : List (List Int), ∀ n : Int, credenzaref14_Right.j0 (k + 1) a b n true = some 25 := fun a b n => by rw [credenzaref14_Right.j0, if_pos rfl]
 have jl : ∀ a b : List (List Int), ∀ n : Int, credenzaref14_Right.j0 (k + 1) a b n false = credenzaref14_Right.l0 k a b n 0 := fun a b n => by rw [credenzaref14_Right.j0, if_neg (by simp)]
 unfold credenzaref14_Right.f RightIs
 by_cases c1 : keys.length = 0
 ·exact ⟨14, by rw [if_pos (by omega)], .inl ⟨c1, rfl⟩⟩
 rw [if_neg (by omega)]
 by_cases c2 : 1024 < keys.length
 ·exact ⟨12, by rw [if_pos (by omega)], .inr (.inl ⟨by omega, c2, rfl⟩)⟩
 rw [if_neg (by omega), if_pos (by omega), rdL]
 have hm : rowAt keys 0 ∈ keys := rowAt_mem (t := 0) (by omega)
 have no : ∀ h : ¬ Right q keys vals, ∃ e, some (25 : Int) = some e ∧ ((keys.length = 0 ∧ e = 14) ∨ (0 < keys.length ∧ 1024 < keys.length ∧ e = 12) ∨ (0 < keys.length ∧ keys.length ≤ 1024 ∧ Right q keys vals ∧ e = 0) ∨ (0 < keys.length ∧ keys.length ≤ 1024 ∧ ¬ Right q keys vals ∧ e = 25)) := fun h => ⟨25, rfl, .inr (.inr (.inr ⟨by omega, by omega, h, rfl⟩))⟩
 by_cases c3 : keys.length = vals.length
 ·rw [if_pos (by omega)]
  by_cases c6 : q.length = (rowAt keys 0).length
  ·rw [if_pos (by omega)]
   by_cases c4 : (rowAt keys 0).length < 1
   ·rw [if_pos (by omega), j25]
    exact no (fun h => by have := h.2.1; omega)
   ·rw [if_neg (by omega)]
    by_cases c5 : 16 < (rowAt keys 0).length
    ·rw [decide_eq_true (by omega), j25]
     exact no (fun h => by have := h.2.2.1; omega)
    ·rw [decide_eq_false (by omega), jl]
     have := ref_right_loop keys vals (rowAt keys 0).length c3 (by omega) keys.length k 0 (by omega) (by omega)
     rw [List.drop_zero, List.drop_zero] at this
     rcases this with ⟨h1, h2, h3⟩ | ⟨h1, h3⟩
     ·rw [← c6] at h1 h2
      exact ⟨0, h3, .inr (.inr (.inl ⟨by omega, by omega, ⟨c3, by omega, by omega, h1, h2⟩, rfl⟩))⟩
     ·rw [← c6] at h1
      exact ⟨25, h3, .inr (.inr (.inr ⟨by omega, by omega, fun h => h1 ⟨h.2.2.2.1, h.2.2.2.2⟩, rfl⟩))⟩
  ·rw [if_neg (by omega), j25]
   exact no (fun h => c6 (h.2.2.2.1 _ hm).symm)
 ·rw [if_neg (by omega), j25]
  exact no (fun h => c3 h.1)
theorem RightIs.one {q : List Int} {keys vals : List (List Int)} {e e' : Int} (h : RightIs q keys vals e) (h' : RightIs q keys vals e') : e = e' := by
 unfold RightIs at h h'
 rcases h with ⟨h1, rfl⟩ | ⟨h1, h2, rfl⟩ | ⟨h1, h2, h3, rfl⟩ | ⟨h1, h2, h3, rfl⟩ <;> rcases h' with ⟨h1', rfl⟩ | ⟨h1', h2', rfl⟩ | ⟨h1', h2', h3', rfl⟩ | ⟨h1', h2', h3', rfl⟩ <;> first | rfl | omega | exact absurd h3 h3' | exact absurd h3' h3
theorem attn_Gather_some {q : List Int} {keys vals : List (List Int)} (h0 : 0 < keys.length) (hn : keys.length ≤ 1024) (hr : Right q keys vals) (hq : A32 q) (hak : AA32 keys) (hav : AA32 vals) {k : Nat} (hk : 1100 < k) : attn_Gather.f k q keys vals = some (gatherR q keys vals, 0) := by
 obtain ⟨e, he, hi⟩ := attn_right_some (q := q) (keys := keys) (vals := vals) (by have := hr.1; omega) (k := k) (by have := hr.1; omega)
 have hz : e = 0 := hi.one (.inr (.inr (.inl ⟨h0, hn, hr, rfl⟩)))
 subst hz
 obtain ⟨hl, h1, h2, hrk, hrv⟩ := hr
 have hls : (keys.map (scoreR q)).length = keys.length := List.length_map _
 have hwl := weightsR_length (keys.map (scoreR q))
 have e1 := attn_cut_some q (by omega) hq (k := k) (by omega)
 have e2 := scores_some h1 h2 (k := k) (by omega) keys [] hrk hak
 rw [List.nil_append] at e2
 have e3 := soft_Weights_some (l := keys.map (scoreR q)) (by omega) (by omega) (scores_a32 q keys) (k := k) (by omega)
 have e4 := attn_gather_some (ws := weightsR (keys.map (scoreR q))) (vals := vals) (wide := q.length) (by omega) (by omega) weightsR_wb (by have := weightsR_pos (l := keys.map (scoreR q)) (by omega); omega) (fun v hv => ⟨hrv v hv, hav v hv⟩) (k := k) (by omega)
 rw [attn_Gather.f, attn_Fused.f, he, Option.bind_some, if_pos rfl, e1, Option.bind_some, e2, Option.bind_some, e3, Option.bind_some, if_pos rfl, e4, Option.bind_some, gatherR]
end Go.Proofs.Yteflolamihhmdaa.Pure

namespace Go.Proofs.YteflolamihhmdaaW.PrintWords
open Go.RowKit
namespace Kd
def at0 (B : Option Nat) : Option Addr := B.map fun b => ⟨b, 0, none⟩
def ptr {α : Type} (e : Nat) (d : Kd α) : Kd (List α) where
 sz := 1
 E := e :: d.E
 K := fun w xs cs => ∃ B, cs = [.pointer (at0 B)] ∧ xs.length ≤ 1 ∧ (B = none ↔ xs = []) ∧ d.C w (at0 B) xs.length xs
 M := fun w base ok xs cs => ∃ B, cs = [.pointer (at0 B)] ∧ xs.length ≤ 1 ∧ (B = none ↔ xs = []) ∧ d.R e w base ok (.slice (at0 B) xs.length xs.length) xs
 K_len := by
  rintro w x cs ⟨A, rfl, _⟩
  rfl
 K_one := by
  rintro w x cs ⟨A, rfl, _⟩ u hu
  rw [List.mem_singleton.1 hu]
  rfl
 K_below := by
  rintro w w1 x cs hb ⟨A, rfl, h1, h2, hr⟩
  exact ⟨A, rfl, h1, h2, C_below hr hb⟩
 K_of_M := by
  rintro w base ok x cs ⟨A, rfl, h1, h2, h⟩
  exact ⟨A, rfl, h1, h2, (R_reads' h).2.2⟩
 M_mono := by
  rintro w base ok ok' x cs hok ⟨A, rfl, h1, h2, h⟩
  exact ⟨A, rfl, h1, h2, R_mono h hok⟩
 M_bound := by
  rintro w base ok x cs ⟨A, rfl, h1, h2, h⟩
  exact ⟨A, rfl, h1, h2, R_bound h⟩
 M_move := by
  rintro w w1 base ok x cs hm ⟨A, rfl, h1, h2, h⟩
  exact ⟨A, rfl, h1, h2, R_move h hm⟩
 M_lower := by
  rintro w base base' ok x cs hb ⟨A, rfl, h1, h2, h⟩
  exact ⟨A, rfl, h1, h2, R_lower h hb⟩
section
variable {α : Type} {d : Kd α} {e base : Nat} {ok okp : Nat → Prop} {W w w1 : World} {x : α} {cs : List Value} {A : Option Addr} {xs : List α}
theorem ptr_nil (w : World) (base : Nat) (ok : Nat → Prop) : (ptr e d).M w base ok [] [.pointer none] := ⟨none, rfl, by simp, by simp, R_nil d e w base ok⟩
theorem ptr_open (h : (ptr e d).K w [x] [.pointer A]) : ∃ b, A = some ⟨b, 0, none⟩ ∧ d.C w (some ⟨b, 0, none⟩) 1 [x] := by
 obtain ⟨B, hA, h1, h2, hr⟩ := h
 obtain rfl : A = at0 B := by simpa using hA
 cases B with
 | none => exact absurd (h2.1 rfl) (by simp)
 | some b => exact ⟨b, rfl, hr⟩
theorem ptr_cells (h : (ptr e d).K w [x] [.pointer A]) : ∃ b c, A = some ⟨b, 0, none⟩ ∧ d.K w x c ∧ ∀ j u, c[j]? = some u → w.cell? ⟨b, j, none⟩ = some u := by
 obtain ⟨b, rfl, hr⟩ := ptr_open h
 obtain ⟨ad, c, e', -, hk, hc⟩ := C_get hr x 0 (by omega) (by omega)
 obtain rfl := Option.some.inj e'
 refine ⟨b, c, rfl, by simpa using hk, fun j u hu => ?_⟩
 have := hc j u hu
 cases j with
 | zero => simpa [Addr.add] using this
 | succ j => simpa [Addr.add] using this
theorem at_ptr {n : Nat} {ps : List (List α)} {A : Option Addr} (h : (ptr e d).C w A n ps) (i : Nat) (h1 : i < n) : ∃ ad B, A = some ad ∧ w.cell? (ad.add i) = some (.pointer B) ∧ (ptr e d).K w (ps.getD i []) [.pointer B] := by
 obtain ⟨ad, c, e', -, ⟨B, rfl, hk⟩, hc⟩ := C_get h [] (i : Int) (by omega) (by omega)
 refine ⟨ad, _, e', ?_, ⟨B, rfl, by simpa using hk⟩⟩
 have := hc 0 _ rfl
 simpa [ptr] using this
theorem K_below_ {β : Type} {d' : Kd β} {w1 : World} {y : β} {cs : List Value} (h : d'.K w y cs) (hb : Below w.heap.size w w1) : d'.K w1 y cs := d'.K_below hb h
theorem ptr_new (hp : d.M W base okp x cs) (hok : ∀ k, okp k → ok k) (hfresh : ok W.heap.size) (hbase : base ≤ W.heap.size) :
  (ptr e d).M (W.alloc (.cells cs.toArray e)) base ok [x] [.pointer (some ⟨W.heap.size, 0, none⟩)] := by
 refine ⟨some W.heap.size, rfl, by simp, by simp, fun k hk => ?_, cs, ?_, ?_⟩
 ·have : W.heap.size = k := by simpa [Value.ownBlock, at0] using hk
  subst this
  exact hfresh
 ·have hl := d.K_len (d.K_of_M hp)
  have h := World.ownsRow_lit (base := base) (e := e) (size := d.sz) W cs.toArray 1 hbase (by decide) (by simp [hl])
  simpa [at0] using h
 ·have h2 := d.M_bound hp
  have h3 : d.M (W.alloc (.cells cs.toArray e)) base (fun k => ok k ∧ some k ≠ (Value.slice (some ⟨W.heap.size, 0, none⟩) 1 1).ownBlock) x cs :=
   d.M_mono (fun k hk => ⟨hok k hk.1, by simp [Value.ownBlock]; have := hk.2.2.1; omega⟩) (d.M_move (fun k hk => by have := hk.2.2.1; rw [World.alloc]; simp [Array.getElem?_push, show k ≠ W.heap.size by omega]) h2)
  exact Reps.front h3 (d.K_len (d.K_of_M hp)) (Reps.none _ _) (by simp)
end
section
variable {α : Type} {P : Program} {ops : Array Oper} {rest : List Oper} {o : Oper} {a : Act} {Q : Exit → Act → World → Prop}
theorem ptr_event (d : Kd α) {w0 W : World} (base : Nat) (hgd : o.guard = none) {N : Tmp} (_hd : o.dst = some N) {cs : List Value} {t : TypeId} {x : α} {okp : Nat → Prop}
  (hrun : (execOp a.eval o).run P W = .ok (.value (.pointer (some ⟨W.heap.size, 0, none⟩))) (W.alloc (.cells cs.toArray t (0, 0))))
  (hp : d.M W base okp x cs) (HB : Below base w0 W) (hbase : base ≤ W.heap.size)
  (h : ∀ g w1, (ptr t d).M w1 base (fun _ => True) [x] [.pointer (some g)] → Below base w0 w1 → wpList P ops Q rest (a.put o.dst (.pointer (some g))) w1) : wpList P ops Q (o :: rest) a W :=
 Kd.event_run hgd hrun (h _ _ (ptr_new hp (fun _ _ => trivial) trivial hbase) (HB.alloc hbase _))
theorem M_lower_ {α : Type} {d : Kd α} {base base' : Nat} {ok : Nat → Prop} {w : World} {x : α} {cs : List Value} (h : d.M w base ok x cs) (hb : base' ≤ base) : d.M w base' ok x cs := d.M_lower hb h
theorem M_fresh {α β : Type} {d : Kd α} {d' : Kd β} {base e : Nat} {ok ok' : Nat → Prop} {W w1 : World} {x : α} {cs : List Value} {v : Value} {xs : List β} (hp : d.M w1 W.heap.size ok x cs) (ho : d'.R e W base ok' v xs) : d.M w1 W.heap.size (fun k => some k ≠ v.ownBlock) x cs := by
 obtain ⟨_, ho⟩ := R_own ho
 exact d.M_mono (fun _ hk => hk.2) (M_new hp ho)
end
end Kd
end Go.Proofs.YteflolamihhmdaaW.PrintWords

namespace Go.Proofs.Yteflolamihhmdaa.Q
open Go.RowKit Go.Proofs.YteflolamihhmdaaW.PrintWords Go.Proofs.YteflolamihhmdaaW.PrintLast Go.Proofs.YteflolamihhmdaaW.PrintMore
attribute [local go_sem] max2_int min2_int max_two min_two max_three min_three max_four min_four
def page_within.f (a0 : Int) (a1 : Int) (a2 : Int) : Option (Bool) := if a0 ≥ a1 then (some (decide (a0 ≤ a2))) else (some false)
theorem page_within.calls (a0 : Int) (a1 : Int) (a2 : Int) (r : Bool) (w : World) (h : page_within.f a0 a1 a2 = some r) :
  Calls Try.prog 75 #[.int .i64 a0, .int .i64 a1, .int .i64 a2] w fun e w' => e = .returned (.bool r) ∧ Drawn0 w w' := by
 have H := h
 unfold page_within.f at H
 clear h
 by_cases c4 : a0 ≥ a1
 ·rw [if_pos c4] at H
  have c4b0 : decide (a1 ≤ a0) = true := decide_eq_true c4
  clear c4
  obtain rfl := Option.some.inj H
  go_enter Try.func75, Try.ntmps75
  go_wp2
  go_ret
  exact ⟨rs_, d0_⟩
 ·rw [if_neg c4] at H
  have c4b0 : decide (a1 ≤ a0) = false := decide_eq_false c4
  clear c4
  obtain rfl := Option.some.inj H
  go_enter Try.func75, Try.ntmps75
  go_wp2
  go_ret
  exact ⟨rs_, d0_⟩
def group_One.f (a0_0 : Int) (a0_1 : Int) (l0_2 : List Int) (a1 : Int) : Option (Int) := (fix_Wide.f (wrap64 ((wrap64 (a0_0)) + (wrap64 (a1 * (wrap64 (a0_1))))))).bind fun t580 => (some t580)
theorem group_One.calls (a0_0 : Int) (a0_1 : Int) (A0_2 : Option Addr) (c0_2 : Nat) (l0_2 : List Int) (a1 : Int) (r : Int) (w : World) (hr0_2 : Kd.C (Kd.int .i64) w A0_2 l0_2.length l0_2) (hc0_2 : l0_2.length ≤ c0_2) (h : group_One.f a0_0 a0_1 l0_2 a1 = some r) :
  Calls Try.prog 117 #[.agg #[.int .i32 a0_0, .int .u32 a0_1, .slice A0_2 l0_2.length c0_2], .int .i64 a1] w fun e w' => e = .returned (.int .i32 r) ∧ Below w.heap.size w w' := by
 have hu100 := Try.underlying100
 have HR0_2 := A_ hr0_2
 have HC0_2 := A_ hc0_2
 clear hr0_2 hc0_2
 have HB := A_ (Below.refl w.heap.size w)
 have H := h
 unfold group_One.f at H
 clear h
 replace H := ob_ H
 obtain ⟨t580, A3, H⟩ := H
 try dsimp only at H
 obtain rfl := Option.some.inj H
 go_enter Try.func117, Try.ntmps117
 go_wp2_with (first | (refine box_event rfl (N := 2) rfl (cs := #[.int .i32 a0_0, .int .u32 a0_1, .slice A0_2 l0_2.length c0_2]) (t := 100) ?hr ?_; (case hr => first | (go_simp; done) | (go_simp; rfl)); intro gb579 hg w4 hbox hb; have BK579 := A_ hbox; have GW579 := A_ (gw_ w hg); have GE579 := A_ (gw_ w hg); replace HB := A_ (below_step bl_ hb); clear hb hbox hg; have ⟨_, _, _, _, _, _⟩ := k3_ BK579.out) | (refine goesL_ (some 14) rfl rfl Try.func47 (by kernel_rfl) rfl #[.int .i64 (wrap64 ((wrap64 (a0_0)) + (wrap64 (a1 * (wrap64 (a0_1))))))] rfl ar_ ?_; (with_reducible refine (fix_Wide.calls (wrap64 ((wrap64 (a0_0)) + (wrap64 (a1 * (wrap64 (a0_1)))))) t580 _ A3.out).mono ?_); rintro e w6 ⟨rfl, hb⟩; refine ⟨_, rfl, ?_⟩; replace BK579 := A_ (bb_ BK579.out hb); replace HB := A_ (below_step bl_ hb)))
 go_ret
 exact ⟨ew_, bl_⟩
def page_packed_mean.f (a0_0 : Int) (a0_1 : Int) (l0_2 : List Int) (l0_3 : List Int) (a1 : Int) (a2 : Int) : Option (Int) := (pack_Lane.f l0_3 a1 a2).bind fun t584 => ((group_One.f a0_0 a0_1 l0_2 t584).bind fun t585 => (some t585))
def page_packed_mean.T1 : Bool × List (List Nat × List Nat) := (true, [([], []), ([0], [0]), ([], []), ([2], [2]), ([], []), ([], []), ([3, 4, 5], [3, 4, 5]), ([1, 6, 6], [1, 6]), ([7, 7, 0, 1, 2, 3, 4, 5, 6, 7], [7])])
def page_packed_mean.B1 : List Nat := [0, 1, 0, 4, 0, 0, 60, 127, 255]
theorem page_packed_mean.tab1 : rtab .any (opsOf Try.f115 1) = page_packed_mean.T1 := by kernel_rfl
theorem page_packed_mean.bits1 : waitsOk page_packed_mean.T1.2 page_packed_mean.B1 = true := by kernel_rfl
theorem page_packed_mean.calls (a0_0 : Int) (a0_1 : Int) (A0_2 : Option Addr) (c0_2 : Nat) (l0_2 : List Int) (A0_3 : Option Addr) (c0_3 : Nat) (l0_3 : List Int) (a1 : Int) (a2 : Int) (r : Int) (w : World) (hr0_2 : Kd.C (Kd.int .i64) w A0_2 l0_2.length l0_2) (hc0_2 : l0_2.length ≤ c0_2) (hr0_3 : Kd.C (Kd.int .u64) w A0_3 l0_3.length l0_3) (hc0_3 : l0_3.length ≤ c0_3) (h : page_packed_mean.f a0_0 a0_1 l0_2 l0_3 a1 a2 = some r) :
  Calls Try.prog 115 #[.agg #[.int .i32 a0_0, .int .u32 a0_1, .slice A0_2 l0_2.length c0_2, .slice A0_3 l0_3.length c0_3], .int .i64 a1, .int .i64 a2] w fun e w' => e = .returned (.int .i32 r) ∧ Below w.heap.size w w' := by
 have hu135 := Try.underlying135
 have hu100 := Try.underlying100
 have HR0_2 := A_ hr0_2
 have HC0_2 := A_ hc0_2
 clear hr0_2 hc0_2
 have HR0_3 := A_ hr0_3
 have HC0_3 := A_ hc0_3
 clear hr0_3 hc0_3
 have HB := A_ (Below.refl w.heap.size w)
 have H := h
 unfold page_packed_mean.f at H
 clear h
 replace H := ob_ H
 obtain ⟨t584, A4, H⟩ := H
 try dsimp only at H
 replace H := ob_ H
 obtain ⟨t585, A5, H⟩ := H
 try dsimp only at H
 obtain rfl := Option.some.inj H
 go_enter Try.func115, Try.ntmps115
 try go_wp2_with (first | (refine box_event rfl (N := 3) rfl (cs := #[.int .i32 a0_0, .int .u32 a0_1, .slice A0_2 l0_2.length c0_2, .slice A0_3 l0_3.length c0_3]) (t := 135) ?hr ?_; (case hr => first | (go_simp; done) | (go_simp; rfl)); intro gb583 hg w6 hbox hb; have BK583 := A_ hbox; have GW583 := A_ (gw_ w hg); have GE583 := A_ (gw_ w hg); replace HB := A_ (below_step bl_ hb); clear hb hbox hg))
 replace BK583 := A_ (blk_drew BK583.out)
 replace HB := A_ (below_drew1 HB.out)
 refine start_ (n := 9) (S := fun w' => w'.cell? ⟨gb583, 0, none⟩ = some (.int .i32 a0_0) ∧ w'.cell? ⟨gb583, 1, none⟩ = some (.int .u32 a0_1) ∧ w'.cell? ⟨gb583, 2, none⟩ = some (.slice A0_2 l0_2.length c0_2) ∧ w'.cell? ⟨gb583, 3, none⟩ = some (.slice A0_3 l0_3.length c0_3)) (ds := []) #[false, false, false, false, false, false, false, false, false] (by kernel_rfl) rfl rfl ⟨c0_ BK583.out, c1_ BK583.out, c2_ BK583.out, c3_ BK583.out⟩ (fun hHeld => ?_); refine with_tabW page_packed_mean.tab1 page_packed_mean.bits1 (fun HT_ HW_ => ?_)
 generalize w6.drew = w7 at BK583 HB hHeld ⊢
 refine pure_ (i := 0) (N := some 7) (v := ?_) (a' := ?_) #[true, false, false, false, false, false, false, false, false] rfl rfl (any_of HT_.out (by kernel_rfl)) (fun _ _ _ h => h) (Or.inl ⟨by rfl, ?_⟩) ?_ ?_
 rotate_left
 ·intro w'
  go_simp
  with_reducible rfl
 rotate_left
 ·simp only [Act.put, ps_, i64_w, i32_w]
  rfl
 refine pure_ (i := 2) (N := some 9) (v := ?_) (a' := ?_) #[true, false, true, false, false, false, false, false, false] rfl rfl (any_of HT_.out (by kernel_rfl)) (fun _ _ _ h => h) (Or.inl ⟨by rfl, ?_⟩) ?_ ?_
 rotate_left
 ·intro w'
  go_simp
  with_reducible rfl
 rotate_left
 ·simp only [Act.put, ps_, i64_w, i32_w]
  rfl
 refine pure_ (i := 4) (N := some 11) (v := ?_) (a' := ?_) #[true, false, true, false, true, false, false, false, false] rfl rfl (any_of HT_.out (by kernel_rfl)) (fun _ _ _ h => h) (Or.inl ⟨by rfl, ?_⟩) ?_ ?_
 rotate_left
 ·intro w'
  go_simp
  with_reducible rfl
 rotate_left
 ·simp only [Act.put, ps_, i64_w, i32_w]
  rfl
 refine pure_ (i := 5) (N := some 12) (v := ?_) (a' := ?_) #[true, false, true, false, true, true, false, false, false] rfl rfl (any_of HT_.out (by kernel_rfl)) (fun _ _ _ h => h) (Or.inl ⟨by rfl, ?_⟩) ?_ ?_
 rotate_left
 ·intro w'
  go_simp
  with_reducible rfl
 rotate_left
 ·simp only [Act.put, ps_, i64_w, i32_w]
  rfl
 refine take_ (i := 1) (N := some 8) (v := ?_) (a' := ?_) #[true, true, true, false, true, true, false, false, false] rfl rfl (take_ofW HT_.out HW_.out (by kernel_rfl)) (fun _ _ _ h => h) (Or.inl ⟨by rfl, ?_⟩) hHeld ?_ ?_
 rotate_left
 ·rintro w' ⟨s0, s1, s2, s3⟩
  go_simp
  with_reducible rfl
 rotate_left
 ·simp only [Act.put, ps_, i64_w, i32_w]
  rfl
 refine take_ (i := 3) (N := some 10) (v := ?_) (a' := ?_) #[true, true, true, true, true, true, false, false, false] rfl rfl (take_ofW HT_.out HW_.out (by kernel_rfl)) (fun _ _ _ h => h) (Or.inl ⟨by rfl, ?_⟩) hHeld ?_ ?_
 rotate_left
 ·rintro w' ⟨s0, s1, s2, s3⟩
  go_simp
  with_reducible rfl
 rotate_left
 ·simp only [Act.put, ps_, i64_w, i32_w]
  rfl
 refine one_ (i := 6) (N := some 13) #[true, true, true, true, true, true, true, false, false] rfl rfl (one_of HT_.out (by kernel_rfl)) (by decide) (fun K hK => ?_)
 refine goes_ Try.func118 (by kernel_rfl) rfl #[.slice A0_3 l0_3.length c0_3, .int .i64 a1, .int .i64 a2] (by rfl) rfl rfl ar_ ?_
 with_reducible refine (pack_Lane.calls _ _ l0_3 a1 a2 t584 _ ?side1 ?side2 A4.out).mono ?_
 (case side1 => exact cb_ (Kd.C_below HR0_3.out HB.out))
 (case side2 => exact HC0_3.out)
 rintro e w' ⟨rfl, ⟨nd, rfl⟩⟩
 refine ⟨_, rfl, ?_⟩
 refine hK.out _ _ ⟨c0_ BK583.out, c1_ BK583.out, c2_ BK583.out, c3_ BK583.out⟩ (fun hHeld => ?_)
 clear hK K
 refine norm_ (a' := ?_) ?_ ?_
 rotate_left
 ·show Act.put _ (some 13) _ = _
  simp only [Act.put, ps_, i64_w, i32_w]
  rfl
 refine one_ (i := 7) (N := some 14) #[true, true, true, true, true, true, true, true, false] rfl rfl (one_of HT_.out (by kernel_rfl)) (by decide) (fun K hK => ?_)
 refine goes_ Try.func117 (by kernel_rfl) rfl #[.agg #[.int .i32 a0_0, .int .u32 a0_1, .slice A0_2 l0_2.length c0_2], .int .i64 t584] (by rfl) rfl rfl ar_ ?_
 with_reducible refine (group_One.calls a0_0 a0_1 _ _ l0_2 t584 t585 _ ?side1 ?side2 A5.out).mono ?_
 (case side1 => repeat (first | exact (Kd.C_below HR0_2.out bl_) | (with_reducible refine Kd.C_alloc ?_ _) | (with_reducible refine Kd.C_drewN ?_ _) | (with_reducible refine Kd.C_drew ?_)))
 (case side2 => exact HC0_2.out)
 rintro e w8 ⟨rfl, hb⟩
 refine ⟨_, rfl, ?_⟩
 replace BK583 := A_ (bb_ BK583.out hb)
 replace HB := A_ (below_step bl_ hb)
 refine hK.out _ _ ⟨c0_ BK583.out, c1_ BK583.out, c2_ BK583.out, c3_ BK583.out⟩ (fun hHeld => ?_)
 clear hK K
 refine norm_ (a' := ?_) ?_ ?_
 rotate_left
 ·show Act.put _ (some 14) _ = _
  simp only [Act.put, ps_, i64_w, i32_w]
  rfl
 refine pure_ (i := 8) (N := some 6) (v := ?_) (a' := ?_) #[true, true, true, true, true, true, true, true, true] rfl rfl (any_of HT_.out (by kernel_rfl)) (fun _ _ _ h => h) (Or.inl ⟨by rfl, ?_⟩) ?_ ?_
 rotate_left
 ·intro w'
  go_simp
  with_reducible rfl
 rotate_left
 ·simp only [Act.put, ps_, i64_w, i32_w]
  rfl
 refine done_ (done_of HT_.out (by kernel_rfl)) ?_
 try go_wp2
 go_ret
 exact ⟨ew_, bl_⟩
end Go.Proofs.Yteflolamihhmdaa.Q

namespace Go.Proofs.Yteflolamihhmdaa.Q
open Go.RowKit Go.Proofs.YteflolamihhmdaaW.PrintWords Go.Proofs.YteflolamihhmdaaW.PrintLast Go.Proofs.YteflolamihhmdaaW.PrintMore
abbrev PgK (w : World) (A : Option Addr) (x : S125) : Prop := (Kd.ptr 125 k125).K w [x] [.pointer A]
theorem PgK.below {w w1 : World} {A : Option Addr} {x : S125} (h : PgK w A x) (hb : Below w.heap.size w w1) : PgK w1 A x := Kd.K_below_ h hb
theorem page_open {w : World} {A : Option Addr} {x : S125} (h : PgK w A x) : ∃ b Ak ck Av cv, A = some ⟨b, 0, none⟩ ∧ w.cell? ⟨b, 0, none⟩ = some (.int .i64 x.f0.f0) ∧ w.cell? ⟨b, 1, none⟩ = some (.int .i64 x.f0.f1) ∧ w.cell? ⟨b, 2, none⟩ = some (.int .i64 x.f0.f2) ∧ w.cell? ⟨b, 3, none⟩ = some (.int .i64 x.f0.f3) ∧ w.cell? ⟨b, 4, none⟩ = some (.int .i64 x.f0.f4) ∧ w.cell? ⟨b, 5, none⟩ = some (.int .i64 x.f0.f5) ∧ w.cell? ⟨b, 6, none⟩ = some (.int .i64 x.f0.f6) ∧
  w.cell? ⟨b, 7, none⟩ = some (.slice Ak x.f1.length ck) ∧ w.cell? ⟨b, 8, none⟩ = some (.slice Av x.f2.length cv) ∧ x.f1.length ≤ ck ∧ Kd.C k135 w Ak x.f1.length x.f1 ∧ x.f2.length ≤ cv ∧ Kd.C k135 w Av x.f2.length x.f2 := by
 obtain ⟨b, c, rfl, hk, hc⟩ := Kd.ptr_cells h
 obtain ⟨A7, c7, A8, c8, rfl, h1, h2, h3, h4⟩ := k125_open hk
 exact ⟨b, A7, c7, A8, c8, rfl, hc 0 _ rfl, hc 1 _ rfl, hc 2 _ rfl, hc 3 _ rfl, hc 4 _ rfl, hc 5 _ rfl, hc 6 _ rfl, hc 7 _ rfl, hc 8 _ rfl, h1, h2, h3, h4⟩
theorem page_head.calls (A : Option Addr) (x : S125) (w : World) (h : PgK w A x) :
  Calls Try.prog 61 #[.pointer A] w fun e w' => e = .returned (.agg #[.int .i64 x.f0.f0, .int .i64 x.f0.f1, .int .i64 x.f0.f2, .int .i64 x.f0.f3, .int .i64 x.f0.f4, .int .i64 x.f0.f5, .int .i64 x.f0.f6]) ∧ Below w.heap.size w w' := by
 have hu1 := Try.underlying53
 have hu2 := Try.underlying125
 obtain ⟨b, Ak, ck, Av, cv, rfl, c0, c1, c2, c3, c4, c5, c6, -⟩ := page_open h
 have C0 := Aside0.mk c0
 clear h
 go_enter Try.func61, Try.ntmps61
 go_wp2_with ((with_reducible refine gate_dst (N := 2) rfl ?_); refine box_event ?hg (N := 2) ?hd (cs := #[.int .i64 0, .int .i64 0, .int .i64 0, .int .i64 0, .int .i64 0, .int .i64 0, .int .i64 0]) (t := 53) ?hr ?_; (case hd => rfl); (case hg => rfl); (case hr => first | (go_simp; done) | (go_simp; rfl)); intro gb hg w2 hbox hb; have BK := Aside0.mk hbox; have GE := Aside0.mk (Nat.le_of_eq hg.symm : w.heap.size ≤ gb); replace c0 := pw_cell_below hb c0; replace c1 := pw_cell_below hb c1; replace c2 := pw_cell_below hb c2; replace c3 := pw_cell_below hb c3; replace c4 := pw_cell_below hb c4; replace c5 := pw_cell_below hb c5; replace c6 := pw_cell_below hb c6; have hz0 : w2.cell? ⟨gb, 0, none⟩ = some (.int .i64 0) := (blk_cell BK.out 0).trans rfl; have hz1 : w2.cell? ⟨gb, 1, none⟩ = some (.int .i64 0) := (blk_cell BK.out 1).trans rfl; have hz2 : w2.cell? ⟨gb, 2, none⟩ = some (.int .i64 0) := (blk_cell BK.out 2).trans rfl; have hz3 : w2.cell? ⟨gb, 3, none⟩ = some (.int .i64 0) := (blk_cell BK.out 3).trans rfl; have hz4 : w2.cell? ⟨gb, 4, none⟩ = some (.int .i64 0) := (blk_cell BK.out 4).trans rfl; have hz5 : w2.cell? ⟨gb, 5, none⟩ = some (.int .i64 0) := (blk_cell BK.out 5).trans rfl; have hz6 : w2.cell? ⟨gb, 6, none⟩ = some (.int .i64 0) := (blk_cell BK.out 6).trans rfl; have hf0 := blk_frozen BK.out 0; have hf1 := blk_frozen BK.out 1; have hf2 := blk_frozen BK.out 2; have hf3 := blk_frozen BK.out 3; have hf4 := blk_frozen BK.out 4; have hf5 := blk_frozen BK.out 5; have hf6 := blk_frozen BK.out 6; have hne : b ≠ gb := (by have := World.block_lt_of_cell? w _ C0.out; rw [hg]; exact Nat.ne_of_lt this); have hne2 : gb ≠ b := Ne.symm hne; have HB := Aside0.mk hb; clear hb hbox hg)
 refine bodyPost_ret (results_cell_row rfl _ _ gb 53 #[.int .i64 x.f0.f0, .int .i64 x.f0.f1, .int .i64 x.f0.f2, .int .i64 x.f0.f3, .int .i64 x.f0.f4, .int .i64 x.f0.f5, .int .i64 x.f0.f6] (0, 0) _ rfl (by (with_reducible repeat (first | refine blk_drewN ?_ _ | refine blk_drew ?_ | refine blk_alloc ?_ _)); refine blk_put (cs := #[.int .i64 x.f0.f0, .int .i64 x.f0.f1, .int .i64 x.f0.f2, .int .i64 x.f0.f3, .int .i64 x.f0.f4, .int .i64 x.f0.f5, .int .i64 0]) ?_ 6 _ rfl; (with_reducible repeat (first | refine blk_drewN ?_ _ | refine blk_drew ?_ | refine blk_alloc ?_ _)); refine blk_put (cs := #[.int .i64 x.f0.f0, .int .i64 x.f0.f1, .int .i64 x.f0.f2, .int .i64 x.f0.f3, .int .i64 x.f0.f4, .int .i64 0, .int .i64 0]) ?_ 5 _ rfl; (with_reducible repeat (first | refine blk_drewN ?_ _ | refine blk_drew ?_ | refine blk_alloc ?_ _)); refine blk_put (cs := #[.int .i64 x.f0.f0, .int .i64 x.f0.f1, .int .i64 x.f0.f2, .int .i64 x.f0.f3, .int .i64 0, .int .i64 0, .int .i64 0]) ?_ 4 _ rfl; (with_reducible repeat (first | refine blk_drewN ?_ _ | refine blk_drew ?_ | refine blk_alloc ?_ _)); refine blk_put (cs := #[.int .i64 x.f0.f0, .int .i64 x.f0.f1, .int .i64 x.f0.f2, .int .i64 0, .int .i64 0, .int .i64 0, .int .i64 0]) ?_ 3 _ rfl; (with_reducible repeat (first | refine blk_drewN ?_ _ | refine blk_drew ?_ | refine blk_alloc ?_ _)); refine blk_put (cs := #[.int .i64 x.f0.f0, .int .i64 x.f0.f1, .int .i64 0, .int .i64 0, .int .i64 0, .int .i64 0, .int .i64 0]) ?_ 2 _ rfl; (with_reducible repeat (first | refine blk_drewN ?_ _ | refine blk_drew ?_ | refine blk_alloc ?_ _)); refine blk_put (cs := #[.int .i64 x.f0.f0, .int .i64 0, .int .i64 0, .int .i64 0, .int .i64 0, .int .i64 0, .int .i64 0]) ?_ 1 _ rfl; (with_reducible repeat (first | refine blk_drewN ?_ _ | refine blk_drew ?_ | refine blk_alloc ?_ _)); refine blk_put (cs := #[.int .i64 0, .int .i64 0, .int .i64 0, .int .i64 0, .int .i64 0, .int .i64 0, .int .i64 0]) ?_ 0 _ rfl; (with_reducible repeat (first | refine blk_drewN ?_ _ | refine blk_drew ?_ | refine blk_alloc ?_ _)); exact BK.out) Try.underlying53 rfl (by kernel_rfl)) rfl ?_
 exact ⟨rfl, by repeat (first | (with_reducible first | exact HB.out | apply below_alloc | apply pw_below_drewN | apply below_drew1 | refine below_set ?_ GE.out) | exact HB.out)⟩
theorem page_there.calls (A : Option Addr) (x : S125) (t p : Nat) (w : World) (h : PgK w A x) (h2 : x.f0.f2 ≤ 16) (h3 : x.f0.f3 ≤ 16) (ht : (t : Int) < x.f0.f2) (hp : (p : Int) < x.f0.f3) :
  Calls Try.prog 114 #[.pointer A, .int .i64 (t : Int), .int .i64 (p : Int)] w fun e w' => e = .returned (.bool true) ∧ Below w.heap.size w w' := by
 have hu1 := Try.underlying53
 have hu2 := Try.underlying125
 obtain ⟨b, Ak, ck, Av, cv, rfl, c0, c1, c2, c3, c4, c5, c6, -⟩ := page_open h
 have H1 : page_within.f (t : Int) 0 (wrap64 (x.f0.f2 - 1)) = some true := by
  unfold page_within.f
  rw [if_pos (by omega)]
  have : wrap64 (x.f0.f2 - 1) = x.f0.f2 - 1 := by unfold wrap64; omega
  rw [this]
  simp
  omega
 have H2 : page_within.f (p : Int) 0 (wrap64 (x.f0.f3 - 1)) = some true := by
  unfold page_within.f
  rw [if_pos (by omega)]
  have : wrap64 (x.f0.f3 - 1) = x.f0.f3 - 1 := by unfold wrap64; omega
  rw [this]
  simp
  omega
 have C2 := Aside0.mk c2
 have C3 := Aside0.mk c3
 clear h c0 c1 c4 c5 c6 h2 h3 ht hp
 go_enter Try.func114, Try.ntmps114
 go_wp2_with (first
  | (go_at_call 75; (with_reducible refine (page_within.calls _ _ _ true _ H1).mono ?_); rintro e w2 ⟨rfl, ⟨nd, rfl⟩⟩)
  | (go_at_call 75; (with_reducible refine (page_within.calls _ _ _ true _ H2).mono ?_); rintro e w3 ⟨rfl, ⟨nd2, rfl⟩⟩))
 go_ret
 exact ⟨rfl, by repeat (first | exact Below.refl _ _ | apply below_alloc | apply pw_below_drewN | apply below_drew1)⟩
attribute [local go_sem ↓] Go.wp_at_zero Go.wp_at_succ
theorem page_key.calls (A : Option Addr) (x : S125) (t p : Nat) (r : Int) (w : World) (h : PgK w A x) (h2 : x.f0.f2 ≤ 16) (h3 : x.f0.f3 ≤ 16) (ht : (t : Int) < x.f0.f2) (hp : (p : Int) < x.f0.f3) (hl : (x.f1.length : Int) = x.f0.f3)
  (hm : page_packed_mean.f (rd_T135 x.f1 (p : Int)).f0.f0 (rd_T135 x.f1 (p : Int)).f0.f1 (rd_T135 x.f1 (p : Int)).f0.f2 (rd_T135 x.f1 (p : Int)).f1 (t : Int) x.f0.f0 = some r) :
  Calls Try.prog 110 #[.pointer A, .int .i64 (t : Int), .int .i64 (p : Int)] w fun e w' => e = .returned (.int .i32 r) ∧ Below w.heap.size w w' := by
 have hu1 := Try.underlying53
 have hu2 := Try.underlying125
 have hu3 := Try.underlying135
 have hu4 := Try.underlying100
 have HP := Aside0.mk h
 have HT := Aside0.mk (fun w hw => page_there.calls A x t p w hw h2 h3 ht hp)
 obtain ⟨b, Ak, ck, Av, cv, rfl, c0, -, -, -, -, -, -, c7, -, hck, hk, -⟩ := page_open h
 obtain ⟨ad, A2, c2, A3, c3, rfl, e0, e1, e2, e3, hl2, hr2, hl3, hr3⟩ := at_T135 hk (p : Int) (by omega) (by omega)
 have hpl : (p : Int) < (x.f1.length : Int) := by omega
 have HM := Aside0.mk hm
 have HL2 := Aside0.mk hl2
 have HL3 := Aside0.mk hl3
 have HR2 := Aside0.mk hr2
 have HR3 := Aside0.mk hr3
 generalize rd_T135 x.f1 (p : Int) = row at *
 simp only [Int.toNat_natCast] at e0 e1 e2 e3
 have E0 := Aside0.mk e0
 have E1 := Aside0.mk e1
 have E2 := Aside0.mk e2
 have E3 := Aside0.mk e3
 have C0 := Aside0.mk c0
 have C7 := Aside0.mk c7
 clear h hm hl2 hl3 hr2 hr3 hk hck e0 e1 e2 e3 c0 c7 h2 h3 ht hp hl
 go_enter Try.func110, Try.ntmps110
 go_wp2_with fail
 refine (HT.out _ HP.out).mono ?_
 rintro e w2 ⟨rfl, hb⟩
 have e0 := pw_cell_below hb E0.out
 have e1 := pw_cell_below hb E1.out
 have e2 := pw_cell_below hb E2.out
 have e3 := pw_cell_below hb E3.out
 have c0 := pw_cell_below hb C0.out
 have c7 := pw_cell_below hb C7.out
 have HB := Aside0.mk hb
 clear hb
 go_wp2_with fail
 go_region_with (go_at_call 115; (with_reducible refine (page_packed_mean.calls row.f0.f0 row.f0.f1 A2 c2 row.f0.f2 A3 c3 row.f1 (t : Int) x.f0.f0 r _ (by first | exact Kd.C_below HR2.out HB.out | exact Kd.C_below HR2.out (below_drew HB.out) | exact Kd.C_below HR2.out (pw_below_drewN HB.out _)) HL2.out (by first | exact Kd.C_below HR3.out HB.out | exact Kd.C_below HR3.out (below_drew HB.out) | exact Kd.C_below HR3.out (pw_below_drewN HB.out _)) HL3.out HM.out).mono ?_); rintro e w3 ⟨rfl, hb3⟩)
 all_goals go_wp2_with fail
 all_goals go_ret
 all_goals exact ⟨rfl, (below_drew HB.out).trans (hb3.mono (below_drew HB.out).size)⟩
theorem page_value.calls (A : Option Addr) (x : S125) (t p : Nat) (r : Int) (w : World) (h : PgK w A x) (h2 : x.f0.f2 ≤ 16) (h3 : x.f0.f3 ≤ 16) (ht : (t : Int) < x.f0.f2) (hp : (p : Int) < x.f0.f3) (hl : (x.f2.length : Int) = x.f0.f2)
  (hm : page_packed_mean.f (rd_T135 x.f2 (t : Int)).f0.f0 (rd_T135 x.f2 (t : Int)).f0.f1 (rd_T135 x.f2 (t : Int)).f0.f2 (rd_T135 x.f2 (t : Int)).f1 (p : Int) x.f0.f1 = some r) :
  Calls Try.prog 116 #[.pointer A, .int .i64 (t : Int), .int .i64 (p : Int)] w fun e w' => e = .returned (.int .i32 r) ∧ Below w.heap.size w w' := by
 have hu1 := Try.underlying53
 have hu2 := Try.underlying125
 have hu3 := Try.underlying135
 have hu4 := Try.underlying100
 have HP := Aside0.mk h
 have HT := Aside0.mk (fun w hw => page_there.calls A x t p w hw h2 h3 ht hp)
 obtain ⟨b, Ak, ck, Av, cv, rfl, -, c0, -, -, -, -, -, -, c7, -, -, hck, hk⟩ := page_open h
 obtain ⟨ad, A2, c2, A3, c3, rfl, e0, e1, e2, e3, hl2, hr2, hl3, hr3⟩ := at_T135 hk (t : Int) (by omega) (by omega)
 have hpl : (t : Int) < (x.f2.length : Int) := by omega
 have HM := Aside0.mk hm
 have HL2 := Aside0.mk hl2
 have HL3 := Aside0.mk hl3
 have HR2 := Aside0.mk hr2
 have HR3 := Aside0.mk hr3
 generalize rd_T135 x.f2 (t : Int) = row at *
 simp only [Int.toNat_natCast] at e0 e1 e2 e3
 have E0 := Aside0.mk e0
 have E1 := Aside0.mk e1
 have E2 := Aside0.mk e2
 have E3 := Aside0.mk e3
 have C0 := Aside0.mk c0
 have C7 := Aside0.mk c7
 clear h hm hl2 hl3 hr2 hr3 hk hck e0 e1 e2 e3 c0 c7 h2 h3 ht hp hl
 go_enter Try.func116, Try.ntmps116
 go_wp2_with fail
 refine (HT.out _ HP.out).mono ?_
 rintro e w2 ⟨rfl, hb⟩
 have e0 := pw_cell_below hb E0.out
 have e1 := pw_cell_below hb E1.out
 have e2 := pw_cell_below hb E2.out
 have e3 := pw_cell_below hb E3.out
 have c0 := pw_cell_below hb C0.out
 have c7 := pw_cell_below hb C7.out
 have HB := Aside0.mk hb
 clear hb
 go_wp2_with fail
 go_region_with (go_at_call 115; (with_reducible refine (page_packed_mean.calls row.f0.f0 row.f0.f1 A2 c2 row.f0.f2 A3 c3 row.f1 (p : Int) x.f0.f1 r _ (by first | exact Kd.C_below HR2.out HB.out | exact Kd.C_below HR2.out (below_drew HB.out) | exact Kd.C_below HR2.out (pw_below_drewN HB.out _)) HL2.out (by first | exact Kd.C_below HR3.out HB.out | exact Kd.C_below HR3.out (below_drew HB.out) | exact Kd.C_below HR3.out (pw_below_drewN HB.out _)) HL3.out HM.out).mono ?_); rintro e w3 ⟨rfl, hb3⟩)
 all_goals go_wp2_with fail
 all_goals go_ret
 all_goals exact ⟨rfl, (below_drew HB.out).trans (hb3.mono (below_drew HB.out).size)⟩
theorem page_field2 (a0 a1 a2 a3 a4 a5 a6 : Int) (w : World) : (Instr.field 53 (.agg #[.int .i64 a0, .int .i64 a1, .int .i64 a2, .int .i64 a3, .int .i64 a4, .int .i64 a5, .int .i64 a6]) 2).run Try.prog w = .ok (.int .i64 a2) w := by kernel_rfl
theorem page_field3 (a0 a1 a2 a3 a4 a5 a6 : Int) (w : World) : (Instr.field 53 (.agg #[.int .i64 a0, .int .i64 a1, .int .i64 a2, .int .i64 a3, .int .i64 a4, .int .i64 a5, .int .i64 a6]) 3).run Try.prog w = .ok (.int .i64 a3) w := by kernel_rfl
def rdP (ps : List (List S125)) (i : Int) : List S125 := ps.getD i.toNat []
theorem at_rdP {w : World} {A : Option Addr} {n : Nat} {ps : List (List S125)} (h : Kd.C (Kd.ptr 125 k125) w A n ps) (i : Int) (h0 : 0 ≤ i) (h1 : i < n) : ∃ ad B, A = some ad ∧ w.cell? (ad.add i.toNat) = some (.pointer B) ∧ (Kd.ptr 125 k125).K w (rdP ps i) [.pointer B] := by
 obtain ⟨ad, B, e, hc, hk⟩ := Kd.at_ptr h i.toNat (by omega)
 exact ⟨ad, B, e, hc, hk⟩
theorem ptr_some {w : World} {p : List S125} {A : Option Addr} (h : (Kd.ptr 125 k125).K w p [.pointer A]) (hp : ¬ p.isEmpty = true) : ∃ b, A = some ⟨b, 0, none⟩ := by
 obtain ⟨B, hA, h1, h2, hr⟩ := h
 cases B with
 | none => rw [h2.1 rfl] at hp; exact absurd rfl hp
 | some b => exact ⟨b, by simpa [Kd.at0] using hA⟩
def page_HeadP.f (p : List S125) : Option (Int × Int × Int × Int × Int × Int × Int) :=
 match p with
 | x :: _ => some (x.f0.f0, x.f0.f1, x.f0.f2, x.f0.f3, x.f0.f4, x.f0.f5, x.f0.f6)
 | [] => none
theorem page_HeadP.calls (p : List S125) (A : Option Addr) {w : World} (hk : (Kd.ptr 125 k125).K w p [.pointer A]) (r1 r2 r3 r4 r5 r6 r7 : Int) (h : page_HeadP.f p = some (r1, r2, r3, r4, r5, r6, r7)) :
  Calls Try.prog 61 #[.pointer A] w fun e w' => e = .returned (.agg #[.int .i64 r1, .int .i64 r2, .int .i64 r3, .int .i64 r4, .int .i64 r5, .int .i64 r6, .int .i64 r7]) ∧ Below w.heap.size w w' := by
 have hl : p.length ≤ 1 := by obtain ⟨B, -, h1, -⟩ := hk; exact h1
 match p, hl, h, hk with
 | [x], _, h, hk =>
  obtain ⟨rfl, rfl, rfl, rfl, rfl, rfl, rfl⟩ : x.f0.f0 = r1 ∧ x.f0.f1 = r2 ∧ x.f0.f2 = r3 ∧ x.f0.f3 = r4 ∧ x.f0.f4 = r5 ∧ x.f0.f5 = r6 ∧ x.f0.f6 = r7 := by simpa [page_HeadP.f] using h
  exact page_head.calls A x w hk
 | [], _, h, _ => simp [page_HeadP.f] at h
end Go.Proofs.Yteflolamihhmdaa.Q

namespace Go.Proofs.Yteflolamihhmdaa.Q
open Go.RowKit Go.Proofs.YteflolamihhmdaaW.PrintWords Go.Proofs.YteflolamihhmdaaW.PrintLast Go.Proofs.YteflolamihhmdaaW.PrintMore
attribute [local go_sem] max2_int min2_int max_two min_two max_three min_three max_four min_four   -- for this text's walks alone
attribute [local go_sem] page_field2 page_field3
mutual
def attn_rightP.l0 : Nat → List Int → List (List S125) → List (List Int) → List (List Int) → Int → List (List S125) → Int → Int → Option (Int)
 | 0, _, _, _, _, _, _, _, _ => none
 | k + 1, x0, x1, x2, x3, x9, x17, x18, x19 => if x19 < x18 then (if 0 ≤ x19 then (if x19 < (x17.length : Int) then ((page_HeadP.f (rdP x17 x19)).bind fun bt103 => (attn_rightP.l0 k x0 x1 x2 x3 (wrap64 (x9 + bt103.2.2.1)) x17 x18 (wrap64 (x19 + 1)))) else (none)) else (none)) else (if x9 = 0 then (some 14) else (if x9 > 1024 then (some 12) else (if (x1.length : Int) > 0 then (if 0 < (x1.length : Int) then ((page_HeadP.f (rdP x1 0)).bind fun bt111 => (attn_rightP.j1 k x0 x1 x2 x3 bt111.2.2.2.1)) else (none)) else (if 0 < (x2.length : Int) then (attn_rightP.j1 k x0 x1 x2 x3 ((rd_L11 x2 0).length : Int)) else (none)))))
def attn_rightP.j1 : Nat → List Int → List (List S125) → List (List Int) → List (List Int) → Int → Option (Int)
 | 0, _, _, _, _, _ => none
 | k + 1, x0, x1, x2, x3, x12 => attn_rightP.l1 k x0 x2 x3 x12 x1 (x1.length : Int) 0
def attn_rightP.l1 : Nat → List Int → List (List Int) → List (List Int) → Int → List (List S125) → Int → Int → Option (Int)
 | 0, _, _, _, _, _, _, _ => none
 | k + 1, x0, x2, x3, x12, x48, x49, x50 => if x50 < x49 then (if 0 ≤ x50 then (if x50 < (x48.length : Int) then ((page_HeadP.f (rdP x48 x50)).bind fun bt120 => (if bt120.2.2.2.1 = x12 then (attn_rightP.l1 k x0 x2 x3 x12 x48 x49 (wrap64 (x50 + 1))) else (some 25))) else (none)) else (none)) else (if (x2.length : Int) = (x3.length : Int) then ((attn_sized.f x12).bind fun t127 => (if t127 = true then (if (x0.length : Int) = x12 then ((attn_shaped.f k x2 x12).bind fun t128 => (if t128 = true then ((attn_shaped.f k x3 x12).bind fun t129 => (if t129 = true then (some 0) else (some 25))) else (some 25))) else (some 25)) else (some 25))) else (some 25))
end
def attn_rightP.f (k : Nat) (l0 : List Int) (l1 : List (List S125)) (l2 : List (List Int)) (l3 : List (List Int)) : Option (Int) := attn_rightP.l0 k l0 l1 l2 l3 (l2.length : Int) l1 (l1.length : Int) 0
theorem attn_rightP.calls (k : Nat) (A0 : Option Addr) (c0 : Nat) (l0 : List Int) (A1 : Option Addr) (c1 : Nat) (l1 : List (List S125)) (A2 : Option Addr) (c2 : Nat) (l2 : List (List Int)) (A3 : Option Addr) (c3 : Nat) (l3 : List (List Int)) (r : Int) (w : World) (hr0 : Kd.C (Kd.int .i32) w A0 l0.length l0) (hc0 : l0.length ≤ c0) (hr1 : Kd.C (Kd.ptr 125 k125) w A1 l1.length l1) (hc1 : l1.length ≤ c1) (hr2 : Kd.C (Kd.slice 21 (Kd.int .i32)) w A2 l2.length l2) (hc2 : l2.length ≤ c2) (hr3 : Kd.C (Kd.slice 21 (Kd.int .i32)) w A3 l3.length l3) (hc3 : l3.length ≤ c3) (h : attn_rightP.f k l0 l1 l2 l3 = some r) :
  Calls Try.prog 39 #[.slice A0 l0.length c0, .slice A1 l1.length c1, .slice A2 l2.length c2, .slice A3 l3.length c3] w fun e w' => e = .returned (.int .i64 r) ∧ Below w.heap.size w w' := by
 have hu_ := Try.underlying53
 have HR0 := Aside0.mk hr0
 have HC0 := Aside0.mk hc0
 clear hr0 hc0
 have HR1 := Aside0.mk hr1
 have HC1 := Aside0.mk hc1
 clear hr1 hc1
 have HR2 := Aside0.mk hr2
 have HC2 := Aside0.mk hc2
 clear hr2 hc2
 have HR3 := Aside0.mk hr3
 have HC3 := Aside0.mk hc3
 clear hr3 hc3
 have HB := Aside0.mk (Below.refl w.heap.size w)
 have H : (attn_rightP.l0 k l0 l1 l2 l3 (l2.length : Int) l1 (l1.length : Int) 0) = some r := h
 clear h
 have H' := Aside0.mk H
 clear H
 go_enter Try.func39, Try.ntmps39
 go_wp2
 go_loopg [9, 19] k (fun kq v9 v19 w' => ∃ (x9_1 : Int) (x19_1 : Int), v9 = .int .i64 x9_1 ∧ v19 = .int .i64 x19_1 ∧ Aside0 (attn_rightP.l0 kq l0 l1 l2 l3 x9_1 l1 (l1.length : Int) x19_1 = some r) ∧ Aside0 (kq ≤ k) ∧ Aside0 (Below w.heap.size w w'))
 case atStart => exact ⟨((l2.length : Int)), (0), (by first | rfl | (simp; done) | (simp [*]; done)), (by first | rfl | (simp; done) | (simp [*]; done)), H', ⟨Nat.le_refl _⟩, ⟨by repeat (first | (with_reducible first | exact HB.out | apply below_alloc | apply pw_below_drewN | apply below_drew1) | exact HB.out)⟩⟩
 case round =>
  clear H'
  try clear c1
  try clear c2
  try clear p2
  try clear c3
  obtain ⟨x9_1, x19_1, rfl, rfl, HA, HK1, HB⟩ := hrel
  cases gk with
  | zero => exact absurd HA.out (by simp [attn_rightP.l0])
  | succ k1 =>
   have H := HA.out
   clear HA
   simp only [attn_rightP.l0] at H
   by_cases c5 : x19_1 < (l1.length : Int)
   ·rw [if_pos c5] at H
    have c5b0 : decide (x19_1 < (l1.length : Int)) = true := decide_eq_true c5
    clear c5
    by_cases c6 : 0 ≤ x19_1
    ·rw [if_pos c6] at H
     have c6b0 : decide (0 ≤ x19_1) = true := decide_eq_true c6
     clear c6
     by_cases c7 : x19_1 < (l1.length : Int)
     ·rw [if_pos c7] at H
      have c7b0 : decide (x19_1 < (l1.length : Int)) = true := decide_eq_true c7
      clear c7
      replace H := Option.bind_eq_some_iff.mp H
      obtain ⟨⟨t103, t104, t105, t106, t107, t108, t109⟩, A80, H⟩ := H
      replace H : (attn_rightP.l0 k1 l0 l1 l2 l3 (wrap64 (x9_1 + t105)) l1 (l1.length : Int) (wrap64 (x19_1 + 1))) = some r := H
      have A8 := Aside0.mk A80
      clear A80
      have H' := Aside0.mk H
      clear H
      have p102 : 0 ≤ (x19_1 : Int) := of_decide_eq_true (by first | (with_reducible assumption) | assumption)
      have q102 : x19_1 < (l1.length : Int) := of_decide_eq_true (by first | (with_reducible assumption) | assumption)
      obtain ⟨ad102, BP_, e102, hx102_0, hkp_⟩ := at_rdP HR1.out x19_1 p102 q102; have HKP_ := Aside0.mk hkp_; clear hkp_
      cases e102
      replace hx102_0 := (HB.out.cell (World.block_lt_of_cell? w _ hx102_0)).trans hx102_0
      replace p102 := eq_true p102
      replace q102 := eq_true q102
      go_wp2_with (first | ((with_reducible refine gate_callee (f := 61) rfl ?_); refine goesL_ (some 25) rfl rfl Try.func61 (by kernel_rfl) rfl #[.pointer BP_] rfl (by (try simp only [List.map_toArray, List.map_cons, List.map_nil]); first | done | rfl | (simp only [List.length_drop, List.length_take]; rfl)) ?_; (with_reducible refine (page_HeadP.calls (rdP l1 x19_1) BP_ (Kd.K_below_ HKP_.out HB.out) t103 t104 t105 t106 t107 t108 t109 A8.out).mono ?_); rintro e w9 ⟨rfl, hb⟩; refine ⟨_, rfl, ?_⟩; have n0_ := Aside0.mk (below_step (by repeat (first | (with_reducible first | exact HB.out | apply below_alloc | apply pw_below_drewN | apply below_drew1) | exact HB.out)) hb); clear HB; have HB := n0_; clear n0_; (try clear hb); (try clear hb2); (try clear hk); (try clear hi)))
      go_roundg k1
      case measure => have := HK1.out; omega
      case rel => exact ⟨(wrap64 (x9_1 + t105)), (wrap64 (x19_1 + 1)), (by first | rfl | (simp; done) | (simp [*]; done)), (by first | rfl | (simp; done) | (simp [*]; done)), H', ⟨by have := HK1.out; omega⟩, ⟨by repeat (first | (with_reducible first | exact HB.out | apply below_alloc | apply pw_below_drewN | apply below_drew1) | exact HB.out)⟩⟩
     ·rw [if_neg c7] at H
      exact absurd H (by simp)
    ·rw [if_neg c6] at H
     exact absurd H (by simp)
   ·rw [if_neg c5] at H
    have c5b0 : decide (x19_1 < (l1.length : Int)) = false := decide_eq_false c5
    clear c5
    have HC10 := Aside0.mk H
    clear H
    go_upto_block 2 with (fail)
    go_cut [12] (fun v12 wc => ∃ (kq : Nat) (x12_9 : Int), v12 = .int .i64 x12_9 ∧ Aside0 (attn_rightP.j1 kq l0 l1 l2 l3 x12_9 = some r) ∧ Aside0 (kq ≤ k1) ∧ Aside0 (Below w.heap.size w wc))
    case first =>
     have H := HC10.out
     clear HC10
     by_cases c11 : x9_1 = 0
     ·rw [if_pos c11] at H
      have c11b0 : (x9_1 == 0) = true := beq_iff_eq.mpr c11
      have c11b1 : (x9_1 != 0) = false := bne_eq_false_iff_eq.mpr c11
      clear c11
      (first | rw [c11b0] | (simp only [i64_w, i32_w]; rw [c11b0]) | skip)
      obtain rfl := Option.some.inj H
      go_wp2
      go_ret
      exact ⟨by first | rfl | (simp [errW_none, errW_some] <;> rfl) | (simp [*, errW_none, errW_some] <;> rfl), by repeat (first | (with_reducible first | exact HB.out | apply below_alloc | apply pw_below_drewN | apply below_drew1) | exact HB.out)⟩
     ·rw [if_neg c11] at H
      have c11b0 : (x9_1 == 0) = false := beq_eq_false_iff_ne.mpr c11
      have c11b1 : (x9_1 != 0) = true := bne_iff_ne.mpr c11
      (first | rw [c11b0] | (simp only [i64_w, i32_w]; rw [c11b0]) | skip)
      by_cases c12 : x9_1 > 1024
      ·rw [if_pos c12] at H
       have c12b0 : decide (1024 < x9_1) = true := decide_eq_true c12
       clear c12
       obtain rfl := Option.some.inj H
       go_wp2
       go_ret
       exact ⟨by first | rfl | (simp [errW_none, errW_some] <;> rfl) | (simp [*, errW_none, errW_some] <;> rfl), by repeat (first | (with_reducible first | exact HB.out | apply below_alloc | apply pw_below_drewN | apply below_drew1) | exact HB.out)⟩
      ·rw [if_neg c12] at H
       have c12b0 : decide (1024 < x9_1) = false := decide_eq_false c12
       clear c12
       by_cases c13 : (l1.length : Int) > 0
       ·rw [if_pos c13] at H
        have c13b0 : decide (0 < (l1.length : Int)) = true := decide_eq_true c13
        have c13b1 : decide (0 < l1.length) = true := decide_eq_true (by omega)
        clear c13
        by_cases c14 : 0 < (l1.length : Int)
        ·rw [if_pos c14] at H
         have c14b0 : decide (0 < (l1.length : Int)) = true := decide_eq_true c14
         have c14b1 : decide (0 < l1.length) = true := decide_eq_true (by omega)
         clear c14
         replace H := Option.bind_eq_some_iff.mp H
         obtain ⟨⟨t111, t112, t113, t114, t115, t116, t117⟩, A150, H⟩ := H
         replace H : (attn_rightP.j1 k1 l0 l1 l2 l3 t114) = some r := H
         have A15 := Aside0.mk A150
         clear A150
         have H' := Aside0.mk H
         clear H
         have p110 : 0 ≤ (0 : Int) := (by omega)
         have q110 : 0 < (l1.length : Int) := of_decide_eq_true (by first | (with_reducible assumption) | assumption)
         obtain ⟨ad110, BP_, e110, hx110_0, hkp_⟩ := at_rdP HR1.out 0 p110 q110; have HKP_ := Aside0.mk hkp_; clear hkp_
         cases e110
         have qi110 : (0 < l1.length) = True := eq_true (by omega)
         (try rw [show ((0 : Int)).toNat = 0 from rfl] at hx110_0)
         (try rw [Addr.add_zero'] at hx110_0)
         replace hx110_0 := (HB.out.cell (World.block_lt_of_cell? w _ hx110_0)).trans hx110_0
         replace p110 := eq_true p110
         replace q110 := eq_true q110
         go_wp2_with (first | ((with_reducible refine gate_callee (f := 61) rfl ?_); refine goesL_ (some 46) rfl rfl Try.func61 (by kernel_rfl) rfl #[.pointer BP_] rfl (by (try simp only [List.map_toArray, List.map_cons, List.map_nil]); first | done | rfl | (simp only [List.length_drop, List.length_take]; rfl)) ?_; (with_reducible refine (page_HeadP.calls (rdP l1 0) BP_ (Kd.K_below_ HKP_.out HB.out) t111 t112 t113 t114 t115 t116 t117 A15.out).mono ?_); rintro e w16 ⟨rfl, hb⟩; refine ⟨_, rfl, ?_⟩; have n0_ := Aside0.mk (below_step (by repeat (first | (with_reducible first | exact HB.out | apply below_alloc | apply pw_below_drewN | apply below_drew1) | exact HB.out)) hb); clear HB; have HB := n0_; clear n0_; (try clear hb); (try clear hb2); (try clear hk); (try clear hi)))
         go_meet
         case rel => exact ⟨_, (t114), (by first | rfl | (simp; done) | (simp [*]; done)), H', ⟨by have := HK1.out; first | omega | exact Nat.le_refl _⟩, ⟨by repeat (first | (with_reducible first | exact HB.out | apply below_alloc | apply pw_below_drewN | apply below_drew1) | exact HB.out)⟩⟩
        ·rw [if_neg c14] at H
         exact absurd H (by simp)
       ·rw [if_neg c13] at H
        have c13b0 : decide (0 < (l1.length : Int)) = false := decide_eq_false c13
        have c13b1 : decide (0 < l1.length) = false := decide_eq_false (by omega)
        clear c13
        by_cases c17 : 0 < (l2.length : Int)
        ·rw [if_pos c17] at H
         have c17b0 : decide (0 < (l2.length : Int)) = true := decide_eq_true c17
         have c17b1 : decide (0 < l2.length) = true := decide_eq_true (by omega)
         clear c17
         have H' := Aside0.mk H
         clear H
         have p118 : 0 ≤ (0 : Int) := (by omega)
         have q118 : 0 < (l2.length : Int) := of_decide_eq_true (by first | (with_reducible assumption) | assumption)
         obtain ⟨ad118, A118_0, c118_0, e118, hx118_0, hl118_0, hi118_0⟩ := at_L11 HR2.out 0 p118 q118
         cases e118
         have qi118 : (0 < l2.length) = True := eq_true (by omega)
         (try rw [show ((0 : Int)).toNat = 0 from rfl] at hx118_0)
         (try rw [Addr.add_zero'] at hx118_0)
         replace hx118_0 := (HB.out.cell (World.block_lt_of_cell? w _ hx118_0)).trans hx118_0
         have HR118_0 := Aside0.mk hi118_0
         have HC118_0 := Aside0.mk hl118_0
         clear hi118_0 hl118_0
         replace p118 := eq_true p118
         replace q118 := eq_true q118
         go_wp2
         go_meet
         case rel => exact ⟨_, (((rd_L11 l2 0).length : Int)), (by first | rfl | (simp; done) | (simp [*]; done)), H', ⟨by have := HK1.out; first | omega | exact Nat.le_refl _⟩, ⟨by repeat (first | (with_reducible first | exact HB.out | apply below_alloc | apply pw_below_drewN | apply below_drew1) | exact HB.out)⟩⟩
        ·rw [if_neg c17] at H
         exact absurd H (by simp)
    case rest =>
     clear HC10
     try clear c1
     try clear p1
     try clear q1
     try clear hx1
     try clear qi1
     try clear c2
     try clear p2
     try clear c3
     try clear c5
     try clear c5b0
     try clear c6
     try clear c6b0
     try clear p6
     try clear c7
     try clear c7b0
     try clear p10
     try clear q10
     try clear hx10
     try clear c11
     try clear c11b0
     try clear c11b1
     try clear p11
     try clear q11
     try clear hx11
     try clear qi11
     try clear c12
     try clear c12b0
     try clear c13
     try clear c13b0
     try clear c13b1
     try clear c14
     try clear c14b0
     try clear c14b1
     try clear c17
     try clear c17b0
     try clear c17b1
     try clear hx102_0
     try clear hx110_0
     try clear hx118_0
     try clear p102
     try clear p110
     try clear p118
     try clear p2
     try clear q102
     try clear q110
     try clear q118
     obtain ⟨kq, x12_9, rfl, HA, HJ9, HB⟩ := hcut
     cases kq with
     | zero => exact absurd HA.out (by simp [attn_rightP.j1])
     | succ kj9 =>
      have H := HA.out
      clear HA
      simp only [attn_rightP.j1] at H
      have H' := Aside0.mk H
      clear H
      go_wp2
      go_loopg [50] kj9 (fun kq v50 w' => ∃ (x50_3 : Int), v50 = .int .i64 x50_3 ∧ Aside0 (attn_rightP.l1 kq l0 l2 l3 x12_9 l1 (l1.length : Int) x50_3 = some r) ∧ Aside0 (kq ≤ kj9) ∧ Aside0 (Below w.heap.size w w'))
      case atStart => exact ⟨(0), (by first | rfl | (simp; done) | (simp [*]; done)), H', ⟨Nat.le_refl _⟩, ⟨by repeat (first | (with_reducible first | exact HB.out | apply below_alloc | apply pw_below_drewN | apply below_drew1) | exact HB.out)⟩⟩
      case round =>
       clear H'
       try clear c1
       try clear p1
       try clear q1
       try clear hx1
       try clear qi1
       try clear c2
       try clear p2
       try clear c3
       try clear c5
       try clear c5b0
       try clear c6
       try clear c6b0
       try clear p6
       try clear c7
       try clear c7b0
       try clear p10
       try clear q10
       try clear hx10
       try clear c11
       try clear c11b0
       try clear c11b1
       try clear p11
       try clear q11
       try clear hx11
       try clear qi11
       try clear c12
       try clear c12b0
       try clear c13
       try clear c13b0
       try clear c13b1
       try clear c14
       try clear c14b0
       try clear c14b1
       try clear c17
       try clear c17b0
       try clear c17b1
       try clear hx102_0
       try clear hx110_0
       try clear hx118_0
       try clear p1
       try clear p10
       try clear p102
       try clear p11
       try clear p110
       try clear p118
       try clear p2
       try clear p6
       try clear q1
       try clear q10
       try clear q102
       try clear q11
       try clear q110
       try clear q118
       obtain ⟨x50_3, rfl, HA, HK3, HB⟩ := hrel
       cases gk with
       | zero => exact absurd HA.out (by simp [attn_rightP.l1])
       | succ k3 =>
        have H := HA.out
        clear HA
        simp only [attn_rightP.l1] at H
        by_cases c18 : x50_3 < (l1.length : Int)
        ·rw [if_pos c18] at H
         have c18b0 : decide (x50_3 < (l1.length : Int)) = true := decide_eq_true c18
         clear c18
         by_cases c19 : 0 ≤ x50_3
         ·rw [if_pos c19] at H
          have c19b0 : decide (0 ≤ x50_3) = true := decide_eq_true c19
          clear c19
          by_cases c20 : x50_3 < (l1.length : Int)
          ·rw [if_pos c20] at H
           have c20b0 : decide (x50_3 < (l1.length : Int)) = true := decide_eq_true c20
           clear c20
           replace H := Option.bind_eq_some_iff.mp H
           obtain ⟨⟨t120, t121, t122, t123, t124, t125, t126⟩, A210, H⟩ := H
           replace H : (if t123 = x12_9 then (attn_rightP.l1 k3 l0 l2 l3 x12_9 l1 (l1.length : Int) (wrap64 (x50_3 + 1))) else (some 25)) = some r := H
           have A21 := Aside0.mk A210
           clear A210
           by_cases c22 : t123 = x12_9
           ·rw [if_pos c22] at H
            have c22b0 : (t123 == x12_9) = true := beq_iff_eq.mpr c22
            have c22b1 : (t123 != x12_9) = false := bne_eq_false_iff_eq.mpr c22
            clear c22
            have H' := Aside0.mk H
            clear H
            have p119 : 0 ≤ (x50_3 : Int) := of_decide_eq_true (by first | (with_reducible assumption) | assumption)
            have q119 : x50_3 < (l1.length : Int) := of_decide_eq_true (by first | (with_reducible assumption) | assumption)
            obtain ⟨ad119, BP_, e119, hx119_0, hkp_⟩ := at_rdP HR1.out x50_3 p119 q119; have HKP_ := Aside0.mk hkp_; clear hkp_
            cases e119
            replace hx119_0 := (HB.out.cell (World.block_lt_of_cell? w _ hx119_0)).trans hx119_0
            replace p119 := eq_true p119
            replace q119 := eq_true q119
            go_wp2_with (first | ((with_reducible refine gate_callee (f := 61) rfl ?_); refine goesL_ (some 55) rfl rfl Try.func61 (by kernel_rfl) rfl #[.pointer BP_] rfl (by (try simp only [List.map_toArray, List.map_cons, List.map_nil]); first | done | rfl | (simp only [List.length_drop, List.length_take]; rfl)) ?_; (with_reducible refine (page_HeadP.calls (rdP l1 x50_3) BP_ (Kd.K_below_ HKP_.out HB.out) t120 t121 t122 t123 t124 t125 t126 A21.out).mono ?_); rintro e w23 ⟨rfl, hb⟩; refine ⟨_, rfl, ?_⟩; have n0_ := Aside0.mk (below_step (by repeat (first | (with_reducible first | exact HB.out | apply below_alloc | apply pw_below_drewN | apply below_drew1) | exact HB.out)) hb); clear HB; have HB := n0_; clear n0_; (try clear hb); (try clear hb2); (try clear hk); (try clear hi)))
            go_roundg k3
            case measure => have := HK1.out; have := HJ9.out; have := HK3.out; omega
            case rel => exact ⟨(wrap64 (x50_3 + 1)), (by first | rfl | (simp; done) | (simp [*]; done)), H', ⟨by have := HK1.out; have := HJ9.out; have := HK3.out; omega⟩, ⟨by repeat (first | (with_reducible first | exact HB.out | apply below_alloc | apply pw_below_drewN | apply below_drew1) | exact HB.out)⟩⟩
           ·rw [if_neg c22] at H
            have c22b0 : (t123 == x12_9) = false := beq_eq_false_iff_ne.mpr c22
            have c22b1 : (t123 != x12_9) = true := bne_iff_ne.mpr c22
            obtain rfl := Option.some.inj H
            have p119 : 0 ≤ (x50_3 : Int) := of_decide_eq_true (by first | (with_reducible assumption) | assumption)
            have q119 : x50_3 < (l1.length : Int) := of_decide_eq_true (by first | (with_reducible assumption) | assumption)
            obtain ⟨ad119, BP_, e119, hx119_0, hkp_⟩ := at_rdP HR1.out x50_3 p119 q119; have HKP_ := Aside0.mk hkp_; clear hkp_
            cases e119
            replace hx119_0 := (HB.out.cell (World.block_lt_of_cell? w _ hx119_0)).trans hx119_0
            replace p119 := eq_true p119
            replace q119 := eq_true q119
            go_wp2_with (first | ((with_reducible refine gate_callee (f := 61) rfl ?_); refine goesL_ (some 55) rfl rfl Try.func61 (by kernel_rfl) rfl #[.pointer BP_] rfl (by (try simp only [List.map_toArray, List.map_cons, List.map_nil]); first | done | rfl | (simp only [List.length_drop, List.length_take]; rfl)) ?_; (with_reducible refine (page_HeadP.calls (rdP l1 x50_3) BP_ (Kd.K_below_ HKP_.out HB.out) t120 t121 t122 t123 t124 t125 t126 A21.out).mono ?_); rintro e w24 ⟨rfl, hb⟩; refine ⟨_, rfl, ?_⟩; have n0_ := Aside0.mk (below_step (by repeat (first | (with_reducible first | exact HB.out | apply below_alloc | apply pw_below_drewN | apply below_drew1) | exact HB.out)) hb); clear HB; have HB := n0_; clear n0_; (try clear hb); (try clear hb2); (try clear hk); (try clear hi)))
            go_ret
            exact ⟨by first | rfl | (simp [errW_none, errW_some] <;> rfl) | (simp [*, errW_none, errW_some] <;> rfl), by repeat (first | (with_reducible first | exact HB.out | apply below_alloc | apply pw_below_drewN | apply below_drew1) | exact HB.out)⟩
          ·rw [if_neg c20] at H
           exact absurd H (by simp)
         ·rw [if_neg c19] at H
          exact absurd H (by simp)
        ·rw [if_neg c18] at H
         have c18b0 : decide (x50_3 < (l1.length : Int)) = false := decide_eq_false c18
         clear c18
         by_cases c25 : (l2.length : Int) = (l3.length : Int)
         ·rw [if_pos c25] at H
          have c25b0 : ((l2.length : Int) == (l3.length : Int)) = true := beq_iff_eq.mpr c25
          have c25b1 : ((l2.length : Int) != (l3.length : Int)) = false := bne_eq_false_iff_eq.mpr c25
          have c25b2 : (l2.length == l3.length) = true := by first | simpa using c25 | (simp at c25 ⊢; omega)
          clear c25
          replace H := Option.bind_eq_some_iff.mp H
          obtain ⟨t127, A260, H⟩ := H
          replace H : (if t127 = true then (if (l0.length : Int) = x12_9 then ((attn_shaped.f k3 l2 x12_9).bind fun t128 => (if t128 = true then ((attn_shaped.f k3 l3 x12_9).bind fun t129 => (if t129 = true then (some 0) else (some 25))) else (some 25))) else (some 25)) else (some 25)) = some r := H
          have A26 := Aside0.mk A260
          clear A260
          by_cases c27 : t127 = true
          ·subst c27
           have H1 : (if (l0.length : Int) = x12_9 then ((attn_shaped.f k3 l2 x12_9).bind fun t128 => (if t128 = true then ((attn_shaped.f k3 l3 x12_9).bind fun t129 => (if t129 = true then (some 0) else (some 25))) else (some 25))) else (some 25)) = some r := by rw [if_pos rfl] at H; exact H
           clear H
           have H := H1
           clear H1
           by_cases c28 : (l0.length : Int) = x12_9
           ·rw [if_pos c28] at H
            have c28b0 : ((l0.length : Int) == x12_9) = true := beq_iff_eq.mpr c28
            have c28b1 : ((l0.length : Int) != x12_9) = false := bne_eq_false_iff_eq.mpr c28
            clear c28
            replace H := Option.bind_eq_some_iff.mp H
            obtain ⟨t128, A290, H⟩ := H
            replace H : (if t128 = true then ((attn_shaped.f k3 l3 x12_9).bind fun t129 => (if t129 = true then (some 0) else (some 25))) else (some 25)) = some r := H
            have A29 := Aside0.mk A290
            clear A290
            by_cases c30 : t128 = true
            ·subst c30
             have H1 : ((attn_shaped.f k3 l3 x12_9).bind fun t129 => (if t129 = true then (some 0) else (some 25))) = some r := by rw [if_pos rfl] at H; exact H
             clear H
             have H := H1
             clear H1
             replace H := Option.bind_eq_some_iff.mp H
             obtain ⟨t129, A310, H⟩ := H
             replace H : (if t129 = true then (some 0) else (some 25)) = some r := H
             have A31 := Aside0.mk A310
             clear A310
             by_cases c32 : t129 = true
             ·subst c32
              have H1 : (some 0) = some r := by rw [if_pos rfl] at H; exact H
              clear H
              have H := H1
              clear H1
              obtain rfl := Option.some.inj H
              go_wp2_with (first | (go_at_call 23; (with_reducible refine (attn_sized.calls x12_9 true _ A26.out).mono ?_); rintro e w' ⟨rfl, ⟨nd, rfl⟩⟩) | (go_at_call 62; (with_reducible refine (attn_shaped.calls k3 _ _ l2 x12_9 true _ ?side1 ?side2 A29.out).mono ?_); (case side1 => repeat (first | exact (Kd.C_below HR2.out (by repeat (first | (with_reducible first | exact HB.out | apply below_alloc | apply pw_below_drewN | apply below_drew1) | exact HB.out))) | (with_reducible refine Kd.C_alloc ?_ _) | (with_reducible refine Kd.C_drewN ?_ _) | (with_reducible refine Kd.C_drew ?_))); (case side2 => exact HC2.out); rintro e w' ⟨rfl, ⟨nd, rfl⟩⟩) | (go_at_call 62; (with_reducible refine (attn_shaped.calls k3 _ _ l3 x12_9 true _ ?side1 ?side2 A31.out).mono ?_); (case side1 => repeat (first | exact (Kd.C_below HR3.out (by repeat (first | (with_reducible first | exact HB.out | apply below_alloc | apply pw_below_drewN | apply below_drew1) | exact HB.out))) | (with_reducible refine Kd.C_alloc ?_ _) | (with_reducible refine Kd.C_drewN ?_ _) | (with_reducible refine Kd.C_drew ?_))); (case side2 => exact HC3.out); rintro e w' ⟨rfl, ⟨nd, rfl⟩⟩))
              go_ret
              exact ⟨by first | rfl | (simp [errW_none, errW_some] <;> rfl) | (simp [*, errW_none, errW_some] <;> rfl), by repeat (first | (with_reducible first | exact HB.out | apply below_alloc | apply pw_below_drewN | apply below_drew1) | exact HB.out)⟩
             ·replace c32 := Bool.eq_false_iff.mpr c32
              subst c32
              have H1 : (some 25) = some r := by rw [if_neg (show ¬ (false = true) by decide)] at H; exact H
              clear H
              have H := H1
              clear H1
              obtain rfl := Option.some.inj H
              go_wp2_with (first | (go_at_call 23; (with_reducible refine (attn_sized.calls x12_9 true _ A26.out).mono ?_); rintro e w' ⟨rfl, ⟨nd, rfl⟩⟩) | (go_at_call 62; (with_reducible refine (attn_shaped.calls k3 _ _ l2 x12_9 true _ ?side1 ?side2 A29.out).mono ?_); (case side1 => repeat (first | exact (Kd.C_below HR2.out (by repeat (first | (with_reducible first | exact HB.out | apply below_alloc | apply pw_below_drewN | apply below_drew1) | exact HB.out))) | (with_reducible refine Kd.C_alloc ?_ _) | (with_reducible refine Kd.C_drewN ?_ _) | (with_reducible refine Kd.C_drew ?_))); (case side2 => exact HC2.out); rintro e w' ⟨rfl, ⟨nd, rfl⟩⟩) | (go_at_call 62; (with_reducible refine (attn_shaped.calls k3 _ _ l3 x12_9 false _ ?side1 ?side2 A31.out).mono ?_); (case side1 => repeat (first | exact (Kd.C_below HR3.out (by repeat (first | (with_reducible first | exact HB.out | apply below_alloc | apply pw_below_drewN | apply below_drew1) | exact HB.out))) | (with_reducible refine Kd.C_alloc ?_ _) | (with_reducible refine Kd.C_drewN ?_ _) | (with_reducible refine Kd.C_drew ?_))); (case side2 => exact HC3.out); rintro e w' ⟨rfl, ⟨nd, rfl⟩⟩))
              go_ret
              exact ⟨by first | rfl | (simp [errW_none, errW_some] <;> rfl) | (simp [*, errW_none, errW_some] <;> rfl), by repeat (first | (with_reducible first | exact HB.out | apply below_alloc | apply pw_below_drewN | apply below_drew1) | exact HB.out)⟩
            ·replace c30 := Bool.eq_false_iff.mpr c30
             subst c30
             have H1 : (some 25) = some r := by rw [if_neg (show ¬ (false = true) by decide)] at H; exact H
             clear H
             have H := H1
             clear H1
             obtain rfl := Option.some.inj H
             go_wp2_with (first | (go_at_call 23; (with_reducible refine (attn_sized.calls x12_9 true _ A26.out).mono ?_); rintro e w' ⟨rfl, ⟨nd, rfl⟩⟩) | (go_at_call 62; (with_reducible refine (attn_shaped.calls k3 _ _ l2 x12_9 false _ ?side1 ?side2 A29.out).mono ?_); (case side1 => repeat (first | exact (Kd.C_below HR2.out (by repeat (first | (with_reducible first | exact HB.out | apply below_alloc | apply pw_below_drewN | apply below_drew1) | exact HB.out))) | (with_reducible refine Kd.C_alloc ?_ _) | (with_reducible refine Kd.C_drewN ?_ _) | (with_reducible refine Kd.C_drew ?_))); (case side2 => exact HC2.out); rintro e w' ⟨rfl, ⟨nd, rfl⟩⟩))
             go_ret
             exact ⟨by first | rfl | (simp [errW_none, errW_some] <;> rfl) | (simp [*, errW_none, errW_some] <;> rfl), by repeat (first | (with_reducible first | exact HB.out | apply below_alloc | apply pw_below_drewN | apply below_drew1) | exact HB.out)⟩
           ·rw [if_neg c28] at H
            have c28b0 : ((l0.length : Int) == x12_9) = false := beq_eq_false_iff_ne.mpr c28
            have c28b1 : ((l0.length : Int) != x12_9) = true := bne_iff_ne.mpr c28
            obtain rfl := Option.some.inj H
            go_wp2_with (first | (go_at_call 23; (with_reducible refine (attn_sized.calls x12_9 true _ A26.out).mono ?_); rintro e w' ⟨rfl, ⟨nd, rfl⟩⟩))
            go_ret
            exact ⟨by first | rfl | (simp [errW_none, errW_some] <;> rfl) | (simp [*, errW_none, errW_some] <;> rfl), by repeat (first | (with_reducible first | exact HB.out | apply below_alloc | apply pw_below_drewN | apply below_drew1) | exact HB.out)⟩
          ·replace c27 := Bool.eq_false_iff.mpr c27
           subst c27
           have H1 : (some 25) = some r := by rw [if_neg (show ¬ (false = true) by decide)] at H; exact H
           clear H
           have H := H1
           clear H1
           obtain rfl := Option.some.inj H
           go_wp2_with (first | (go_at_call 23; (with_reducible refine (attn_sized.calls x12_9 false _ A26.out).mono ?_); rintro e w' ⟨rfl, ⟨nd, rfl⟩⟩))
           go_ret
           exact ⟨by first | rfl | (simp [errW_none, errW_some] <;> rfl) | (simp [*, errW_none, errW_some] <;> rfl), by repeat (first | (with_reducible first | exact HB.out | apply below_alloc | apply pw_below_drewN | apply below_drew1) | exact HB.out)⟩
         ·rw [if_neg c25] at H
          have c25b0 : ((l2.length : Int) == (l3.length : Int)) = false := beq_eq_false_iff_ne.mpr c25
          have c25b1 : ((l2.length : Int) != (l3.length : Int)) = true := bne_iff_ne.mpr c25
          have c25b2 : (l2.length == l3.length) = false := by first | simpa using c25 | (simp at c25 ⊢; omega)
          obtain rfl := Option.some.inj H
          go_wp2
          go_ret
          exact ⟨by first | rfl | (simp [errW_none, errW_some] <;> rfl) | (simp [*, errW_none, errW_some] <;> rfl), by repeat (first | (with_reducible first | exact HB.out | apply below_alloc | apply pw_below_drewN | apply below_drew1) | exact HB.out)⟩
end Go.Proofs.Yteflolamihhmdaa.Q

namespace Go.Proofs.Yteflolamihhmdaa.Q
open Go.RowKit Go.Proofs.YteflolamihhmdaaW.PrintWords Go.Proofs.YteflolamihhmdaaW.PrintLast Go.Proofs.YteflolamihhmdaaW.PrintMore
structure PgMeans (x : S125) (s : attn_Src) : Prop where
 tokens : x.f0.f2 ≤ 16
 dim : x.f0.f3 ≤ 16
 lkeys : (x.f1.length : Int) = x.f0.f3
 lvals : (x.f2.length : Int) = x.f0.f2
 nkeys : (s.keys.length : Int) = x.f0.f2
 nvals : s.vals.length = s.keys.length
 wkeys : ∀ t : Nat, t < s.keys.length → ((s.keys.getD t []).length : Int) = x.f0.f3
 wvals : ∀ t : Nat, t < s.keys.length → ((s.vals.getD t []).length : Int) = x.f0.f3
 key : ∀ t p : Nat, t < s.keys.length → (p : Int) < x.f0.f3 → page_packed_mean.f (rd_T135 x.f1 (p : Int)).f0.f0 (rd_T135 x.f1 (p : Int)).f0.f1 (rd_T135 x.f1 (p : Int)).f0.f2 (rd_T135 x.f1 (p : Int)).f1 (t : Int) x.f0.f0 = some (rd (s.keys.getD t []) (p : Int))
 val : ∀ t p : Nat, t < s.keys.length → (p : Int) < x.f0.f3 → page_packed_mean.f (rd_T135 x.f2 (t : Int)).f0.f0 (rd_T135 x.f2 (t : Int)).f0.f1 (rd_T135 x.f2 (t : Int)).f0.f2 (rd_T135 x.f2 (t : Int)).f1 (p : Int) x.f0.f1 = some (rd (s.vals.getD t []) (p : Int))
def attn_IsSrcP (w : World) (v : Value) (s : attn_Src) : Prop :=
 attn_IsSrc w v s ∨ ∃ A x, v = .iface 79 (.agg #[.pointer A]) ∧ PgK w A x ∧ PgMeans x s
theorem attn_IsSrcP.below {w w1 : World} {v : Value} {s : attn_Src} (h : attn_IsSrcP w v s) (hb : Below w.heap.size w w1) : attn_IsSrcP w1 v s := by
 rcases h with h | ⟨A, x, rfl, h, hm⟩
 ·exact .inl (h.below hb)
 ·exact .inr ⟨A, x, rfl, h.below hb, hm⟩
def attn_SrcsP (w : World) (A : Option Addr) (ss : List attn_Src) : Prop := ∃ vs : List Value, vs.length = ss.length ∧ attn_Row w A vs ∧ ∀ j : Nat, j < ss.length → attn_IsSrcP w (vs.getD j undef) (ss.getD j ⟨[], []⟩)
theorem attn_SrcsP.below {w w1 : World} {A : Option Addr} {ss : List attn_Src} (h : attn_SrcsP w A ss) (hb : Below w.heap.size w w1) : attn_SrcsP w1 A ss := by
 obtain ⟨vs, h1, h2, h3⟩ := h
 exact ⟨vs, h1, h2.below hb, fun j hj => (h3 j hj).below hb⟩
theorem attn_SrcsP.at_ {w : World} {A : Option Addr} {ss : List attn_Src} (h : attn_SrcsP w A ss) (j : Nat) (hj : j < ss.length) : ∃ ad v, A = some ad ∧ w.cell? (ad.add j) = some v ∧ attn_IsSrcP w v (ss.getD j ⟨[], []⟩) := by
 obtain ⟨vs, h1, h2, h3⟩ := h
 obtain ⟨ad, e, hc⟩ := h2 j (by omega)
 exact ⟨ad, _, e, hc, h3 j hj⟩
theorem attn_paged.nil_count (a : Array Value) (W : World) : (nilAhead 257 79 (.agg a) "credenza/attn.count").run Try.prog W = .ok (some false) W := by kernel_rfl
theorem attn_paged.nil_key (a : Array Value) (W : World) : (nilAhead 257 79 (.agg a) "credenza/attn.key").run Try.prog W = .ok (some false) W := by kernel_rfl
theorem attn_paged.nil_value (a : Array Value) (W : World) : (nilAhead 257 79 (.agg a) "credenza/attn.value").run Try.prog W = .ok (some false) W := by kernel_rfl
theorem attn_paged.m_count (a : Array Value) (W : World) : (method 257 79 (.agg a) "credenza/attn.count").run Try.prog W = .ok (111, .agg a) W := by kernel_rfl
theorem attn_paged.m_key (a : Array Value) (W : World) : (method 257 79 (.agg a) "credenza/attn.key").run Try.prog W = .ok (112, .agg a) W := by kernel_rfl
theorem attn_paged.m_value (a : Array Value) (W : World) : (method 257 79 (.agg a) "credenza/attn.value").run Try.prog W = .ok (113, .agg a) W := by kernel_rfl
attribute [local go_sem] page_field2
theorem attn_paged_count.calls (A : Option Addr) (x : S125) (w : World) (h : PgK w A x) :
  Calls Try.prog 111 #[.agg #[.pointer A]] w fun e w' => e = .returned (.int .i64 x.f0.f2) ∧ Below w.heap.size w w' := by
 have hu := Try.underlying79
 have H := Aside0.mk h
 clear h
 go_enter Try.func111, Try.ntmps111
 go_wp2_with (go_at_call 61; (with_reducible refine (page_head.calls A x _ (PgK.below H.out (by repeat (first | exact Below.refl _ _ | apply below_alloc | apply pw_below_drewN | apply below_drew1)))).mono ?_); rintro e w2 ⟨rfl, hb2⟩)
 go_ret
 exact ⟨rfl, (below_alloc (Below.refl _ _) _).trans (hb2.mono (below_alloc (Below.refl _ _) _).size)⟩
theorem attn_paged_count.callsS (A : Option Addr) (x : S125) (s : attn_Src) (w : World) (h : PgK w A x) (hm : PgMeans x s) :
  Calls Try.prog 111 #[.agg #[.pointer A]] w fun e w' => e = .returned (.int .i64 (s.keys.length : Int)) ∧ Below w.heap.size w w' := by
 rw [hm.nkeys]
 exact attn_paged_count.calls A x w h
theorem attn_paged_key.calls (A : Option Addr) (x : S125) (s : attn_Src) (t p : Nat) (w : World) (h : PgK w A x) (hm : PgMeans x s) (ht : t < s.keys.length) (hp : (p : Int) < x.f0.f3) :
  Calls Try.prog 112 #[.agg #[.pointer A], .int .i64 (t : Int), .int .i64 (p : Int)] w fun e w' => e = .returned (.int .i32 (rd (s.keys.getD t []) (p : Int))) ∧ Below w.heap.size w w' := by
 have hu := Try.underlying79
 have H := Aside0.mk (fun w2 (hb : Below w.heap.size w w2) => page_key.calls A x t p _ w2 (h.below hb) hm.tokens hm.dim (by have := hm.nkeys; omega) hp hm.lkeys (hm.key t p ht hp))
 clear h hm ht hp
 go_enter Try.func112, Try.ntmps112
 go_wp2_with (go_at_call 110; (with_reducible refine (H.out _ (by repeat (first | exact Below.refl _ _ | apply below_alloc | apply pw_below_drewN | apply below_drew1))).mono ?_); rintro e w2 ⟨rfl, hb2⟩)
 go_ret
 exact ⟨rfl, (below_alloc (Below.refl _ _) _).trans (hb2.mono (below_alloc (Below.refl _ _) _).size)⟩
theorem attn_paged_value.calls (A : Option Addr) (x : S125) (s : attn_Src) (t p : Nat) (w : World) (h : PgK w A x) (hm : PgMeans x s) (ht : t < s.keys.length) (hp : (p : Int) < x.f0.f3) :
  Calls Try.prog 113 #[.agg #[.pointer A], .int .i64 (t : Int), .int .i64 (p : Int)] w fun e w' => e = .returned (.int .i32 (rd (s.vals.getD t []) (p : Int))) ∧ Below w.heap.size w w' := by
 have hu := Try.underlying79
 have H := Aside0.mk (fun w2 (hb : Below w.heap.size w w2) => page_value.calls A x t p _ w2 (h.below hb) hm.tokens hm.dim (by have := hm.nkeys; omega) hp hm.lvals (hm.val t p ht hp))
 clear h hm ht hp
 go_enter Try.func113, Try.ntmps113
 go_wp2_with (go_at_call 116; (with_reducible refine (H.out _ (by repeat (first | exact Below.refl _ _ | apply below_alloc | apply pw_below_drewN | apply below_drew1))).mono ?_); rintro e w2 ⟨rfl, hb2⟩)
 go_ret
 exact ⟨rfl, (below_alloc (Below.refl _ _) _).trans (hb2.mono (below_alloc (Below.refl _ _) _).size)⟩
end Go.Proofs.Yteflolamihhmdaa.Q

namespace Go.Proofs.Yteflolamihhmdaa.Q
open Go.RowKit Go.Proofs.YteflolamihhmdaaW.PrintWords Go.Proofs.YteflolamihhmdaaW.PrintLast Go.Proofs.YteflolamihhmdaaW.PrintMore
theorem attn_scoresP.calls (k : Nat) (Aq : Option Addr) (cq : Nat) (q : List Int) (A : Option Addr) (c : Nat) (ss : List attn_Src) (r : List Int) (w : World)
  (hq : Kd.C (Kd.int .i32) w Aq q.length q) (hs : attn_SrcsP w A ss) (hn1 : ss.length ≤ 1000000) (hn2 : r.length ≤ 1000000)
  (h : attn_scores.l k q (attn_keys ss) [] = some r) :
  Calls Try.prog 41 #[.slice Aq q.length cq, .slice A ss.length c] w fun e w' => ∃ v0_ : Value, e = .returned (v0_) ∧ Kd.R (Kd.int .i32) 21 w' w.heap.size (fun _ => True) v0_ r ∧ Below w.heap.size w w' := by
 have hn3 : q.length ≤ 9223372036854775807 := hq.2.1
 have HQ := Aside0.mk hq
 have HS := Aside0.mk hs
 have H0 := Aside0.mk h
 clear hq hs h
 go_enter Try.func41, Try.ntmps41
 go_wp2
 go_loopw [5, 14] (fun v i wr => ∃ (j : Nat) (out : List Int), j ≤ ss.length ∧ i = .int .i64 j ∧ Aside0 (attn_scores.l k q (attn_keys (ss.drop j)) out = some r) ∧ Aside0 (Kd.R (Kd.int .i32) 21 wr w.heap.size (fun _ => True) v out) ∧ Aside0 (Below w.heap.size w wr)) (fun _ i _ => ss.length - (intOf i).toNat)
 case atStart => exact ⟨0, [], Nat.zero_le _, rfl, H0, ⟨Kd.R_nil _ _ _ _ _⟩, ⟨Below.refl _ _⟩⟩
 case round =>
  obtain ⟨j, out, hj, rfl, HA, HO, HB⟩ := hrel
  by_cases hlt : j < ss.length
  ·obtain ⟨ad, v, rfl, hc, hv⟩ := HS.out.at_ j hlt
   have hst := attn_keys_step hlt
   generalize ss.getD j ⟨[], []⟩ = s at hv hst
   have HA2 := HA.out
   rw [hst] at HA2
   have HA3 := Aside0.mk HA2
   clear HA2 hst
   replace hc := pw_cell_below HB.out hc
   rcases hv with ⟨Ak, ck, Av, cv, rfl, hck, hcv, hk, hvv⟩ | ⟨Ap, px, rfl, hpk, hpm⟩
   ·have HK := Aside0.mk hk
    have HV := Aside0.mk hvv
    clear hk hvv
    obtain ⟨wo, rfl⟩ : ∃ wo : World, wo = wr := ⟨_, rfl⟩
    have N1 := attn_plain.nil_count
    have M1 := attn_plain.m_count
    go_wp2_with (go_at_call 119; (with_reducible refine (attn_plain_count.calls Ak ck s.keys Av cv s.vals (s.keys.length : Int) _ (Kd.C_below HK.out HB.out) hck (Kd.C_below HV.out HB.out) hcv rfl).mono ?_); rintro e w1 ⟨rfl, hb1⟩)
    have hkl : s.keys.length ≤ 9223372036854775807 := HK.out.2.1
    clear N1 M1
    have N1 := attn_plain.nil_key
    have M1 := attn_plain.m_key
    have hb0 := HB.out.trans (hb1.mono HB.out.size)
    have HB1 := Aside0.mk hb0
    have HO1 := Aside0.mk (Kd.R_below HO.out hb1)
    clear hb1 hb0 HO HA hc
    go_loopw [5, 20] (fun v i wr => ∃ (t : Nat) (out : List Int), t ≤ s.keys.length ∧ i = .int .i64 t ∧ Aside0 (attn_scores.l k q (s.keys.drop t ++ attn_keys (ss.drop (j + 1))) out = some r) ∧ Aside0 (Kd.R (Kd.int .i32) 21 wr w.heap.size (fun _ => True) v out) ∧ Aside0 (Below w.heap.size w wr)) (fun _ i _ => s.keys.length - (intOf i).toNat)
    case atStart => exact ⟨0, out, Nat.zero_le _, rfl, HA3, HO1, HB1⟩
    case round =>
     clear HA3 HO1 HB1 HB
     obtain ⟨t, out2, ht, rfl, HA, HO, HB⟩ := hrel
     by_cases htl : t < s.keys.length
     ·have HA2 := HA.out
      rw [attn_drop_row htl, List.cons_append] at HA2
      simp only [attn_scores.l] at HA2
      obtain ⟨sm, hsm, HA2⟩ := Option.bind_eq_some_iff.1 HA2
      obtain ⟨x, hx, HA2⟩ := Option.bind_eq_some_iff.1 HA2
      have HSM := Aside0.mk hsm
      have HX := Aside0.mk hx
      have hol : out2.length + 1 ≤ r.length := by have := attn_scores.len HA2; simp at this; omega
      have HA4 := Aside0.mk HA2
      clear HA hsm hx HA2
      have HKEY := Aside0.mk (fun p => attn_plain_key.at_ (l1 := s.vals) (p := p) htl)
      generalize s.keys.getD t [] = key at HSM HKEY
      obtain ⟨wo, rfl⟩ : ∃ wo : World, wo = wr := ⟨_, rfl⟩
      go_wp2
      go_loopw [9, 25] (fun v i wr => ∃ (p : Nat) (s0 : Int), p ≤ q.length ∧ i = .int .i64 p ∧ v = .int .i64 s0 ∧ Aside0 (attn_sum.l key (q.drop p) p s0 = some sm) ∧ Aside0 (Below w.heap.size w wr) ∧ Aside0 (Below wo.heap.size wo wr)) (fun _ i _ => q.length - (intOf i).toNat)
      case atStart => exact ⟨0, 0, Nat.zero_le _, rfl, rfl, HSM, HB, ⟨Below.refl _ _⟩⟩
      case round =>
       have HBo := HB
       clear HSM HB
       obtain ⟨p, s0, hp, rfl, rfl, HS2, HB, HW⟩ := hrel
       by_cases hpl : p < q.length
       ·have HS3 := HS2.out
        rw [attn_drop_num hpl] at HS3
        simp only [attn_sum.l] at HS3
        by_cases hpk : p < key.length
        ·rw [if_pos hpk] at HS3
         obtain ⟨tt, htt, HS3⟩ := Option.bind_eq_some_iff.1 HS3
         have HTT := Aside0.mk htt
         have HS4 := Aside0.mk HS3
         have HK2 := Aside0.mk (HKEY.out p hpk)
         clear HS3 htt HS2 hpk
         obtain ⟨adq, rfl, hcq⟩ := Kd.at_int (Kd.C_below HQ.out HB.out) (p : Int) (by omega) (by omega)
         simp only [Int.toNat_natCast] at hcq
         go_wp2_with (first
          | (go_at_call 120; (with_reducible refine (attn_plain_key.calls Ak ck s.keys Av cv s.vals (t : Int) (p : Int) _ _ (Kd.C_below HK.out HB.out) hck (Kd.C_below HV.out HB.out) hcv HK2.out).mono ?_); rintro e w2 ⟨rfl, hb2⟩)
          | (go_at_call 45; (with_reducible refine (attn_narrow.calls (rd key (p : Int)) tt _ HTT.out).mono ?_); rintro e w3 ⟨rfl, hb3⟩))
         go_roundw
         case rel => exact ⟨p + 1, _, by omega, by go_num, rfl, HS4, ⟨HB.out.trans ((hb2.trans (hb3.mono hb2.size)).mono HB.out.size)⟩, ⟨HW.out.trans ((hb2.trans (hb3.mono hb2.size)).mono HW.out.size)⟩⟩
         case measure => simp [intOf]; omega
        ·rw [if_neg hpk] at HS3
         exact absurd HS3 (by simp)
       ·obtain rfl : p = q.length := by omega
        have HS3 := HS2.out
        rw [List.drop_length] at HS3
        obtain rfl := Option.some.inj HS3
        clear HS3 HS2
        go_wp2_with (first
         | (go_at_call 26; (with_reducible refine (attn_scaled.calls k s0 (q.length : Int) x _ HX.out).mono ?_); rintro e w2 ⟨rfl, hb2⟩)
         | ((with_reducible refine gate_builtin (b := .append) rfl ?_); at_builtin; refine Kd.R_append (Kd.int .i32) (w0 := w) w.heap.size rfl _ _ 22 21 (.int .i32 0) 4 rfl Try.underlying22 info21 rfl (by decide) (by omega) u5 out2 x [.int .i32 x] (fun _ => True) (fun _ => False) rfl rfl ?aP (fun _ hk => hk.elim) ?aF ?aO ?aB ?aS ?aL ?_; (case aP => exact rfl); (case aF => exact (fun _ _ => trivial)); (case aO => exact Kd.R_below (Kd.R_below HO.out HW.out) hb2); (case aB => exact HB.out.trans (hb2.mono HB.out.size)); (case aS => exact Nat.le_trans HB.out.size hb2.size); (case aL => omega); intro v' w3 hR3 hb3 hg3 hat3))
        go_roundw
        case rel => exact ⟨t + 1, out2 ++ [x], by omega, by go_num, HA4, ⟨hR3⟩, ⟨hb3⟩⟩
        case measure => simp [intOf]; omega
     ·obtain rfl : t = s.keys.length := by omega
      have HA2 := HA.out
      rw [List.drop_length, List.nil_append] at HA2
      have HA4 := Aside0.mk HA2
      clear HA2 HA
      go_wp2
      go_roundw
      case rel => exact ⟨j + 1, out2, by omega, by go_num, HA4, HO, HB⟩
      case measure => simp [intOf]; omega
   ·have HPK := Aside0.mk hpk
    have HPM := Aside0.mk hpm
    clear hpk hpm
    obtain ⟨wo, rfl⟩ : ∃ wo : World, wo = wr := ⟨_, rfl⟩
    have N1 := attn_paged.nil_count
    have M1 := attn_paged.m_count
    go_wp2_with (go_at_call 111; (with_reducible refine (attn_paged_count.callsS Ap px s _ (PgK.below HPK.out HB.out) HPM.out).mono ?_); rintro e w1 ⟨rfl, hb1⟩)
    have hkl : s.keys.length ≤ 9223372036854775807 := by have h1_ := HPM.out.nkeys; have h2_ := HPM.out.tokens; omega
    clear N1 M1
    have N1 := attn_paged.nil_key
    have M1 := attn_paged.m_key
    have hb0 := HB.out.trans (hb1.mono HB.out.size)
    have HB1 := Aside0.mk hb0
    have HO1 := Aside0.mk (Kd.R_below HO.out hb1)
    clear hb1 hb0 HO HA hc
    go_loopw [5, 20] (fun v i wr => ∃ (t : Nat) (out : List Int), t ≤ s.keys.length ∧ i = .int .i64 t ∧ Aside0 (attn_scores.l k q (s.keys.drop t ++ attn_keys (ss.drop (j + 1))) out = some r) ∧ Aside0 (Kd.R (Kd.int .i32) 21 wr w.heap.size (fun _ => True) v out) ∧ Aside0 (Below w.heap.size w wr)) (fun _ i _ => s.keys.length - (intOf i).toNat)
    case atStart => exact ⟨0, out, Nat.zero_le _, rfl, HA3, HO1, HB1⟩
    case round =>
     clear HA3 HO1 HB1 HB
     obtain ⟨t, out2, ht, rfl, HA, HO, HB⟩ := hrel
     by_cases htl : t < s.keys.length
     ·have HA2 := HA.out
      rw [attn_drop_row htl, List.cons_append] at HA2
      simp only [attn_scores.l] at HA2
      obtain ⟨sm, hsm, HA2⟩ := Option.bind_eq_some_iff.1 HA2
      obtain ⟨x, hx, HA2⟩ := Option.bind_eq_some_iff.1 HA2
      have HSM := Aside0.mk hsm
      have HX := Aside0.mk hx
      have hol : out2.length + 1 ≤ r.length := by have := attn_scores.len HA2; simp at this; omega
      have HA4 := Aside0.mk HA2
      clear HA hsm hx HA2
      have HKEY := Aside0.mk (fun (p : Nat) (W : World) (hW : PgK W Ap px) (hp_ : p < (s.keys.getD t []).length) => attn_paged_key.calls Ap px s t p W hW HPM.out htl (by have h1_ := HPM.out.wkeys t htl; omega))
      generalize s.keys.getD t [] = key at HSM HKEY
      obtain ⟨wo, rfl⟩ : ∃ wo : World, wo = wr := ⟨_, rfl⟩
      go_wp2
      go_loopw [9, 25] (fun v i wr => ∃ (p : Nat) (s0 : Int), p ≤ q.length ∧ i = .int .i64 p ∧ v = .int .i64 s0 ∧ Aside0 (attn_sum.l key (q.drop p) p s0 = some sm) ∧ Aside0 (Below w.heap.size w wr) ∧ Aside0 (Below wo.heap.size wo wr)) (fun _ i _ => q.length - (intOf i).toNat)
      case atStart => exact ⟨0, 0, Nat.zero_le _, rfl, rfl, HSM, HB, ⟨Below.refl _ _⟩⟩
      case round =>
       have HBo := HB
       clear HSM HB
       obtain ⟨p, s0, hp, rfl, rfl, HS2, HB, HW⟩ := hrel
       by_cases hpl : p < q.length
       ·have HS3 := HS2.out
        rw [attn_drop_num hpl] at HS3
        simp only [attn_sum.l] at HS3
        by_cases hpk : p < key.length
        ·rw [if_pos hpk] at HS3
         obtain ⟨tt, htt, HS3⟩ := Option.bind_eq_some_iff.1 HS3
         have HTT := Aside0.mk htt
         have HS4 := Aside0.mk HS3
         have HK2 := Aside0.mk (fun (W : World) (hW : PgK W Ap px) => HKEY.out p W hW hpk)
         clear HS3 htt HS2 hpk
         obtain ⟨adq, rfl, hcq⟩ := Kd.at_int (Kd.C_below HQ.out HB.out) (p : Int) (by omega) (by omega)
         simp only [Int.toNat_natCast] at hcq
         go_wp2_with (first
          | (go_at_call 112; (with_reducible refine (HK2.out _ (PgK.below HPK.out HB.out)).mono ?_); rintro e w2 ⟨rfl, hb2⟩)
          | (go_at_call 45; (with_reducible refine (attn_narrow.calls (rd key (p : Int)) tt _ HTT.out).mono ?_); rintro e w3 ⟨rfl, hb3⟩))
         go_roundw
         case rel => exact ⟨p + 1, _, by omega, by go_num, rfl, HS4, ⟨HB.out.trans ((hb2.trans (hb3.mono hb2.size)).mono HB.out.size)⟩, ⟨HW.out.trans ((hb2.trans (hb3.mono hb2.size)).mono HW.out.size)⟩⟩
         case measure => simp [intOf]; omega
        ·rw [if_neg hpk] at HS3
         exact absurd HS3 (by simp)
       ·obtain rfl : p = q.length := by omega
        have HS3 := HS2.out
        rw [List.drop_length] at HS3
        obtain rfl := Option.some.inj HS3
        clear HS3 HS2
        go_wp2_with (first
         | (go_at_call 26; (with_reducible refine (attn_scaled.calls k s0 (q.length : Int) x _ HX.out).mono ?_); rintro e w2 ⟨rfl, hb2⟩)
         | ((with_reducible refine gate_builtin (b := .append) rfl ?_); at_builtin; refine Kd.R_append (Kd.int .i32) (w0 := w) w.heap.size rfl _ _ 22 21 (.int .i32 0) 4 rfl Try.underlying22 info21 rfl (by decide) (by omega) u5 out2 x [.int .i32 x] (fun _ => True) (fun _ => False) rfl rfl ?aP (fun _ hk => hk.elim) ?aF ?aO ?aB ?aS ?aL ?_; (case aP => exact rfl); (case aF => exact (fun _ _ => trivial)); (case aO => exact Kd.R_below (Kd.R_below HO.out HW.out) hb2); (case aB => exact HB.out.trans (hb2.mono HB.out.size)); (case aS => exact Nat.le_trans HB.out.size hb2.size); (case aL => omega); intro v' w3 hR3 hb3 hg3 hat3))
        go_roundw
        case rel => exact ⟨t + 1, out2 ++ [x], by omega, by go_num, HA4, ⟨hR3⟩, ⟨hb3⟩⟩
        case measure => simp [intOf]; omega
     ·obtain rfl : t = s.keys.length := by omega
      have HA2 := HA.out
      rw [List.drop_length, List.nil_append] at HA2
      have HA4 := Aside0.mk HA2
      clear HA2 HA
      go_wp2
      go_roundw
      case rel => exact ⟨j + 1, out2, by omega, by go_num, HA4, HO, HB⟩
      case measure => simp [intOf]; omega
  ·obtain rfl : j = ss.length := by omega
   have HA2 := HA.out
   rw [List.drop_length] at HA2
   obtain rfl := Option.some.inj HA2
   clear HA2
   go_wp2
   go_ret
   exact ⟨_, rfl, by (with_reducible repeat (first | apply Kd.R_alloc | apply Kd.R_drewN | apply Kd.R_drew)); exact HO.out, by repeat (first | (with_reducible first | exact HB.out | apply below_alloc | apply pw_below_drewN | apply below_drew1) | exact HB.out)⟩
end Go.Proofs.Yteflolamihhmdaa.Q

namespace Go.Proofs.Yteflolamihhmdaa.Q
open Go.RowKit Go.Proofs.YteflolamihhmdaaW.PrintWords Go.Proofs.YteflolamihhmdaaW.PrintLast Go.Proofs.YteflolamihhmdaaW.PrintMore
attribute [local go_sem ↓] Go.wp_at_zero Go.wp_at_succ
theorem attn_gatherP.calls (k : Nat) (Aw : Option Addr) (cw : Nat) (ws : List Int) (A : Option Addr) (c : Nat) (ss : List attn_Src) (wide : Nat) (r : List Int) (w : World)
  (hw : Kd.C (Kd.int .i64) w Aw ws.length ws) (hcw : ws.length ≤ cw) (hs : attn_SrcsP w A ss) (hsame : ∀ s ∈ ss, s.keys.length = s.vals.length) (hn1 : ss.length ≤ 1000000) (hw1 : 1 ≤ wide) (hw2 : wide ≤ 1000000)
  (h : attn_gather.l k ws (attn_vals ss) wide = some r) :
  Calls Try.prog 42 #[.slice Aw ws.length cw, .slice A ss.length c, .int .i64 wide] w fun e w' => ∃ v0_ : Value, e = .returned (v0_) ∧ Kd.R (Kd.int .i32) 21 w' w.heap.size (fun _ => True) v0_ r ∧ Below w.heap.size w w' := by
 obtain ⟨sm, hsm, hout⟩ := Option.bind_eq_some_iff.1 h
 have hsl : sm.length = wide := by rw [attn_gsum.len hsm, List.length_replicate]
 have HSL := Aside0.mk hsl
 have hn2 : ws.length ≤ 9223372036854775807 := hw.2.1
 have HWS := Aside0.mk hw
 have HCW := Aside0.mk hcw
 have HS := Aside0.mk hs
 have HSAME := Aside0.mk hsame
 have HSM := Aside0.mk hsm
 have HOUT := Aside0.mk hout
 clear hw hs hsm hout h hsl hsame hcw
 go_enter Try.func42, Try.ntmps42
 go_wp2_with ((with_reducible refine gate_dst (N := 17) rfl ?_); refine Kd.R_make (Kd.int .i64) w.heap.size 2 rfl (N := 17) rfl 113 _ _ rfl (wide : Int) rfl rfl Try.underlying113 (.int .i64 0) 8 attn_gather.info64 rfl (by decide) (by omega) 0 (ok := fun _ => True) (okp := fun _ => True) rfl (fun _ hk => hk) trivial (by omega) (by omega) (Below.refl _ _) (Nat.le_refl _) ?_; intro v7 w4 ho5 hb hg_ hnew_; clear hg_ hnew_; rw [Int.toNat_natCast] at ho5)
 have hform := Kd.R_form ho5 (by rw [List.length_replicate]; omega)
 rw [List.length_replicate] at hform
 obtain ⟨g7, c7, rfl, hg7, -, -⟩ := hform
 have HO5 := Aside0.mk ho5
 have HB4 := Aside0.mk hb
 clear ho5 hb
 go_loopw [8, 20] (fun v i wr => ∃ (j a : Nat) (sums : List Int), j ≤ ss.length ∧ i = .int .i64 j ∧ v = .int .i64 a ∧ sums.length = wide ∧ Aside0 (attn_gsum.l ws (attn_vals (ss.drop j)) a sums = some sm) ∧ Aside0 (Kd.R (Kd.int .i64) 2 wr w.heap.size (fun _ => True) (.slice (some ⟨g7, 0, none⟩) wide c7) sums) ∧ Aside0 (Below w.heap.size w wr)) (fun _ i _ => ss.length - (intOf i).toNat)
 case atStart => exact ⟨0, 0, _, Nat.zero_le _, rfl, rfl, List.length_replicate, HSM, HO5, HB4⟩
 case round =>
  clear HSM HO5 HB4
  obtain ⟨j, a, sums, hj, rfl, rfl, hsl, HA, HO, HB⟩ := hrel
  by_cases hlt : j < ss.length
  ·obtain ⟨ad, v, rfl, hc, hv⟩ := HS.out.at_ j hlt
   have hst := attn_vals_step hlt
   have hsm2 := HSAME.out (ss.getD j ⟨[], []⟩) (by rw [List.getD_eq_getElem?_getD, List.getElem?_eq_getElem hlt]; exact List.getElem_mem hlt)
   generalize ss.getD j ⟨[], []⟩ = s at hv hst hsm2
   have HA2 := HA.out
   rw [hst] at HA2
   have HA3 := Aside0.mk HA2
   clear HA2 hst HA
   replace hc := pw_cell_below HB.out hc
   rcases hv with ⟨Ak, ck, Av, cv, rfl, hck, hcv, hk, hvv⟩ | ⟨Ap, px, rfl, hpk, hpm⟩
   ·have HK := Aside0.mk hk
    have HV := Aside0.mk hvv
    have HKV := Aside0.mk hsm2
    clear hk hvv hsm2
    obtain ⟨wo, rfl⟩ : ∃ wo : World, wo = wr := ⟨_, rfl⟩
    have N1 := attn_plain.nil_count
    have M1 := attn_plain.m_count
    go_wp2_with (go_at_call 119; (with_reducible refine (attn_plain_count.calls Ak ck s.keys Av cv s.vals (s.keys.length : Int) _ (Kd.C_below HK.out HB.out) hck (Kd.C_below HV.out HB.out) hcv rfl).mono ?_); rintro e w1 ⟨rfl, hb1⟩)
    have hkl : s.keys.length ≤ 9223372036854775807 := HK.out.2.1
    clear N1 M1
    have N1 := attn_plain.nil_value
    have M1 := attn_plain.m_value
    have hb0 := HB.out.trans (hb1.mono HB.out.size)
    have HB1 := Aside0.mk hb0
    have HO1 := Aside0.mk (Kd.R_below HO.out hb1)
    clear hb1 hb0 HO hc HB
    go_loopw [8, 26] (fun v i wr => ∃ (t a : Nat) (sums : List Int), t ≤ s.keys.length ∧ i = .int .i64 t ∧ v = .int .i64 a ∧ sums.length = wide ∧ Aside0 (attn_gsum.l ws (s.vals.drop t ++ attn_vals (ss.drop (j + 1))) a sums = some sm) ∧ Aside0 (Kd.R (Kd.int .i64) 2 wr w.heap.size (fun _ => True) (.slice (some ⟨g7, 0, none⟩) wide c7) sums) ∧ Aside0 (Below w.heap.size w wr)) (fun _ i _ => s.keys.length - (intOf i).toNat)
    case atStart => exact ⟨0, a, sums, Nat.zero_le _, rfl, rfl, hsl, HA3, HO1, HB1⟩
    case round =>
     clear HA3 HO1 HB1 hsl
     obtain ⟨t, a, sums, ht, rfl, rfl, hsl, HA, HO, HB⟩ := hrel
     by_cases htl : t < s.keys.length
     ·have htv : t < s.vals.length := by have := HKV.out; omega
      have HA2 := HA.out
      rw [attn_drop_row htv, List.cons_append] at HA2
      simp only [attn_gsum.l] at HA2
      by_cases haw : a < ws.length
      ·rw [if_pos haw, hsl] at HA2
       obtain ⟨s2, hs2, HA2⟩ := Option.bind_eq_some_iff.1 HA2
       have HS2 := Aside0.mk hs2
       have hs2l : s2.length = wide := by rw [attn_gadd.len hs2]; exact hsl
       have HA4 := Aside0.mk HA2
       clear HA hs2 HA2
       have HVAL := Aside0.mk (fun p => attn_plain_value.at_ (l0 := s.keys) (p := p) htv)
       generalize s.vals.getD t [] = val at HS2 HVAL
       obtain ⟨wo, rfl⟩ : ∃ wo : World, wo = wr := ⟨_, rfl⟩
       obtain ⟨adw, rfl, hcw0⟩ := Kd.at_int HWS.out (a : Int) (by omega) (by omega)
       simp only [Int.toNat_natCast] at hcw0
       generalize rd ws (a : Int) = wt at HS2 hcw0
       have HCWC := Aside0.mk hcw0
       clear hcw0
       go_wp2
       go_loopw [31] (fun i wr => ∃ (p : Nat) (sums : List Int), p ≤ wide ∧ i = .int .i64 p ∧ sums.length = wide ∧ Aside0 (attn_gadd.l wt val (wide - p) p sums = some s2) ∧ Aside0 (Kd.R (Kd.int .i64) 2 wr w.heap.size (fun _ => True) (.slice (some ⟨g7, 0, none⟩) wide c7) sums) ∧ Aside0 (Below w.heap.size w wr)) (fun i _ => wide - (intOf i).toNat)
       case atStart => exact ⟨0, sums, Nat.zero_le _, rfl, hsl, HS2, HO, HB⟩
       case round =>
        clear HS2 HO HB hsl
        obtain ⟨p, sums, hp, rfl, hsl, HG, HO, HB⟩ := hrel
        by_cases hpl : p < wide
        ·have HG2 := HG.out
         rw [show wide - p = (wide - (p + 1)) + 1 by omega] at HG2
         simp only [attn_gadd.l] at HG2
         by_cases hpv : p < val.length
         ·rw [if_pos hpv] at HG2
          obtain ⟨tt, htt, HG2⟩ := Option.bind_eq_some_iff.1 HG2
          have HTT := Aside0.mk htt
          have HG4 := Aside0.mk HG2
          have HV2 := Aside0.mk (HVAL.out p hpv)
          clear HG2 htt HG hpv
          obtain ⟨hcs, hfs⟩ := Kd.R_celln 0 HO.out (p : Int) (by omega) (by omega)
          simp only [Int.toNat_natCast] at hcs hfs
          have hput := fun W (hb : Below wr.heap.size wr W) (x : Int) => Kd.R_putg (Kd.R_below HO.out hb) (p : Int) x
          simp only [Int.toNat_natCast] at hput
          have HPUT := Aside0.mk hput
          clear hput
          have hcw1 := pw_cell_below HB.out HCWC.out
          change wr.cell? ⟨g7, p, none⟩ = some (.int .i64 (rd sums (p : Int))) at hcs
          generalize hz0 : rd sums (p : Int) = z0 at hcs HG4
          clear hz0
          go_wp2_with fail
          go_region_with (first
           | (go_at_call 121; (with_reducible refine (attn_plain_value.calls Ak ck s.keys Av cv s.vals (t : Int) (p : Int) _ _ (by first | exact Kd.C_below HK.out HB.out | exact Kd.C_below HK.out (below_drew HB.out) | exact Kd.C_below HK.out (pw_below_drewN HB.out _)) hck (by first | exact Kd.C_below HV.out HB.out | exact Kd.C_below HV.out (below_drew HB.out) | exact Kd.C_below HV.out (pw_below_drewN HB.out _)) hcv HV2.out).mono ?_); rintro e w2 ⟨rfl, hb2'⟩; have hb2 : Below wr.heap.size wr w2 := ⟨hb2'.os, hb2'.tape, hb2'.output, hb2'.size, hb2'.block⟩; have hcs2 := pw_cell_below hb2 hcs; have hcw2 := pw_cell_below hb2 hcw1; have hfs2 := (hb2.frozen (p := ⟨g7, p, none⟩) (World.block_lt_of_cell? wr _ hcs)).trans hfs; clear hb2')
           | (go_at_call 45; (with_reducible refine (attn_narrow.calls (rd val (p : Int)) tt _ HTT.out).mono ?_); rintro e w3 ⟨rfl, hb3'⟩; have hb3 : Below w2.heap.size w2 w3 := ⟨hb3'.os, hb3'.tape, hb3'.output, hb3'.size, hb3'.block⟩; have hcs3 := pw_cell_below hb3 hcs2; have hcw3 := pw_cell_below hb3 hcw2; have hfs3 := (hb3.frozen (p := ⟨g7, p, none⟩) (World.block_lt_of_cell? w2 _ hcs2)).trans hfs2; clear hb3'))
          all_goals go_wp2_with fail
          all_goals (have hbb := hb2.trans (hb3.mono hb2.size))
          all_goals exact ⟨⟨p + 1, sums.set p (wrap64 (z0 + wrap64 (wt * tt))), by omega, by go_num, by rw [List.length_set]; exact hsl, HG4, ⟨(HPUT.out w3 hbb _).1⟩, ⟨below_set (HB.out.trans (hbb.mono HB.out.size)) hg7⟩⟩, by simp [intOf]; omega⟩
         ·rw [if_neg hpv] at HG2
          exact absurd HG2 (by simp)
        ·obtain rfl : p = wide := by omega
         have HG2 := HG.out
         rw [Nat.sub_self] at HG2
         obtain rfl := Option.some.inj HG2
         clear HG2 HG
         go_wp2
         go_roundw
         case rel => exact ⟨t + 1, a + 1, sums, by omega, by go_num, by go_num, hsl, HA4, HO, HB⟩
         case measure => simp [intOf]; omega
      ·rw [if_neg haw] at HA2
       exact absurd HA2 (by simp)
     ·obtain rfl : t = s.keys.length := by omega
      have HA2 := HA.out
      rw [List.drop_eq_nil_of_le (by have := HKV.out; omega), List.nil_append] at HA2
      have HA4 := Aside0.mk HA2
      clear HA2 HA
      go_wp2
      go_roundw
      case rel => exact ⟨j + 1, a, sums, by omega, by go_num, rfl, hsl, HA4, HO, HB⟩
      case measure => simp [intOf]; omega
   ·have HPK := Aside0.mk hpk
    have HPM := Aside0.mk hpm
    clear hpk hpm hsm2
    obtain ⟨wo, rfl⟩ : ∃ wo : World, wo = wr := ⟨_, rfl⟩
    have N1 := attn_paged.nil_count
    have M1 := attn_paged.m_count
    go_wp2_with (go_at_call 111; (with_reducible refine (attn_paged_count.callsS Ap px s _ (PgK.below HPK.out HB.out) HPM.out).mono ?_); rintro e w1 ⟨rfl, hb1⟩)
    have hkl : s.keys.length ≤ 9223372036854775807 := by have h1_ := HPM.out.nkeys; have h2_ := HPM.out.tokens; omega
    clear N1 M1
    have N1 := attn_paged.nil_value
    have M1 := attn_paged.m_value
    have hb0 := HB.out.trans (hb1.mono HB.out.size)
    have HB1 := Aside0.mk hb0
    have HO1 := Aside0.mk (Kd.R_below HO.out hb1)
    clear hb1 hb0 HO hc HB
    go_loopw [8, 26] (fun v i wr => ∃ (t a : Nat) (sums : List Int), t ≤ s.keys.length ∧ i = .int .i64 t ∧ v = .int .i64 a ∧ sums.length = wide ∧ Aside0 (attn_gsum.l ws (s.vals.drop t ++ attn_vals (ss.drop (j + 1))) a sums = some sm) ∧ Aside0 (Kd.R (Kd.int .i64) 2 wr w.heap.size (fun _ => True) (.slice (some ⟨g7, 0, none⟩) wide c7) sums) ∧ Aside0 (Below w.heap.size w wr)) (fun _ i _ => s.keys.length - (intOf i).toNat)
    case atStart => exact ⟨0, a, sums, Nat.zero_le _, rfl, rfl, hsl, HA3, HO1, HB1⟩
    case round =>
     clear HA3 HO1 HB1 hsl
     obtain ⟨t, a, sums, ht, rfl, rfl, hsl, HA, HO, HB⟩ := hrel
     by_cases htl : t < s.keys.length
     ·have htv : t < s.vals.length := by have := HPM.out.nvals; omega
      have HA2 := HA.out
      rw [attn_drop_row htv, List.cons_append] at HA2
      simp only [attn_gsum.l] at HA2
      by_cases haw : a < ws.length
      ·rw [if_pos haw, hsl] at HA2
       obtain ⟨s2, hs2, HA2⟩ := Option.bind_eq_some_iff.1 HA2
       have HS2 := Aside0.mk hs2
       have hs2l : s2.length = wide := by rw [attn_gadd.len hs2]; exact hsl
       have HA4 := Aside0.mk HA2
       clear HA hs2 HA2
       have HVAL := Aside0.mk (fun (p : Nat) (W : World) (hW : PgK W Ap px) (hp_ : p < (s.vals.getD t []).length) => attn_paged_value.calls Ap px s t p W hW HPM.out htl (by have h1_ := HPM.out.wvals t htl; omega))
       generalize s.vals.getD t [] = val at HS2 HVAL
       obtain ⟨wo, rfl⟩ : ∃ wo : World, wo = wr := ⟨_, rfl⟩
       obtain ⟨adw, rfl, hcw0⟩ := Kd.at_int HWS.out (a : Int) (by omega) (by omega)
       simp only [Int.toNat_natCast] at hcw0
       generalize rd ws (a : Int) = wt at HS2 hcw0
       have HCWC := Aside0.mk hcw0
       clear hcw0
       go_wp2
       go_loopw [31] (fun i wr => ∃ (p : Nat) (sums : List Int), p ≤ wide ∧ i = .int .i64 p ∧ sums.length = wide ∧ Aside0 (attn_gadd.l wt val (wide - p) p sums = some s2) ∧ Aside0 (Kd.R (Kd.int .i64) 2 wr w.heap.size (fun _ => True) (.slice (some ⟨g7, 0, none⟩) wide c7) sums) ∧ Aside0 (Below w.heap.size w wr)) (fun i _ => wide - (intOf i).toNat)
       case atStart => exact ⟨0, sums, Nat.zero_le _, rfl, hsl, HS2, HO, HB⟩
       case round =>
        clear HS2 HO HB hsl
        obtain ⟨p, sums, hp, rfl, hsl, HG, HO, HB⟩ := hrel
        by_cases hpl : p < wide
        ·have HG2 := HG.out
         rw [show wide - p = (wide - (p + 1)) + 1 by omega] at HG2
         simp only [attn_gadd.l] at HG2
         by_cases hpv : p < val.length
         ·rw [if_pos hpv] at HG2
          obtain ⟨tt, htt, HG2⟩ := Option.bind_eq_some_iff.1 HG2
          have HTT := Aside0.mk htt
          have HG4 := Aside0.mk HG2
          have HV2 := Aside0.mk (fun (W : World) (hW : PgK W Ap px) => HVAL.out p W hW hpv)
          clear HG2 htt HG hpv
          obtain ⟨hcs, hfs⟩ := Kd.R_celln 0 HO.out (p : Int) (by omega) (by omega)
          simp only [Int.toNat_natCast] at hcs hfs
          have hput := fun W (hb : Below wr.heap.size wr W) (x : Int) => Kd.R_putg (Kd.R_below HO.out hb) (p : Int) x
          simp only [Int.toNat_natCast] at hput
          have HPUT := Aside0.mk hput
          clear hput
          have hcw1 := pw_cell_below HB.out HCWC.out
          change wr.cell? ⟨g7, p, none⟩ = some (.int .i64 (rd sums (p : Int))) at hcs
          generalize hz0 : rd sums (p : Int) = z0 at hcs HG4
          clear hz0
          go_wp2_with fail
          go_region_with (first
           | (go_at_call 113; (with_reducible refine (HV2.out _ (by first | exact PgK.below HPK.out HB.out | exact PgK.below HPK.out (below_drew HB.out) | exact PgK.below HPK.out (pw_below_drewN HB.out _))).mono ?_); rintro e w2 ⟨rfl, hb2'⟩; have hb2 : Below wr.heap.size wr w2 := ⟨hb2'.os, hb2'.tape, hb2'.output, hb2'.size, hb2'.block⟩; have hcs2 := pw_cell_below hb2 hcs; have hcw2 := pw_cell_below hb2 hcw1; have hfs2 := (hb2.frozen (p := ⟨g7, p, none⟩) (World.block_lt_of_cell? wr _ hcs)).trans hfs; clear hb2')
           | (go_at_call 45; (with_reducible refine (attn_narrow.calls (rd val (p : Int)) tt _ HTT.out).mono ?_); rintro e w3 ⟨rfl, hb3'⟩; have hb3 : Below w2.heap.size w2 w3 := ⟨hb3'.os, hb3'.tape, hb3'.output, hb3'.size, hb3'.block⟩; have hcs3 := pw_cell_below hb3 hcs2; have hcw3 := pw_cell_below hb3 hcw2; have hfs3 := (hb3.frozen (p := ⟨g7, p, none⟩) (World.block_lt_of_cell? w2 _ hcs2)).trans hfs2; clear hb3'))
          all_goals go_wp2_with fail
          all_goals (have hbb := hb2.trans (hb3.mono hb2.size))
          all_goals exact ⟨⟨p + 1, sums.set p (wrap64 (z0 + wrap64 (wt * tt))), by omega, by go_num, by rw [List.length_set]; exact hsl, HG4, ⟨(HPUT.out w3 hbb _).1⟩, ⟨below_set (HB.out.trans (hbb.mono HB.out.size)) hg7⟩⟩, by simp [intOf]; omega⟩
         ·rw [if_neg hpv] at HG2
          exact absurd HG2 (by simp)
        ·obtain rfl : p = wide := by omega
         have HG2 := HG.out
         rw [Nat.sub_self] at HG2
         obtain rfl := Option.some.inj HG2
         clear HG2 HG
         go_wp2
         go_roundw
         case rel => exact ⟨t + 1, a + 1, sums, by omega, by go_num, by go_num, hsl, HA4, HO, HB⟩
         case measure => simp [intOf]; omega
      ·rw [if_neg haw] at HA2
       exact absurd HA2 (by simp)
     ·obtain rfl : t = s.keys.length := by omega
      have HA2 := HA.out
      rw [List.drop_eq_nil_of_le (by have := HPM.out.nvals; omega), List.nil_append] at HA2
      have HA4 := Aside0.mk HA2
      clear HA2 HA
      go_wp2
      go_roundw
      case rel => exact ⟨j + 1, a, sums, by omega, by go_num, rfl, hsl, HA4, HO, HB⟩
      case measure => simp [intOf]; omega
  ·obtain rfl : j = ss.length := by omega
   have HA2 := HA.out
   rw [List.drop_length] at HA2
   obtain rfl := Option.some.inj HA2
   clear HA2 HA
   go_wp2_with ((with_reducible refine gate_dst (N := 56) rfl ?_); refine Kd.R_make (Kd.int .i32) w.heap.size 21 rfl (N := 56) rfl 22 _ _ rfl (wide : Int) rfl rfl Try.underlying22 (.int .i32 0) 4 info21 rfl (by decide) (by omega) 0 (ok := fun _ => True) (okp := fun _ => True) rfl (fun _ hk => hk) trivial (by omega) (by omega) HB.out HB.out.size ?_; intro v13 w5 ho6 hb6 hg6 hnew6; rw [Int.toNat_natCast] at ho6)
   have hform := Kd.R_form ho6 (by rw [List.length_replicate]; omega)
   rw [List.length_replicate] at hform
   obtain ⟨g13, c13, rfl, hg13, -, -⟩ := hform
   have HO6 := Aside0.mk ho6
   have HB6 := Aside0.mk hb6
   have HO7 := Aside0.mk (Kd.R_grown HO.out hg6 (fun _ _ => by simp))
   clear ho6 hb6 hg6 HO HB hnew6
   go_loopw [59] (fun i wr => ∃ (p : Nat) (out : List Int), p ≤ wide ∧ i = .int .i64 p ∧ out.length = wide ∧ Aside0 (attn_gout.l k ws (sums.drop p) p out = some r) ∧ Aside0 (Kd.R (Kd.int .i64) 2 wr w.heap.size (fun _ => True) (.slice (some ⟨g7, 0, none⟩) wide c7) sums) ∧ Aside0 (Kd.R (Kd.int .i32) 21 wr w.heap.size (fun _ => True) (.slice (some ⟨g13, 0, none⟩) wide c13) out) ∧ Aside0 (Below w.heap.size w wr)) (fun i _ => wide - (intOf i).toNat)
   case atStart => exact ⟨0, _, Nat.zero_le _, rfl, List.length_replicate, HOUT, HO7, HO6, HB6⟩
   case round =>
    clear HOUT HO7 HO6 HB6
    obtain ⟨p, out, hp, rfl, hol, HG, HO, HOO, HB⟩ := hrel
    by_cases hpl : p < wide
    ·have HG2 := HG.out
     rw [attn_drop_num (by omega)] at HG2
     simp only [attn_gout.l] at HG2
     obtain ⟨s, hs, HG2⟩ := Option.bind_eq_some_iff.1 HG2
     obtain ⟨y, hy, HG2⟩ := Option.bind_eq_some_iff.1 HG2
     obtain ⟨z, hz, HG2⟩ := Option.bind_eq_some_iff.1 HG2
     have H1 := Aside0.mk hs
     have H2 := Aside0.mk hy
     have H3 := Aside0.mk hz
     have H4 := Aside0.mk HG2
     clear hs hy hz HG2 HG
     obtain ⟨hcs, hfs⟩ := Kd.R_celln 0 HO.out (p : Int) (by omega) (by omega)
     obtain ⟨hco, hfo⟩ := Kd.R_celln 0 HOO.out (p : Int) (by omega) (by omega)
     simp only [Int.toNat_natCast] at hcs hfs hco hfo
     change wr.cell? ⟨g7, p, none⟩ = some (.int .i64 (rd sums (p : Int))) at hcs
     have hput := fun W (hb : Below wr.heap.size wr W) (x : Int) => Kd.R_putg (Kd.R_below HOO.out hb) (p : Int) x
     simp only [Int.toNat_natCast] at hput
     have HPUT := Aside0.mk hput
     have hown := fun W (hb : Below wr.heap.size wr W) => Kd.R_form (Kd.R_below HOO.out hb) (by omega)
     have HOWN := Aside0.mk hown
     clear hput hown
     go_wp2_with (first
      | (go_at_call 68; (with_reducible refine (soft_Sum.calls k (Aw) cw ws s _ (by first | exact Kd.C_below HWS.out HB.out | exact Kd.C_below HWS.out (below_drew HB.out) | exact Kd.C_below HWS.out (pw_below_drewN HB.out _)) HCW.out H1.out).mono ?_); rintro e w2 ⟨rfl, ⟨nd, rfl⟩⟩)
      | (go_at_call 67; (with_reducible refine (fix_Ratio.calls _ _ y _ H2.out).mono ?_); rintro e w2 ⟨rfl, ⟨nd2, rfl⟩⟩)
      | (go_at_call 66; (with_reducible refine (fix_Narrow.calls y z _ H3.out).mono ?_); rintro e w3 ⟨rfl, hb3'⟩; have hb3 : Below wr.heap.size wr w3 := ⟨hb3'.os, hb3'.tape, hb3'.output, hb3'.size, hb3'.block⟩; have hco3 := pw_cell_below hb3 hco; have hfo3 := (hb3.frozen (p := ⟨g13, p, none⟩) (World.block_lt_of_cell? wr _ hco)).trans hfo; clear hb3'))
     go_roundw
     case rel =>
      refine ⟨p + 1, out.set p z, by omega, by go_num, by rw [List.length_set]; exact hol, H4, ⟨?_⟩, ⟨(HPUT.out w3 hb3 z).1⟩, ⟨below_set (HB.out.trans (hb3.mono HB.out.size)) hg13⟩⟩
      obtain ⟨g', cap', e', -, -, cells, hcells⟩ := HOWN.out w3 hb3
      obtain ⟨rfl⟩ : g13 = g' := by injection e' with e1; injection e1 with e1; injection e1
      exact attn_keep_row (Kd.R_below HO.out hb3) hcells (by intro q hq; simp [Kd.int, Kd.scalar] at hq; omega) (HPUT.out w3 hb3 z).2
     case measure => simp [intOf]; omega
    ·obtain rfl : p = wide := by omega
     have HG2 := HG.out
     rw [List.drop_eq_nil_of_le (by omega)] at HG2
     obtain rfl := Option.some.inj HG2
     clear HG2 HG
     go_wp2
     go_ret
     exact ⟨_, rfl, by (with_reducible repeat (first | apply Kd.R_alloc | apply Kd.R_drewN | apply Kd.R_drew)); exact HOO.out, by repeat (first | (with_reducible first | exact HB.out | apply below_alloc | apply pw_below_drewN | apply below_drew1) | exact HB.out)⟩
end Go.Proofs.Yteflolamihhmdaa.Q

namespace Go.Proofs.Yteflolamihhmdaa.Q
open Go.RowKit Go.Proofs.YteflolamihhmdaaW.PrintWords Go.Proofs.YteflolamihhmdaaW.PrintLast Go.Proofs.YteflolamihhmdaaW.PrintMore
def pgKeyO (x : S125) (t p : Nat) : Option Int := page_packed_mean.f (rd_T135 x.f1 (p : Int)).f0.f0 (rd_T135 x.f1 (p : Int)).f0.f1 (rd_T135 x.f1 (p : Int)).f0.f2 (rd_T135 x.f1 (p : Int)).f1 (t : Int) x.f0.f0
def pgValO (x : S125) (t p : Nat) : Option Int := page_packed_mean.f (rd_T135 x.f2 (t : Int)).f0.f0 (rd_T135 x.f2 (t : Int)).f0.f1 (rd_T135 x.f2 (t : Int)).f0.f2 (rd_T135 x.f2 (t : Int)).f1 (p : Int) x.f0.f1
def pgSrc (x : S125) : attn_Src :=
 ⟨(List.range x.f0.f2.toNat).map fun t => (List.range x.f0.f3.toNat).map fun p => (pgKeyO x t p).getD 0, (List.range x.f0.f2.toNat).map fun t => (List.range x.f0.f3.toNat).map fun p => (pgValO x t p).getD 0⟩
def pgOk (x : S125) : Bool :=
 decide (0 ≤ x.f0.f2) && decide (x.f0.f2 ≤ 16) && decide (0 ≤ x.f0.f3) && decide (x.f0.f3 ≤ 16) && decide ((x.f1.length : Int) = x.f0.f3) && decide ((x.f2.length : Int) = x.f0.f2) &&
  (List.range x.f0.f2.toNat).all fun t => (List.range x.f0.f3.toNat).all fun p => (pgKeyO x t p).isSome && (pgValO x t p).isSome
theorem pg_getD {f : Nat → Int} {n i : Nat} (h : i < n) : rd ((List.range n).map f) (i : Int) = f i := by
 simp [rd, List.getD_eq_getElem?_getD, h]
theorem pg_row {f : Nat → List Int} {n i : Nat} (h : i < n) : ((List.range n).map f).getD i [] = f i := by
 simp [List.getD_eq_getElem?_getD, h]
theorem pg_some {o : Option Int} (h : o.isSome = true) : o = some (o.getD 0) := by
 obtain ⟨v, rfl⟩ := Option.isSome_iff_exists.1 h
 rfl
theorem pgMeans {x : S125} (h : pgOk x = true) : PgMeans x (pgSrc x) := by
 simp only [pgOk, Bool.and_eq_true, decide_eq_true_eq, List.all_eq_true, List.mem_range] at h
 obtain ⟨⟨⟨⟨⟨⟨h0, h1⟩, h2⟩, h3⟩, h4⟩, h5⟩, h6⟩ := h
 refine ⟨h1, h3, h4, h5, by simp [pgSrc]; omega, by simp [pgSrc], fun t ht => ?_, fun t ht => ?_, fun t p ht hp => ?_, fun t p ht hp => ?_⟩
 ·simp only [pgSrc, List.length_map, List.length_range] at ht
  simp only [pgSrc]
  rw [pg_row ht]
  simp
  omega
 ·simp only [pgSrc, List.length_map, List.length_range] at ht
  simp only [pgSrc]
  rw [pg_row ht]
  simp
  omega
 ·simp only [pgSrc, List.length_map, List.length_range] at ht
  have hp' : p < x.f0.f3.toNat := by omega
  simp only [pgSrc]
  rw [pg_row ht, pg_getD hp']
  exact pg_some (h6 t ht p hp').1
 ·simp only [pgSrc, List.length_map, List.length_range] at ht
  have hp' : p < x.f0.f3.toNat := by omega
  simp only [pgSrc]
  rw [pg_row ht, pg_getD hp']
  exact pg_some (h6 t ht p hp').2
def pgOk1 (p : List S125) : Bool := match p with | [x] => pgOk x | _ => false
def pgSrc1 (p : List S125) : attn_Src := match p with | x :: _ => pgSrc x | [] => ⟨[], []⟩
theorem pgOk1_at {ps : List (List S125)} (h : ps.all pgOk1 = true) (j : Nat) (hj : j < ps.length) : ∃ x, ps.getD j [] = [x] ∧ pgOk x = true ∧ (ps.map pgSrc1).getD j ⟨[], []⟩ = pgSrc x := by
 rw [List.all_eq_true] at h
 have hm := h ps[j] (List.getElem_mem hj)
 have e : ps.getD j [] = ps[j] := by rw [List.getD_eq_getElem?_getD, List.getElem?_eq_getElem hj]; rfl
 have e2 : (ps.map pgSrc1).getD j ⟨[], []⟩ = pgSrc1 ps[j] := by rw [List.getD_eq_getElem?_getD, List.getElem?_map, List.getElem?_eq_getElem hj]; rfl
 rw [e, e2]
 match hp : ps[j], hm with
 | [x], hm => exact ⟨x, rfl, by simpa [pgOk1] using hm, rfl⟩
def attn_FusedP.f (k : Nat) (q : List Int) (ps : List (List S125)) (keys vals : List (List Int)) : Option (List Int × Int) :=
 (attn_rightP.f k q ps keys vals).bind fun e => if e = 0 then
  if ps.all pgOk1 = true ∧ ps.length ≤ 900000 ∧ (attn_keys (ps.map pgSrc1 ++ [⟨keys, vals⟩])).length ≤ 1000000 ∧ keys.length = vals.length ∧ 1 ≤ q.length ∧ q.length ≤ 1000000 then
   (attn_cut.f k q).bind fun q2 => (attn_scores.l k q2 (attn_keys (ps.map pgSrc1 ++ [⟨keys, vals⟩])) []).bind fun sc => (soft_Weights.f k sc).bind fun we => if we.2 = 0 then
    (attn_gather.l k we.1 (attn_vals (ps.map pgSrc1 ++ [⟨keys, vals⟩])) q.length).bind fun r => some (r, 0) else some ([], we.2)
  else none
 else some ([], e)
theorem pg_srcs_len (ps : List (List S125)) (s : attn_Src) : (ps.map pgSrc1 ++ [s]).length = ps.length + 1 := by simp
theorem attn_FusedP.calls (k : Nat) (Aq : Option Addr) (cq : Nat) (q : List Int) (Ap : Option Addr) (cp : Nat) (ps : List (List S125)) (Ak : Option Addr) (ck : Nat) (keys : List (List Int)) (Av : Option Addr) (cv : Nat) (vals : List (List Int)) (r1 : List Int) (r2 : Int) (w : World)
  (hq : Kd.C (Kd.int .i32) w Aq q.length q) (hcq : q.length ≤ cq) (hp : Kd.C (Kd.ptr 125 k125) w Ap ps.length ps) (hcp : ps.length ≤ cp) (hk : Kd.C (Kd.slice 21 (Kd.int .i32)) w Ak keys.length keys) (hck : keys.length ≤ ck) (hv : Kd.C (Kd.slice 21 (Kd.int .i32)) w Av vals.length vals) (hcv : vals.length ≤ cv)
  (h : attn_FusedP.f k q ps keys vals = some (r1, r2)) :
  Calls Try.prog 22 #[.slice Aq q.length cq, .slice Ap ps.length cp, .slice Ak keys.length ck, .slice Av vals.length cv] w fun e w' => ∃ v0_ : Value, e = .returned (.tuple #[v0_, .int .i64 r2]) ∧ Kd.R (Kd.int .i32) 21 w' w.heap.size (fun _ => True) v0_ r1 ∧ Below w.heap.size w w' := by
 obtain ⟨e, he, h⟩ := Option.bind_eq_some_iff.1 h
 have HQ := Aside0.mk hq
 have HCQ := Aside0.mk hcq
 have HP := Aside0.mk hp
 have HCP := Aside0.mk hcp
 have HK := Aside0.mk hk
 have HV := Aside0.mk hv
 have HCK := Aside0.mk hck
 have HCV := Aside0.mk hcv
 have HE := Aside0.mk he
 clear hq hcq hp hcp hk hv hck hcv he
 by_cases c1 : e = 0
 ·rw [if_pos c1] at h
  subst c1
  by_cases c0 : ps.all pgOk1 = true ∧ ps.length ≤ 900000 ∧ (attn_keys (ps.map pgSrc1 ++ [⟨keys, vals⟩])).length ≤ 1000000 ∧ keys.length = vals.length ∧ 1 ≤ q.length ∧ q.length ≤ 1000000
  rotate_left
  ·rw [if_neg c0] at h
   exact absurd h (by simp)
  rw [if_pos c0] at h
  obtain ⟨hok, hpl, hkl, hsame, hq1, hq2'⟩ := c0
  have HOK := Aside0.mk hok
  have HPL := Aside0.mk hpl
  have HKL := Aside0.mk hkl
  have HSAME := Aside0.mk hsame
  clear hok hpl hkl hsame
  obtain ⟨q2, hq2, h⟩ := Option.bind_eq_some_iff.1 h
  obtain ⟨sc, hsc, h⟩ := Option.bind_eq_some_iff.1 h
  obtain ⟨⟨ws, e2⟩, hwe, h⟩ := Option.bind_eq_some_iff.1 h
  have H1 := Aside0.mk hq2
  have H2 := Aside0.mk hsc
  have H3 := Aside0.mk hwe
  have H4 := Aside0.mk h
  have HSL := Aside0.mk (attn_scores.len hsc)
  clear hq2 hsc hwe h
  go_enter Try.func22, Try.ntmps22
  go_wp2_with fail
  refine (attn_rightP.calls k Aq cq q Ap cp ps Ak ck keys Av cv vals 0 _ HQ.out HCQ.out HP.out HCP.out HK.out HCK.out HV.out HCV.out HE.out).mono ?_
  rintro e' w1 ⟨rfl, hb1⟩
  have HB1 := Aside0.mk hb1
  clear hb1
  go_wp2
  go_loopw [11, 26] (fun v i wr => ∃ (j : Nat) (vs : List Value), j ≤ ps.length ∧ i = .int .i64 j ∧ Aside0 (vs.length = j) ∧ Aside0 (wr.ownsRow w.heap.size 110 1 v vs.length vs) ∧ Aside0 (∀ n : Nat, n < j → ∃ A x, vs.getD n undef = .iface 79 (.agg #[.pointer A]) ∧ ps.getD n [] = [x] ∧ PgK w A x) ∧ Aside0 (Below w.heap.size w wr)) (fun _ i _ => ps.length - (intOf i).toNat)
  case atStart => exact ⟨0, [], Nat.zero_le _, rfl, ⟨rfl⟩, ⟨own_nil _ _ _ _⟩, ⟨fun n hn => absurd hn (Nat.not_lt_zero n)⟩, HB1⟩
  case round =>
   clear HB1
   obtain ⟨j, vs, hj, rfl, HVL, HOWN, HPG, HB⟩ := hrel
   have hpb : ps.length ≤ 900000 := HPL.out
   by_cases hlt : j < ps.length
   ·obtain ⟨x, hx, hxok, -⟩ := pgOk1_at HOK.out j hlt
    obtain ⟨ad, B, rfl, hc, hkp⟩ := Kd.at_ptr HP.out j hlt
    rw [hx] at hkp
    have HX := Aside0.mk hx
    have HKP := Aside0.mk hkp
    replace hc := pw_cell_below HB.out hc
    clear hx hkp hxok
    go_wp2_with ((with_reducible refine gate_builtin (b := .append) rfl ?_); at_builtin; refine print_append (w0 := w) w.heap.size rfl _ _ 77 110 .nilIface 16 rfl Try.underlying77 attn_Fused.infoSrc rfl (by decide) u11 vs (.iface 79 (.agg #[.pointer B])) rfl rfl rfl HOWN.out HB.out HB.out.size (by have h1_ := HVL.out; have h2_ := HPL.out; omega) ?_; intro v11 w11 hown hb11 hg11 hat11)
    have HOWN2 := Aside0.mk hown
    have HB11 := Aside0.mk hb11
    clear hown hb11 hg11 hat11
    go_roundw
    case rel =>
     refine ⟨j + 1, vs ++ [.iface 79 (.agg #[.pointer B])], by omega, by go_num, ⟨by rw [List.length_append, HVL.out]; rfl⟩, HOWN2, ⟨fun n hn => ?_⟩, HB11⟩
     by_cases hnj : n < j
     ·obtain ⟨A, x', hv', hx', hk'⟩ := HPG.out n hnj
      refine ⟨A, x', ?_, hx', hk'⟩
      rw [← hv', List.getD_eq_getElem?_getD, List.getD_eq_getElem?_getD, List.getElem?_append_left (by rw [HVL.out]; exact hnj)]
     ·obtain rfl : n = j := by omega
      refine ⟨B, x, ?_, HX.out, HKP.out⟩
      rw [List.getD_eq_getElem?_getD, List.getElem?_append_right (by rw [HVL.out]; exact Nat.le_refl _), HVL.out, Nat.sub_self]
      rfl
    case measure => simp [intOf]; omega
   ·obtain rfl : j = ps.length := by omega
    go_wp2_with ((with_reducible refine gate_builtin (b := .append) rfl ?_); at_builtin; refine print_append (w0 := w) w.heap.size rfl _ _ 77 110 .nilIface 16 rfl Try.underlying77 attn_Fused.infoSrc rfl (by decide) u11 vs (.iface 81 (.agg #[.slice Ak keys.length ck, .slice Av vals.length cv])) rfl rfl rfl HOWN.out HB.out HB.out.size (by have h1_ := HVL.out; have h2_ := HPL.out; omega) ?_; intro v11 w11 hown hb11 hg11 hat11)
    have hvl2 : (vs ++ [Value.iface 81 (.agg #[.slice Ak keys.length ck, .slice Av vals.length cv])]).length = ps.length + 1 := by rw [List.length_append, HVL.out]; rfl
    obtain ⟨g11, c11, rfl, -, -⟩ := hown.form (by rw [hvl2]; omega)
    rw [hvl2] at hown
    have hsrc : ∀ W, Below w11.heap.size w11 W → attn_SrcsP W (some ⟨g11, 0, none⟩) (ps.map pgSrc1 ++ [⟨keys, vals⟩]) := fun W hb => by
     have hbw : Below w.heap.size w W := hb11.trans (hb.mono hb11.size)
     refine ⟨vs ++ [.iface 81 (.agg #[.slice Ak keys.length ck, .slice Av vals.length cv])], by rw [hvl2, pg_srcs_len], fun n hn => ?_, fun n hn => ?_⟩
     ·refine ⟨_, rfl, pw_cell_below hb ?_⟩
      have hq_ := hown.cells (g := g11) rfl n _ (List.getElem?_eq_getElem hn)
      rw [List.getD_eq_getElem?_getD, List.getElem?_eq_getElem hn]
      by_cases h0 : n = 0
      ·subst h0
       simpa [Addr.add] using hq_
      ·simpa [Addr.add, h0] using hq_
     ·rw [pg_srcs_len] at hn
      by_cases hnj : n < ps.length
      ·obtain ⟨A, x, hv', hx', hk'⟩ := HPG.out n hnj
       obtain ⟨x2, hx2, hxok, hsr⟩ := pgOk1_at HOK.out n hnj
       obtain rfl : x = x2 := by rw [hx'] at hx2; simpa using hx2
       rw [List.getD_eq_getElem?_getD, List.getElem?_append_left (by rw [HVL.out]; exact hnj), ← List.getD_eq_getElem?_getD, hv', List.getD_eq_getElem?_getD, List.getElem?_append_left (by simpa using hnj), ← List.getD_eq_getElem?_getD, hsr]
       exact .inr ⟨A, x, rfl, PgK.below hk' hbw, pgMeans hxok⟩
      ·obtain rfl : n = ps.length := by omega
       rw [List.getD_eq_getElem?_getD, List.getElem?_append_right (by rw [HVL.out]; exact Nat.le_refl _), HVL.out, Nat.sub_self, List.getD_eq_getElem?_getD, List.getElem?_append_right (by simp), List.length_map, Nat.sub_self]
       exact .inl ⟨Ak, ck, Av, cv, rfl, HCK.out, HCV.out, Kd.C_below HK.out hbw, Kd.C_below HV.out hbw⟩
    have HSRC := Aside0.mk hsrc
    have HB11 := Aside0.mk hb11
    clear hsrc hown hb11 hg11 hat11
    rw [hvl2]
    clear hvl2
    refine (attn_cut.calls k Aq cq q q2 _ (Kd.C_below HQ.out HB11.out) HCQ.out H1.out).mono ?_
    rintro e' w12 ⟨vq, rfl, hRq, hb12⟩
    obtain ⟨Aq2, cq2, rfl, hlq2, hCq⟩ := Kd.R_reads hRq
    have HQ2 := Aside0.mk hCq
    have HB12 := Aside0.mk hb12
    clear hRq hCq hb12 hlq2
    go_wp2_with fail
    have hsc2 := attn_scoresP.calls k Aq2 cq2 q2 (some ⟨g11, 0, none⟩) c11 (ps.map pgSrc1 ++ [⟨keys, vals⟩]) sc w12 HQ2.out (HSRC.out _ HB12.out) (by rw [pg_srcs_len]; have := HPL.out; omega) (by have h1_ := HSL.out; have h2_ := HKL.out; simp only [List.length_nil, Nat.zero_add] at h1_; omega) H2.out
    rw [pg_srcs_len] at hsc2
    refine hsc2.mono ?_
    clear hsc2
    rintro e' w13 ⟨vs', rfl, hRs, hb13⟩
    obtain ⟨As, cs, rfl, hls, hCs⟩ := Kd.R_reads hRs
    have HCs := Aside0.mk hCs
    have HLs := Aside0.mk hls
    have HB13 := Aside0.mk (HB12.out.trans (hb13.mono HB12.out.size))
    clear hRs hCs hb13 hls
    go_wp2_with fail
    refine (soft_Weights.calls k As cs sc ws e2 _ HCs.out HLs.out H3.out).mono ?_
    rintro e' w14 ⟨vw, rfl, hRw, hb14⟩
    obtain ⟨Aw, cw, rfl, hlw, hCw⟩ := Kd.R_reads hRw
    have HCw := Aside0.mk hCw
    have HLw := Aside0.mk hlw
    have HB14 := Aside0.mk (HB13.out.trans (hb14.mono HB13.out.size))
    clear hRw hCw hb14 hlw
    have HBA := Aside0.mk (HB11.out.trans (HB14.out.mono HB11.out.size))
    by_cases c2 : e2 = 0
    ·subst c2
     have H5 := H4.out
     rw [if_pos rfl] at H5
     obtain ⟨r, hr, H5⟩ := Option.bind_eq_some_iff.1 H5
     obtain ⟨rfl, rfl⟩ := Prod.mk.inj (Option.some.inj H5)
     have HR := Aside0.mk hr
     clear hr H5 H4
     go_wp2_with fail
     have hga := attn_gatherP.calls k Aw cw ws (some ⟨g11, 0, none⟩) c11 (ps.map pgSrc1 ++ [⟨keys, vals⟩]) q.length r w14 HCw.out HLw.out (HSRC.out _ HB14.out) (by
      intro s hs
      rcases List.mem_append.1 hs with hs | hs
      ·obtain ⟨p, -, rfl⟩ := List.mem_map.1 hs
       unfold pgSrc1
       split <;> simp [pgSrc]
      ·rw [List.mem_singleton.1 hs]; exact HSAME.out) (by rw [pg_srcs_len]; have := HPL.out; omega) hq1 hq2' HR.out
     rw [pg_srcs_len] at hga
     refine hga.mono ?_
     clear hga
     rintro e' w15 ⟨vr, rfl, hRr, hb15⟩
     have hRr2 := Kd.R_lower hRr HBA.out.size
     have hbz := HBA.out.trans (hb15.mono HBA.out.size)
     have HRR := Aside0.mk hRr2
     have HBZ := Aside0.mk hbz
     clear hRr hRr2 hbz hb15
     go_wp2
     go_ret2
     exact ⟨_, rfl, HRR.out, HBZ.out⟩
    ·have H5 := H4.out
     rw [if_neg c2] at H5
     obtain ⟨rfl, rfl⟩ := Prod.mk.inj (Option.some.inj H5)
     clear H5 H4
     have c2b : (e2 != 0) = true := by rw [bne_iff_ne]; exact c2
     clear c2
     go_wp2
     go_ret2
     exact ⟨_, rfl, Kd.R_nil _ _ _ _ _, HBA.out⟩
 ·rw [if_neg c1] at h
  obtain ⟨rfl, rfl⟩ := Prod.mk.inj (Option.some.inj h)
  have c1b : (e != 0) = true := by rw [bne_iff_ne]; exact c1
  clear c1 h
  go_enter Try.func22, Try.ntmps22
  go_wp2_with fail
  refine (attn_rightP.calls k Aq cq q Ap cp ps Ak ck keys Av cv vals e _ HQ.out HCQ.out HP.out HCP.out HK.out HCK.out HV.out HCV.out HE.out).mono ?_
  rintro e' w1 ⟨rfl, hb1⟩
  have HB1 := Aside0.mk hb1
  clear hb1
  go_wp2
  go_ret2
  exact ⟨_, rfl, Kd.R_nil _ _ _ _ _, HB1.out⟩
end Go.Proofs.Yteflolamihhmdaa.Q

namespace Go.Proofs.Yteflolamihhmdaa.Q
open Go.RowKit Go.Proofs.YteflolamihhmdaaW.PrintWords Go.Proofs.YteflolamihhmdaaW.PrintLast Go.Proofs.YteflolamihhmdaaW.PrintMore
attribute [local go_sem] max2_int min2_int max_two min_two max_three min_three max_four min_four
def page_Right.f (a0_0 : Int) (a0_1 : Int) (a0_2 : Int) (a0_3 : Int) (a0_4 : Int) (a0_5 : Int) (a0_6 : Int) : Option (Bool) := (pack_Bits.f a0_0).bind fun t345 => (if t345 = true then ((pack_Bits.f a0_1).bind fun t346 => (if t346 = true then ((page_within.f a0_2 1 16).bind fun t347 => (if t347 = true then ((page_within.f a0_3 1 16).bind fun t348 => (if t348 = true then ((page_within.f a0_4 0 3).bind fun t349 => (if t349 = true then ((page_within.f a0_5 0 3).bind fun t350 => (if t350 = true then ((page_within.f a0_6 0 1023).bind fun t351 => (some t351)) else (some false))) else (some false))) else (some false))) else (some false))) else (some false))) else (some false))
theorem page_Right.calls (a0_0 : Int) (a0_1 : Int) (a0_2 : Int) (a0_3 : Int) (a0_4 : Int) (a0_5 : Int) (a0_6 : Int) (r : Bool) (w : World) (h : page_Right.f a0_0 a0_1 a0_2 a0_3 a0_4 a0_5 a0_6 = some r) :
  Calls Try.prog 56 #[.agg #[.int .i64 a0_0, .int .i64 a0_1, .int .i64 a0_2, .int .i64 a0_3, .int .i64 a0_4, .int .i64 a0_5, .int .i64 a0_6]] w fun e w' => e = .returned (.bool r) ∧ Below w.heap.size w w' := by
 have hu53 := Try.underlying53
 have HB := A_ (Below.refl w.heap.size w)
 have H := h
 unfold page_Right.f at H
 clear h
 replace H := ob_ H
 obtain ⟨t345, A2, H⟩ := H
 try dsimp only at H
 by_cases c3 : t345 = true
 ·subst c3
  replace H : ((pack_Bits.f a0_1).bind fun t346 => (if t346 = true then ((page_within.f a0_2 1 16).bind fun t347 => (if t347 = true then ((page_within.f a0_3 1 16).bind fun t348 => (if t348 = true then ((page_within.f a0_4 0 3).bind fun t349 => (if t349 = true then ((page_within.f a0_5 0 3).bind fun t350 => (if t350 = true then ((page_within.f a0_6 0 1023).bind fun t351 => (some t351)) else (some false))) else (some false))) else (some false))) else (some false))) else (some false))) = some r := by rw [if_pos rfl] at H; exact H
  replace H := ob_ H
  obtain ⟨t346, A4, H⟩ := H
  try dsimp only at H
  by_cases c5 : t346 = true
  ·subst c5
   replace H : ((page_within.f a0_2 1 16).bind fun t347 => (if t347 = true then ((page_within.f a0_3 1 16).bind fun t348 => (if t348 = true then ((page_within.f a0_4 0 3).bind fun t349 => (if t349 = true then ((page_within.f a0_5 0 3).bind fun t350 => (if t350 = true then ((page_within.f a0_6 0 1023).bind fun t351 => (some t351)) else (some false))) else (some false))) else (some false))) else (some false))) = some r := by rw [if_pos rfl] at H; exact H
   replace H := ob_ H
   obtain ⟨t347, A6, H⟩ := H
   try dsimp only at H
   by_cases c7 : t347 = true
   ·subst c7
    replace H : ((page_within.f a0_3 1 16).bind fun t348 => (if t348 = true then ((page_within.f a0_4 0 3).bind fun t349 => (if t349 = true then ((page_within.f a0_5 0 3).bind fun t350 => (if t350 = true then ((page_within.f a0_6 0 1023).bind fun t351 => (some t351)) else (some false))) else (some false))) else (some false))) = some r := by rw [if_pos rfl] at H; exact H
    replace H := ob_ H
    obtain ⟨t348, A8, H⟩ := H
    try dsimp only at H
    by_cases c9 : t348 = true
    ·subst c9
     replace H : ((page_within.f a0_4 0 3).bind fun t349 => (if t349 = true then ((page_within.f a0_5 0 3).bind fun t350 => (if t350 = true then ((page_within.f a0_6 0 1023).bind fun t351 => (some t351)) else (some false))) else (some false))) = some r := by rw [if_pos rfl] at H; exact H
     replace H := ob_ H
     obtain ⟨t349, A10, H⟩ := H
     try dsimp only at H
     by_cases c11 : t349 = true
     ·subst c11
      replace H : ((page_within.f a0_5 0 3).bind fun t350 => (if t350 = true then ((page_within.f a0_6 0 1023).bind fun t351 => (some t351)) else (some false))) = some r := by rw [if_pos rfl] at H; exact H
      replace H := ob_ H
      obtain ⟨t350, A12, H⟩ := H
      try dsimp only at H
      by_cases c13 : t350 = true
      ·subst c13
       replace H : ((page_within.f a0_6 0 1023).bind fun t351 => (some t351)) = some r := by rw [if_pos rfl] at H; exact H
       replace H := ob_ H
       obtain ⟨t351, A14, H⟩ := H
       try dsimp only at H
       obtain rfl := Option.some.inj H
       go_enter Try.func56, Try.ntmps56
       go_wp2_with (first | (refine box_event rfl (N := 1) rfl (cs := #[.int .i64 a0_0, .int .i64 a0_1, .int .i64 a0_2, .int .i64 a0_3, .int .i64 a0_4, .int .i64 a0_5, .int .i64 a0_6]) (t := 53) ?hr ?_; (case hr => first | (go_simp; done) | (go_simp; rfl)); intro gb344 hg w15 hbox hb; have BK344 := A_ hbox; have GW344 := A_ (gw_ w hg); have GE344 := A_ (gw_ w hg); replace HB := A_ (below_step bl_ hb); clear hb hbox hg; have ⟨_, _, _, _, _, _, _, _, _, _, _, _, _, _⟩ := k7_ BK344.out) | (refine goesL_ (some 5) rfl rfl Try.func74 (by kernel_rfl) rfl #[.int .i64 a0_0] rfl ar_ ?_; (with_reducible refine (pack_Bits.calls a0_0 true _ A2.out).mono ?_); rintro e w' ⟨rfl, ⟨nd, rfl⟩⟩; refine ⟨_, rfl, ?_⟩) | (go_at_call 74; (with_reducible refine (pack_Bits.calls a0_1 true _ A4.out).mono ?_); rintro e w' ⟨rfl, ⟨nd, rfl⟩⟩) | (go_at_call 75; (with_reducible refine (page_within.calls a0_2 1 16 true _ A6.out).mono ?_); rintro e w' ⟨rfl, ⟨nd, rfl⟩⟩) | (go_at_call 75; (with_reducible refine (page_within.calls a0_3 1 16 true _ A8.out).mono ?_); rintro e w' ⟨rfl, ⟨nd, rfl⟩⟩) | (go_at_call 75; (with_reducible refine (page_within.calls a0_4 0 3 true _ A10.out).mono ?_); rintro e w' ⟨rfl, ⟨nd, rfl⟩⟩) | (go_at_call 75; (with_reducible refine (page_within.calls a0_5 0 3 true _ A12.out).mono ?_); rintro e w' ⟨rfl, ⟨nd, rfl⟩⟩) | (go_at_call 75; (with_reducible refine (page_within.calls a0_6 0 1023 t351 _ A14.out).mono ?_); rintro e w' ⟨rfl, ⟨nd, rfl⟩⟩))
       go_ret
       exact ⟨ew_, bl_⟩
      ·replace c13 := Bool.eq_false_iff.mpr c13
       subst c13
       replace H : (some false) = some r := by rw [if_neg (show ¬ (false = true) by decide)] at H; exact H
       obtain rfl := Option.some.inj H
       go_enter Try.func56, Try.ntmps56
       go_wp2_with (first | (refine box_event rfl (N := 1) rfl (cs := #[.int .i64 a0_0, .int .i64 a0_1, .int .i64 a0_2, .int .i64 a0_3, .int .i64 a0_4, .int .i64 a0_5, .int .i64 a0_6]) (t := 53) ?hr ?_; (case hr => first | (go_simp; done) | (go_simp; rfl)); intro gb344 hg w17 hbox hb; have BK344 := A_ hbox; have GW344 := A_ (gw_ w hg); have GE344 := A_ (gw_ w hg); replace HB := A_ (below_step bl_ hb); clear hb hbox hg; have ⟨_, _, _, _, _, _, _, _, _, _, _, _, _, _⟩ := k7_ BK344.out) | (refine goesL_ (some 5) rfl rfl Try.func74 (by kernel_rfl) rfl #[.int .i64 a0_0] rfl ar_ ?_; (with_reducible refine (pack_Bits.calls a0_0 true _ A2.out).mono ?_); rintro e w' ⟨rfl, ⟨nd, rfl⟩⟩; refine ⟨_, rfl, ?_⟩) | (go_at_call 74; (with_reducible refine (pack_Bits.calls a0_1 true _ A4.out).mono ?_); rintro e w' ⟨rfl, ⟨nd, rfl⟩⟩) | (go_at_call 75; (with_reducible refine (page_within.calls a0_2 1 16 true _ A6.out).mono ?_); rintro e w' ⟨rfl, ⟨nd, rfl⟩⟩) | (go_at_call 75; (with_reducible refine (page_within.calls a0_3 1 16 true _ A8.out).mono ?_); rintro e w' ⟨rfl, ⟨nd, rfl⟩⟩) | (go_at_call 75; (with_reducible refine (page_within.calls a0_4 0 3 true _ A10.out).mono ?_); rintro e w' ⟨rfl, ⟨nd, rfl⟩⟩) | (go_at_call 75; (with_reducible refine (page_within.calls a0_5 0 3 false _ A12.out).mono ?_); rintro e w' ⟨rfl, ⟨nd, rfl⟩⟩))
       go_ret
       exact ⟨ew_, bl_⟩
     ·replace c11 := Bool.eq_false_iff.mpr c11
      subst c11
      replace H : (some false) = some r := by rw [if_neg (show ¬ (false = true) by decide)] at H; exact H
      obtain rfl := Option.some.inj H
      go_enter Try.func56, Try.ntmps56
      go_wp2_with (first | (refine box_event rfl (N := 1) rfl (cs := #[.int .i64 a0_0, .int .i64 a0_1, .int .i64 a0_2, .int .i64 a0_3, .int .i64 a0_4, .int .i64 a0_5, .int .i64 a0_6]) (t := 53) ?hr ?_; (case hr => first | (go_simp; done) | (go_simp; rfl)); intro gb344 hg w19 hbox hb; have BK344 := A_ hbox; have GW344 := A_ (gw_ w hg); have GE344 := A_ (gw_ w hg); replace HB := A_ (below_step bl_ hb); clear hb hbox hg; have ⟨_, _, _, _, _, _, _, _, _, _, _, _, _, _⟩ := k7_ BK344.out) | (refine goesL_ (some 5) rfl rfl Try.func74 (by kernel_rfl) rfl #[.int .i64 a0_0] rfl ar_ ?_; (with_reducible refine (pack_Bits.calls a0_0 true _ A2.out).mono ?_); rintro e w' ⟨rfl, ⟨nd, rfl⟩⟩; refine ⟨_, rfl, ?_⟩) | (go_at_call 74; (with_reducible refine (pack_Bits.calls a0_1 true _ A4.out).mono ?_); rintro e w' ⟨rfl, ⟨nd, rfl⟩⟩) | (go_at_call 75; (with_reducible refine (page_within.calls a0_2 1 16 true _ A6.out).mono ?_); rintro e w' ⟨rfl, ⟨nd, rfl⟩⟩) | (go_at_call 75; (with_reducible refine (page_within.calls a0_3 1 16 true _ A8.out).mono ?_); rintro e w' ⟨rfl, ⟨nd, rfl⟩⟩) | (go_at_call 75; (with_reducible refine (page_within.calls a0_4 0 3 false _ A10.out).mono ?_); rintro e w' ⟨rfl, ⟨nd, rfl⟩⟩))
      go_ret
      exact ⟨ew_, bl_⟩
    ·replace c9 := Bool.eq_false_iff.mpr c9
     subst c9
     replace H : (some false) = some r := by rw [if_neg (show ¬ (false = true) by decide)] at H; exact H
     obtain rfl := Option.some.inj H
     go_enter Try.func56, Try.ntmps56
     go_wp2_with (first | (refine box_event rfl (N := 1) rfl (cs := #[.int .i64 a0_0, .int .i64 a0_1, .int .i64 a0_2, .int .i64 a0_3, .int .i64 a0_4, .int .i64 a0_5, .int .i64 a0_6]) (t := 53) ?hr ?_; (case hr => first | (go_simp; done) | (go_simp; rfl)); intro gb344 hg w21 hbox hb; have BK344 := A_ hbox; have GW344 := A_ (gw_ w hg); have GE344 := A_ (gw_ w hg); replace HB := A_ (below_step bl_ hb); clear hb hbox hg; have ⟨_, _, _, _, _, _, _, _, _, _, _, _, _, _⟩ := k7_ BK344.out) | (refine goesL_ (some 5) rfl rfl Try.func74 (by kernel_rfl) rfl #[.int .i64 a0_0] rfl ar_ ?_; (with_reducible refine (pack_Bits.calls a0_0 true _ A2.out).mono ?_); rintro e w' ⟨rfl, ⟨nd, rfl⟩⟩; refine ⟨_, rfl, ?_⟩) | (go_at_call 74; (with_reducible refine (pack_Bits.calls a0_1 true _ A4.out).mono ?_); rintro e w' ⟨rfl, ⟨nd, rfl⟩⟩) | (go_at_call 75; (with_reducible refine (page_within.calls a0_2 1 16 true _ A6.out).mono ?_); rintro e w' ⟨rfl, ⟨nd, rfl⟩⟩) | (go_at_call 75; (with_reducible refine (page_within.calls a0_3 1 16 false _ A8.out).mono ?_); rintro e w' ⟨rfl, ⟨nd, rfl⟩⟩))
     go_ret
     exact ⟨ew_, bl_⟩
   ·replace c7 := Bool.eq_false_iff.mpr c7
    subst c7
    replace H : (some false) = some r := by rw [if_neg (show ¬ (false = true) by decide)] at H; exact H
    obtain rfl := Option.some.inj H
    go_enter Try.func56, Try.ntmps56
    go_wp2_with (first | (refine box_event rfl (N := 1) rfl (cs := #[.int .i64 a0_0, .int .i64 a0_1, .int .i64 a0_2, .int .i64 a0_3, .int .i64 a0_4, .int .i64 a0_5, .int .i64 a0_6]) (t := 53) ?hr ?_; (case hr => first | (go_simp; done) | (go_simp; rfl)); intro gb344 hg w23 hbox hb; have BK344 := A_ hbox; have GW344 := A_ (gw_ w hg); have GE344 := A_ (gw_ w hg); replace HB := A_ (below_step bl_ hb); clear hb hbox hg; have ⟨_, _, _, _, _, _, _, _, _, _, _, _, _, _⟩ := k7_ BK344.out) | (refine goesL_ (some 5) rfl rfl Try.func74 (by kernel_rfl) rfl #[.int .i64 a0_0] rfl ar_ ?_; (with_reducible refine (pack_Bits.calls a0_0 true _ A2.out).mono ?_); rintro e w' ⟨rfl, ⟨nd, rfl⟩⟩; refine ⟨_, rfl, ?_⟩) | (go_at_call 74; (with_reducible refine (pack_Bits.calls a0_1 true _ A4.out).mono ?_); rintro e w' ⟨rfl, ⟨nd, rfl⟩⟩) | (go_at_call 75; (with_reducible refine (page_within.calls a0_2 1 16 false _ A6.out).mono ?_); rintro e w' ⟨rfl, ⟨nd, rfl⟩⟩))
    go_ret
    exact ⟨ew_, bl_⟩
  ·replace c5 := Bool.eq_false_iff.mpr c5
   subst c5
   replace H : (some false) = some r := by rw [if_neg (show ¬ (false = true) by decide)] at H; exact H
   obtain rfl := Option.some.inj H
   go_enter Try.func56, Try.ntmps56
   go_wp2_with (first | (refine box_event rfl (N := 1) rfl (cs := #[.int .i64 a0_0, .int .i64 a0_1, .int .i64 a0_2, .int .i64 a0_3, .int .i64 a0_4, .int .i64 a0_5, .int .i64 a0_6]) (t := 53) ?hr ?_; (case hr => first | (go_simp; done) | (go_simp; rfl)); intro gb344 hg w25 hbox hb; have BK344 := A_ hbox; have GW344 := A_ (gw_ w hg); have GE344 := A_ (gw_ w hg); replace HB := A_ (below_step bl_ hb); clear hb hbox hg; have ⟨_, _, _, _, _, _, _, _, _, _, _, _, _, _⟩ := k7_ BK344.out) | (refine goesL_ (some 5) rfl rfl Try.func74 (by kernel_rfl) rfl #[.int .i64 a0_0] rfl ar_ ?_; (with_reducible refine (pack_Bits.calls a0_0 true _ A2.out).mono ?_); rintro e w' ⟨rfl, ⟨nd, rfl⟩⟩; refine ⟨_, rfl, ?_⟩) | (go_at_call 74; (with_reducible refine (pack_Bits.calls a0_1 false _ A4.out).mono ?_); rintro e w' ⟨rfl, ⟨nd, rfl⟩⟩))
   go_ret
   exact ⟨ew_, bl_⟩
 ·replace c3 := Bool.eq_false_iff.mpr c3
  subst c3
  replace H : (some false) = some r := by rw [if_neg (show ¬ (false = true) by decide)] at H; exact H
  obtain rfl := Option.some.inj H
  go_enter Try.func56, Try.ntmps56
  go_wp2_with (first | (refine box_event rfl (N := 1) rfl (cs := #[.int .i64 a0_0, .int .i64 a0_1, .int .i64 a0_2, .int .i64 a0_3, .int .i64 a0_4, .int .i64 a0_5, .int .i64 a0_6]) (t := 53) ?hr ?_; (case hr => first | (go_simp; done) | (go_simp; rfl)); intro gb344 hg w27 hbox hb; have BK344 := A_ hbox; have GW344 := A_ (gw_ w hg); have GE344 := A_ (gw_ w hg); replace HB := A_ (below_step bl_ hb); clear hb hbox hg; have ⟨_, _, _, _, _, _, _, _, _, _, _, _, _, _⟩ := k7_ BK344.out) | (refine goesL_ (some 5) rfl rfl Try.func74 (by kernel_rfl) rfl #[.int .i64 a0_0] rfl ar_ ?_; (with_reducible refine (pack_Bits.calls a0_0 false _ A2.out).mono ?_); rintro e w' ⟨rfl, ⟨nd, rfl⟩⟩; refine ⟨_, rfl, ?_⟩))
  go_ret
  exact ⟨ew_, bl_⟩
def page_codes.l0 : Nat → List (S100) → Int → Int → List (S100) → Int → Int → Option (Bool)
 | 0, _, _, _, _, _, _ => none
 | k + 1, x0, x1, x2, x9, x10, x11 => if x11 < x10 then (if 0 ≤ x11 then (if x11 < (x9.length : Int) then (if (((rd_T100 x9 x11).f2).length : Int) = x2 then (page_codes.l0 k x0 x1 x2 x9 x10 (wrap64 (x11 + 1))) else (some false)) else (none)) else (none)) else (some ((x0.length : Int) == x1))
def page_codes.f (k : Nat) (l0 : List (S100)) (a1 : Int) (a2 : Int) : Option (Bool) := page_codes.l0 k l0 a1 a2 l0 (l0.length : Int) 0
theorem page_codes.calls (k : Nat) (A0 : Option Addr) (c0 : Nat) (l0 : List (S100)) (a1 : Int) (a2 : Int) (r : Bool) (w : World) (hr0 : Kd.C k100 w A0 l0.length l0) (hc0 : l0.length ≤ c0) (h : page_codes.f k l0 a1 a2 = some r) :
  Calls Try.prog 79 #[.slice A0 l0.length c0, .int .i64 a1, .int .i64 a2] w fun e w' => e = .returned (.bool r) ∧ Below w.heap.size w w' := by
 have hu100 := Try.underlying100
 have HR0 := A_ hr0
 have HC0 := A_ hc0
 clear hr0 hc0
 have HB := A_ (Below.refl w.heap.size w)
 have H := h
 unfold page_codes.f at H
 clear h
 have H' := A_ H
 clear H
 go_enter Try.func79, Try.ntmps79
 go_wp2
 go_loopg [11] k (fun kq v11 w' => ∃ (x11_1 : Int), v11 = .int .i64 x11_1 ∧ Aside0 (page_codes.l0 kq l0 a1 a2 l0 (l0.length : Int) x11_1 = some r) ∧ Aside0 (kq ≤ k) ∧ Aside0 (Below w.heap.size w w'))
 case atStart => exact ⟨(0), rs_, H', ⟨Nat.le_refl _⟩, ⟨bl_⟩⟩
 case round =>
  clear H'
  obtain ⟨x11_1, rfl, HA, HK1, HB⟩ := hrel
  cases gk with
  | zero => exact absurd HA.out (by simp [page_codes.l0])
  | succ k1 =>
   have H := HA.out
   clear HA
   simp only [page_codes.l0] at H
   by_cases c4 : x11_1 < (l0.length : Int)
   ·rw [if_pos c4] at H
    have c4b0 : decide (x11_1 < (l0.length : Int)) = true := decide_eq_true c4
    clear c4
    by_cases c5 : 0 ≤ x11_1
    ·rw [if_pos c5] at H
     have c5b0 : decide (0 ≤ x11_1) = true := decide_eq_true c5
     clear c5
     by_cases c6 : x11_1 < (l0.length : Int)
     ·rw [if_pos c6] at H
      have c6b0 : decide (x11_1 < (l0.length : Int)) = true := decide_eq_true c6
      clear c6
      by_cases c7 : (((rd_T100 l0 x11_1).f2).length : Int) = a2
      ·rw [if_pos c7] at H
       have c7b0 : ((((rd_T100 l0 x11_1).f2).length : Int) == a2) = true := beq_iff_eq.mpr c7
       have c7b1 : ((((rd_T100 l0 x11_1).f2).length : Int) != a2) = false := bne_eq_false_iff_eq.mpr c7
       clear c7
       have H' := A_ H
       clear H
       have p367 : 0 ≤ (x11_1 : Int) := od_
       have q367 : x11_1 < (l0.length : Int) := od_
       obtain ⟨ad367, A367_2, c367_2, e367, hx367_0, hx367_1, hx367_2, hl367_2, hi367_2⟩ := at_T100 HR0.out x11_1 p367 q367
       cases e367
       replace hx367_0 := hc_ HB.out hx367_0
       replace hx367_1 := hc_ HB.out hx367_1
       replace hx367_2 := hc_ HB.out hx367_2
       have HR367_2 := A_ hi367_2
       have HC367_2 := A_ hl367_2
       clear hi367_2 hl367_2
       replace p367 := eq_true p367
       replace q367 := eq_true q367
       go_wp2_with (first | (refine box_event rfl (N := 8) rfl (cs := #[.int .i32 0, .int .u32 0, .slice none 0 0]) (t := 100) ?hr ?_; (case hr => first | (go_simp; done) | (go_simp; rfl)); intro gb368 hg w8 hbox hb; have BK368 := A_ hbox; have GW368 := A_ (gw_ w hg); have GE368 := A_ (gw_ w hg); replace HB := A_ (below_step bl_ hb); clear hb hbox hg; have ⟨_, _, _, _, _, _⟩ := k3_ BK368.out))
       go_roundg k1
       case measure => have := HK1.out; omega
       case rel => exact ⟨(wrap64 (x11_1 + 1)), rs_, H', ⟨by have := HK1.out; omega⟩, ⟨bl_⟩⟩
      ·rw [if_neg c7] at H
       have c7b0 : ((((rd_T100 l0 x11_1).f2).length : Int) == a2) = false := beq_eq_false_iff_ne.mpr c7
       have c7b1 : ((((rd_T100 l0 x11_1).f2).length : Int) != a2) = true := bne_iff_ne.mpr c7
       obtain rfl := Option.some.inj H
       have p367 : 0 ≤ (x11_1 : Int) := od_
       have q367 : x11_1 < (l0.length : Int) := od_
       obtain ⟨ad367, A367_2, c367_2, e367, hx367_0, hx367_1, hx367_2, hl367_2, hi367_2⟩ := at_T100 HR0.out x11_1 p367 q367
       cases e367
       replace hx367_0 := hc_ HB.out hx367_0
       replace hx367_1 := hc_ HB.out hx367_1
       replace hx367_2 := hc_ HB.out hx367_2
       have HR367_2 := A_ hi367_2
       have HC367_2 := A_ hl367_2
       clear hi367_2 hl367_2
       replace p367 := eq_true p367
       replace q367 := eq_true q367
       go_wp2_with (first | (refine box_event rfl (N := 8) rfl (cs := #[.int .i32 0, .int .u32 0, .slice none 0 0]) (t := 100) ?hr ?_; (case hr => first | (go_simp; done) | (go_simp; rfl)); intro gb368 hg w10 hbox hb; have BK368 := A_ hbox; have GW368 := A_ (gw_ w hg); have GE368 := A_ (gw_ w hg); replace HB := A_ (below_step bl_ hb); clear hb hbox hg; have ⟨_, _, _, _, _, _⟩ := k3_ BK368.out))
       go_ret
       exact ⟨ew_, bl_⟩
     ·rw [if_neg c6] at H
      exact absurd H (by simp)
    ·rw [if_neg c5] at H
     exact absurd H (by simp)
   ·rw [if_neg c4] at H
    have c4b0 : decide (x11_1 < (l0.length : Int)) = false := decide_eq_false c4
    clear c4
    obtain rfl := Option.some.inj H
    go_wp2
    go_ret
    exact ⟨ew_, bl_⟩
def page_packAll.l0 : Nat → Int → List (S135) → List (S100) → Int → Int → Option ((List (S135)) × Int)
 | 0, _, _, _, _, _ => none
 | k + 1, x1, x6, x12, x13, x14 => if x14 < x13 then (if 0 ≤ x14 then (if x14 < (x12.length : Int) then ((group_Right.f ((rd_T100 x12 x14).f0) ((rd_T100 x12 x14).f1) ((rd_T100 x12 x14).f2) x1).bind fun t373 => (if t373 = 0 then ((pack_Pack.f ((rd_T100 x12 x14).f2) x1).bind fun bt374 => (if bt374.2 = 0 then (if x6.length < 2513169434916 then (page_packAll.l0 k x1 (x6 ++ [(⟨(⟨(rd_T100 x12 x14).f0, (rd_T100 x12 x14).f1, ([] : List Int)⟩ : S100), bt374.1⟩ : S135)]) x12 x13 (wrap64 (x14 + 1))) else (none)) else (some (([] : List (S135)), bt374.2)))) else (some (([] : List (S135)), t373)))) else (none)) else (none)) else (some (x6, 0))
def page_packAll.f (k : Nat) (l0 : List (S100)) (a1 : Int) : Option ((List (S135)) × Int) := page_packAll.l0 k a1 ([] : List (S135)) l0 (l0.length : Int) 0
theorem page_packAll.calls (k : Nat) (A0 : Option Addr) (c0 : Nat) (l0 : List (S100)) (a1 : Int) (r1 : List (S135)) (r2 : Int) (w : World) (hr0 : Kd.C k100 w A0 l0.length l0) (hc0 : l0.length ≤ c0) (h : page_packAll.f k l0 a1 = some (r1, r2)) :
  Calls Try.prog 80 #[.slice A0 l0.length c0, .int .i64 a1] w fun e w' => ∃ v0_ : Value, e = .returned (.tuple #[v0_, .int .i64 r2]) ∧ Kd.S k135 135 w' w.heap.size (fun _ => True) v0_ r1 ∧ Below w.heap.size w w' := by
 have hu100 := Try.underlying100
 have hu135 := Try.underlying135
 have HR0 := A_ hr0
 have HC0 := A_ hc0
 clear hr0 hc0
 have HB := A_ (Below.refl w.heap.size w)
 have H : (page_packAll.l0 k a1 ([] : List (S135)) l0 (l0.length : Int) 0) = some (r1, r2) := h
 clear h
 have H' := A_ H
 clear H
 go_enter Try.func80, Try.ntmps80
 go_wp2
 go_loopg [6, 14] k (fun kq v6 v14 w' => ∃ (x6_1 : List (S135)) (x14_1 : Int), v14 = .int .i64 x14_1 ∧ Aside0 (page_packAll.l0 kq a1 x6_1 l0 (l0.length : Int) x14_1 = some (r1, r2)) ∧ Aside0 (kq ≤ k) ∧ Aside0 (Kd.S k135 135 w' w.heap.size (fun _ => True) v6 x6_1) ∧ Aside0 (Below w.heap.size w w'))
 case atStart => exact ⟨(([] : List (S135))), (0), rs_, H', ⟨Nat.le_refl _⟩, ⟨nil_⟩, ⟨bl_⟩⟩
 case round =>
  clear H'
  obtain ⟨x6_1, x14_1, rfl, HA, HK1, HO_6, HB⟩ := hrel
  cases gk with
  | zero => exact absurd HA.out (by simp [page_packAll.l0])
  | succ k1 =>
   have H := HA.out
   clear HA
   simp only [page_packAll.l0] at H
   by_cases c3 : x14_1 < (l0.length : Int)
   ·rw [if_pos c3] at H
    have c3b0 : decide (x14_1 < (l0.length : Int)) = true := decide_eq_true c3
    clear c3
    by_cases c4 : 0 ≤ x14_1
    ·rw [if_pos c4] at H
     have c4b0 : decide (0 ≤ x14_1) = true := decide_eq_true c4
     clear c4
     by_cases c5 : x14_1 < (l0.length : Int)
     ·rw [if_pos c5] at H
      have c5b0 : decide (x14_1 < (l0.length : Int)) = true := decide_eq_true c5
      clear c5
      replace H := ob_ H
      obtain ⟨t373, A6, H⟩ := H
      try dsimp only at H
      by_cases c7 : t373 = 0
      ·rw [if_pos c7] at H
       have c7b0 : (t373 == 0) = true := beq_iff_eq.mpr c7
       have c7b1 : (t373 != 0) = false := bne_eq_false_iff_eq.mpr c7
       clear c7
       replace H := ob_ H
       obtain ⟨⟨t374, t375⟩, A8, H⟩ := H
       try dsimp only at H
       by_cases c9 : t375 = 0
       ·rw [if_pos c9] at H
        have c9b0 : (t375 == 0) = true := beq_iff_eq.mpr c9
        have c9b1 : (t375 != 0) = false := bne_eq_false_iff_eq.mpr c9
        clear c9
        by_cases c10 : x6_1.length < 2513169434916
        ·rw [if_pos c10] at H
         have LMc10 := A_ c10
         clear c10
         obtain ⟨y378, hy378⟩ : ∃ y_ : List (S135), y_ = (x6_1 ++ [(⟨(⟨(rd_T100 l0 x14_1).f0, (rd_T100 l0 x14_1).f1, ([] : List Int)⟩ : S100), t374⟩ : S135)]) := ⟨_, rfl⟩
         replace H : (page_packAll.l0 k1 a1 y378 l0 (l0.length : Int) (wrap64 (x14_1 + 1))) = some (r1, r2) := hy_ hy378 H
         have Ny378 := A_ hy378
         clear hy378
         have H' := A_ H
         clear H
         have p371 : 0 ≤ (x14_1 : Int) := od_
         have q371 : x14_1 < (l0.length : Int) := od_
         obtain ⟨ad371, A371_2, c371_2, e371, hx371_0, hx371_1, hx371_2, hl371_2, hi371_2⟩ := at_T100 HR0.out x14_1 p371 q371
         cases e371
         replace hx371_0 := hc_ HB.out hx371_0
         replace hx371_1 := hc_ HB.out hx371_1
         replace hx371_2 := hc_ HB.out hx371_2
         have HR371_2 := A_ hi371_2
         have HC371_2 := A_ hl371_2
         clear hi371_2 hl371_2
         replace p371 := eq_true p371
         replace q371 := eq_true q371
         go_wp2_with (first | (refine box_event rfl (N := 8) rfl (cs := #[.int .i32 0, .int .u32 0, .slice none 0 0]) (t := 100) ?hr ?_; (case hr => first | (go_simp; done) | (go_simp; rfl)); intro gb372 hg w11 hbox hb; replace HO_6 := A_ (Kd.S_below (mv_ HO_6.out) hb); have BK372 := A_ hbox; have GW372 := A_ (gw_ w hg); have GE372 := A_ (gw_ w hg); replace HB := A_ (below_step bl_ hb); clear hb hbox hg; have ⟨_, _, _, _, _, _⟩ := k3_ BK372.out) | (refine goesL_ (some 20) rfl rfl Try.func86 (by kernel_rfl) rfl #[.agg #[.int .i32 ((rd_T100 l0 x14_1).f0), .int .u32 ((rd_T100 l0 x14_1).f1), .slice A371_2 ((rd_T100 l0 x14_1).f2).length c371_2], .int .i64 a1] rfl ar_ ?_; (with_reducible refine (group_Right.calls ((rd_T100 l0 x14_1).f0) ((rd_T100 l0 x14_1).f1) _ _ ((rd_T100 l0 x14_1).f2) a1 t373 _ ?side1 ?side2 A6.out).mono ?_); (case side1 => exact Kd.C_below HR371_2.out bl_); (case side2 => exact HC371_2.out); rintro e w13 ⟨rfl, hb⟩; refine ⟨_, rfl, ?_⟩; replace HO_6 := A_ (Kd.S_below (by (with_reducible repeat (first | apply Kd.S_alloc | apply Kd.S_drewN | apply Kd.S_drew)); exact (Kd.S_mono (Kd.S_far (Kd.S_far (Kd.S_far (Kd.S_types HO_6.out BK372.out (by decide)) (fun _ hk => hk.2) (.int .i32 ((rd_T100 l0 x14_1).f0))) (fun _ hk => hk.2) (.int .u32 ((rd_T100 l0 x14_1).f1))) (fun _ hk => hk.2) (.slice A371_2 ((rd_T100 l0 x14_1).f2).length c371_2)) (fun _ h_ => h_.1))) hb); replace BK372 := A_ (blk_below (g := gb372) (o := .cells #[.int .i32 ((rd_T100 l0 x14_1).f0), .int .u32 ((rd_T100 l0 x14_1).f1), .slice A371_2 ((rd_T100 l0 x14_1).f2).length c371_2] 100 (0, 0)) (by (with_reducible repeat (first | apply bn_ | apply bd_ | apply ba_)); refine blk_put (cs := #[.int .i32 ((rd_T100 l0 x14_1).f0), .int .u32 ((rd_T100 l0 x14_1).f1), .slice none 0 0]) ?_ 2 _ rfl; (with_reducible repeat (first | apply bn_ | apply bd_ | apply ba_)); refine blk_put (cs := #[.int .i32 ((rd_T100 l0 x14_1).f0), .int .u32 0, .slice none 0 0]) ?_ 1 _ rfl; (with_reducible repeat (first | apply bn_ | apply bd_ | apply ba_)); refine blk_put (cs := #[.int .i32 0, .int .u32 0, .slice none 0 0]) ?_ 0 _ rfl; (with_reducible repeat (first | apply bn_ | apply bd_ | apply ba_)); exact BK372.out) hb); replace HB := A_ (below_step bl_ hb); have ⟨_, _, _, _, _, _⟩ := k3_ BK372.out) | (refine goesL_ (some 28) rfl rfl Try.func87 (by kernel_rfl) rfl #[.slice A371_2 ((rd_T100 l0 x14_1).f2).length c371_2, .int .i64 a1] rfl ar_ ?_; (with_reducible refine (pack_Pack.calls _ _ ((rd_T100 l0 x14_1).f2) a1 t374 t375 _ ?side1 ?side2 A8.out).mono ?_); (case side1 => exact cb_ (Kd.C_below HR371_2.out HB.out)); (case side2 => exact HC371_2.out); rintro e w15 ⟨v376, rfl, ho0, hb⟩; refine ⟨_, rfl, ?_⟩; replace HO_6 := A_ (Kd.S_elder' (mv_ HO_6.out) (Kd.R_base ho0) hb); have HO377 := A_ (Kd.R_lower ho0 (below_size bl_)); replace BK372 := A_ (bb_ BK372.out hb); replace HB := A_ (below_step bl_ hb); have ⟨_, _, _, _, _, _⟩ := k3_ BK372.out; obtain ⟨Ao17, co17, eo17⟩ := Kd.R_slice HO377.out; subst eo17) | ((with_reducible refine gate_builtin (b := .append) (xs := #[.tmp 34, .tmp 42]) rfl ?_); at_builtin; refine Kd.S_append k135 (w0 := w) w.heap.size rfl (.tmp 34) (.tmp 42) 121 135 (.agg #[(.int .i32 0), (.int .u32 0), (.slice none 0 0), (.slice none 0 0)]) 56 rfl Try.underlying121 info135 rfl (by decide) (by omega) u6 x6_1 (⟨(⟨(rd_T100 l0 x14_1).f0, (rd_T100 l0 x14_1).f1, ([] : List Int)⟩ : S100), t374⟩ : S135) [.int .i32 ((rd_T100 l0 x14_1).f0), .int .u32 ((rd_T100 l0 x14_1).f1), .slice none 0 0, .slice Ao17 t374.length co17] (fun _ => True) (fun k_ => some k_ = (.slice Ao17 t374.length co17 : Value).ownBlock) rfl rfl ?aP (fun k_ hk_ => ((Kd.R_mono (ok' := fun k_ => ((fun _ => True)) k_ ∧ some k_ ≠ (u6 : Value).ownBlock) (Kd.R_apart' (HO377.out) (Kd.S_typed HO_6.out) (by decide)) (fun k_ hk => ⟨trivial, hk.2⟩))).1 k_ hk_.symm) ?aF ?aO ?aB ?aS ?aL ?_; (case aP => exact k135_mkM _ _ _ (⟨(⟨(rd_T100 l0 x14_1).f0, (rd_T100 l0 x14_1).f1, ([] : List Int)⟩ : S100), t374⟩ : S135) (Kd.R_nil _ _ _ _ _) (Kd.R_mono (Kd.R_tight rfl (Kd.R_mono (ok' := fun k_ => ((fun _ => True)) k_ ∧ some k_ ≠ (u6 : Value).ownBlock) (Kd.R_apart' (HO377.out) (Kd.S_typed HO_6.out) (by decide)) (fun k_ hk => ⟨trivial, hk.2⟩))) (fun _ h_ => h_))); (case aB => exact bl_); (case aF => exact (fun _ _ => trivial)); (case aO => exact (by (with_reducible repeat (first | apply Kd.S_alloc | apply Kd.S_drewN | apply Kd.S_drew)); exact Kd.S_mono HO_6.out (fun k_ hk => ⟨trivial, fun e_ => hk.2 e_⟩))); (case aS => exact (below_size bl_)); (case aL => have := LMc10.out; omega); intro v379 w18 ho hb hg hat; rw [← Ny378.out] at ho; replace BK372 := A_ (bg_ BK372.out hg (Kd.S_ne HO_6.out BK372.out (by decide))); have HO380 := A_ ho; replace HB := A_ hb; clear HO_6 HO377 ho hb hg hat))
         go_roundg k1
         case measure => have := HK1.out; omega
         case rel => exact ⟨(y378), (wrap64 (x14_1 + 1)), rs_, H', ⟨by have := HK1.out; omega⟩, ⟨mv_ HO380.out⟩, ⟨bl_⟩⟩
        ·rw [if_neg c10] at H
         exact absurd H (by simp)
       ·rw [if_neg c9] at H
        have c9b0 : (t375 == 0) = false := beq_eq_false_iff_ne.mpr c9
        have c9b1 : (t375 != 0) = true := bne_iff_ne.mpr c9
        simp only [Option.some.injEq, Prod.mk.injEq] at H
        obtain ⟨rfl, rfl⟩ := H
        have p371 : 0 ≤ (x14_1 : Int) := od_
        have q371 : x14_1 < (l0.length : Int) := od_
        obtain ⟨ad371, A371_2, c371_2, e371, hx371_0, hx371_1, hx371_2, hl371_2, hi371_2⟩ := at_T100 HR0.out x14_1 p371 q371
        cases e371
        replace hx371_0 := hc_ HB.out hx371_0
        replace hx371_1 := hc_ HB.out hx371_1
        replace hx371_2 := hc_ HB.out hx371_2
        have HR371_2 := A_ hi371_2
        have HC371_2 := A_ hl371_2
        clear hi371_2 hl371_2
        replace p371 := eq_true p371
        replace q371 := eq_true q371
        go_wp2_with (first | (refine box_event rfl (N := 8) rfl (cs := #[.int .i32 0, .int .u32 0, .slice none 0 0]) (t := 100) ?hr ?_; (case hr => first | (go_simp; done) | (go_simp; rfl)); intro gb372 hg w19 hbox hb; replace HO_6 := A_ (Kd.S_below (mv_ HO_6.out) hb); have BK372 := A_ hbox; have GW372 := A_ (gw_ w hg); have GE372 := A_ (gw_ w hg); replace HB := A_ (below_step bl_ hb); clear hb hbox hg; have ⟨_, _, _, _, _, _⟩ := k3_ BK372.out) | (refine goesL_ (some 20) rfl rfl Try.func86 (by kernel_rfl) rfl #[.agg #[.int .i32 ((rd_T100 l0 x14_1).f0), .int .u32 ((rd_T100 l0 x14_1).f1), .slice A371_2 ((rd_T100 l0 x14_1).f2).length c371_2], .int .i64 a1] rfl ar_ ?_; (with_reducible refine (group_Right.calls ((rd_T100 l0 x14_1).f0) ((rd_T100 l0 x14_1).f1) _ _ ((rd_T100 l0 x14_1).f2) a1 t373 _ ?side1 ?side2 A6.out).mono ?_); (case side1 => exact Kd.C_below HR371_2.out bl_); (case side2 => exact HC371_2.out); rintro e w21 ⟨rfl, hb⟩; refine ⟨_, rfl, ?_⟩; replace HO_6 := A_ (Kd.S_below (by (with_reducible repeat (first | apply Kd.S_alloc | apply Kd.S_drewN | apply Kd.S_drew)); exact (Kd.S_mono (Kd.S_far (Kd.S_far (Kd.S_far (Kd.S_types HO_6.out BK372.out (by decide)) (fun _ hk => hk.2) (.int .i32 ((rd_T100 l0 x14_1).f0))) (fun _ hk => hk.2) (.int .u32 ((rd_T100 l0 x14_1).f1))) (fun _ hk => hk.2) (.slice A371_2 ((rd_T100 l0 x14_1).f2).length c371_2)) (fun _ h_ => h_.1))) hb); replace BK372 := A_ (blk_below (g := gb372) (o := .cells #[.int .i32 ((rd_T100 l0 x14_1).f0), .int .u32 ((rd_T100 l0 x14_1).f1), .slice A371_2 ((rd_T100 l0 x14_1).f2).length c371_2] 100 (0, 0)) (by (with_reducible repeat (first | apply bn_ | apply bd_ | apply ba_)); refine blk_put (cs := #[.int .i32 ((rd_T100 l0 x14_1).f0), .int .u32 ((rd_T100 l0 x14_1).f1), .slice none 0 0]) ?_ 2 _ rfl; (with_reducible repeat (first | apply bn_ | apply bd_ | apply ba_)); refine blk_put (cs := #[.int .i32 ((rd_T100 l0 x14_1).f0), .int .u32 0, .slice none 0 0]) ?_ 1 _ rfl; (with_reducible repeat (first | apply bn_ | apply bd_ | apply ba_)); refine blk_put (cs := #[.int .i32 0, .int .u32 0, .slice none 0 0]) ?_ 0 _ rfl; (with_reducible repeat (first | apply bn_ | apply bd_ | apply ba_)); exact BK372.out) hb); replace HB := A_ (below_step bl_ hb); have ⟨_, _, _, _, _, _⟩ := k3_ BK372.out) | (refine goesL_ (some 28) rfl rfl Try.func87 (by kernel_rfl) rfl #[.slice A371_2 ((rd_T100 l0 x14_1).f2).length c371_2, .int .i64 a1] rfl ar_ ?_; (with_reducible refine (pack_Pack.calls _ _ ((rd_T100 l0 x14_1).f2) a1 t374 t375 _ ?side1 ?side2 A8.out).mono ?_); (case side1 => exact cb_ (Kd.C_below HR371_2.out HB.out)); (case side2 => exact HC371_2.out); rintro e w23 ⟨v376, rfl, ho0, hb⟩; refine ⟨_, rfl, ?_⟩; replace HO_6 := A_ (Kd.S_elder' (mv_ HO_6.out) (Kd.R_base ho0) hb); have HO377 := A_ (Kd.R_lower ho0 (below_size bl_)); replace BK372 := A_ (bb_ BK372.out hb); replace HB := A_ (below_step bl_ hb)))
        go_ret2
        exact ⟨_, ew_, nil_, bl_⟩
      ·rw [if_neg c7] at H
       have c7b0 : (t373 == 0) = false := beq_eq_false_iff_ne.mpr c7
       have c7b1 : (t373 != 0) = true := bne_iff_ne.mpr c7
       simp only [Option.some.injEq, Prod.mk.injEq] at H
       obtain ⟨rfl, rfl⟩ := H
       have p371 : 0 ≤ (x14_1 : Int) := od_
       have q371 : x14_1 < (l0.length : Int) := od_
       obtain ⟨ad371, A371_2, c371_2, e371, hx371_0, hx371_1, hx371_2, hl371_2, hi371_2⟩ := at_T100 HR0.out x14_1 p371 q371
       cases e371
       replace hx371_0 := hc_ HB.out hx371_0
       replace hx371_1 := hc_ HB.out hx371_1
       replace hx371_2 := hc_ HB.out hx371_2
       have HR371_2 := A_ hi371_2
       have HC371_2 := A_ hl371_2
       clear hi371_2 hl371_2
       replace p371 := eq_true p371
       replace q371 := eq_true q371
       go_wp2_with (first | (refine box_event rfl (N := 8) rfl (cs := #[.int .i32 0, .int .u32 0, .slice none 0 0]) (t := 100) ?hr ?_; (case hr => first | (go_simp; done) | (go_simp; rfl)); intro gb372 hg w24 hbox hb; replace HO_6 := A_ (Kd.S_below (mv_ HO_6.out) hb); have BK372 := A_ hbox; have GW372 := A_ (gw_ w hg); have GE372 := A_ (gw_ w hg); replace HB := A_ (below_step bl_ hb); clear hb hbox hg; have ⟨_, _, _, _, _, _⟩ := k3_ BK372.out) | (refine goesL_ (some 20) rfl rfl Try.func86 (by kernel_rfl) rfl #[.agg #[.int .i32 ((rd_T100 l0 x14_1).f0), .int .u32 ((rd_T100 l0 x14_1).f1), .slice A371_2 ((rd_T100 l0 x14_1).f2).length c371_2], .int .i64 a1] rfl ar_ ?_; (with_reducible refine (group_Right.calls ((rd_T100 l0 x14_1).f0) ((rd_T100 l0 x14_1).f1) _ _ ((rd_T100 l0 x14_1).f2) a1 t373 _ ?side1 ?side2 A6.out).mono ?_); (case side1 => exact Kd.C_below HR371_2.out bl_); (case side2 => exact HC371_2.out); rintro e w26 ⟨rfl, hb⟩; refine ⟨_, rfl, ?_⟩; replace HO_6 := A_ (Kd.S_below (by (with_reducible repeat (first | apply Kd.S_alloc | apply Kd.S_drewN | apply Kd.S_drew)); exact (Kd.S_mono (Kd.S_far (Kd.S_far (Kd.S_far (Kd.S_types HO_6.out BK372.out (by decide)) (fun _ hk => hk.2) (.int .i32 ((rd_T100 l0 x14_1).f0))) (fun _ hk => hk.2) (.int .u32 ((rd_T100 l0 x14_1).f1))) (fun _ hk => hk.2) (.slice A371_2 ((rd_T100 l0 x14_1).f2).length c371_2)) (fun _ h_ => h_.1))) hb); replace BK372 := A_ (blk_below (g := gb372) (o := .cells #[.int .i32 ((rd_T100 l0 x14_1).f0), .int .u32 ((rd_T100 l0 x14_1).f1), .slice A371_2 ((rd_T100 l0 x14_1).f2).length c371_2] 100 (0, 0)) (by (with_reducible repeat (first | apply bn_ | apply bd_ | apply ba_)); refine blk_put (cs := #[.int .i32 ((rd_T100 l0 x14_1).f0), .int .u32 ((rd_T100 l0 x14_1).f1), .slice none 0 0]) ?_ 2 _ rfl; (with_reducible repeat (first | apply bn_ | apply bd_ | apply ba_)); refine blk_put (cs := #[.int .i32 ((rd_T100 l0 x14_1).f0), .int .u32 0, .slice none 0 0]) ?_ 1 _ rfl; (with_reducible repeat (first | apply bn_ | apply bd_ | apply ba_)); refine blk_put (cs := #[.int .i32 0, .int .u32 0, .slice none 0 0]) ?_ 0 _ rfl; (with_reducible repeat (first | apply bn_ | apply bd_ | apply ba_)); exact BK372.out) hb); replace HB := A_ (below_step bl_ hb)))
       go_ret2
       exact ⟨_, ew_, nil_, bl_⟩
     ·rw [if_neg c5] at H
      exact absurd H (by simp)
    ·rw [if_neg c4] at H
     exact absurd H (by simp)
   ·rw [if_neg c3] at H
    have c3b0 : decide (x14_1 < (l0.length : Int)) = false := decide_eq_false c3
    clear c3
    simp only [Option.some.injEq, Prod.mk.injEq] at H
    obtain ⟨rfl, rfl⟩ := H
    go_wp2
    go_ret2
    exact ⟨_, ew_, by (with_reducible repeat (first | apply Kd.S_alloc | apply Kd.S_drewN | apply Kd.S_drew)); exact HO_6.out, bl_⟩
def page_New.g (k : Nat) (a0_0 : Int) (a0_1 : Int) (a0_2 : Int) (a0_3 : Int) (a0_4 : Int) (a0_5 : Int) (a0_6 : Int) (l1 : List (S100)) (l2 : List (S100)) : Option ((List (S135)) × (List (S135)) × Int) := (page_Right.f a0_0 a0_1 a0_2 a0_3 a0_4 a0_5 a0_6).bind fun t382 => (if t382 = true then ((page_codes.f k l1 a0_3 a0_2).bind fun t383 => (if t383 = true then ((page_codes.f k l2 a0_2 a0_3).bind fun t384 => (if t384 = true then ((page_packAll.f k l1 a0_0).bind fun bt385 => (if bt385.2 = 0 then ((page_packAll.f k l2 a0_1).bind fun bt389 => (if bt389.2 = 0 then (some (bt385.1, bt389.1, 0)) else (some (([] : List (S135)), bt389.1, bt389.2)))) else (some (([] : List (S135)), ([] : List (S135)), bt385.2)))) else (some (([] : List (S135)), ([] : List (S135)), 25)))) else (some (([] : List (S135)), ([] : List (S135)), 25)))) else (some (([] : List (S135)), ([] : List (S135)), 11)))
def page_New.f (k : Nat) (h0 h1 h2 h3 h4 h5 h6 : Int) (l1 l2 : List S100) : Option (List S125 × Int) :=
 (page_New.g k h0 h1 h2 h3 h4 h5 h6 l1 l2).bind fun t => if t.2.2 = 0 then some ([⟨⟨h0, h1, h2, h3, h4, h5, h6⟩, t.1, t.2.1⟩], 0) else some ([], t.2.2)
theorem hd_cells {w : World} {g : Nat} {h0 h1 h2 h3 h4 h5 h6 : Int} (h : w.heap[g]? = some (.cells #[.int .i64 h0, .int .i64 h1, .int .i64 h2, .int .i64 h3, .int .i64 h4, .int .i64 h5, .int .i64 h6] 53 (0, 0))) : w.cell? ⟨g, 0, none⟩ = some (.int .i64 h0) ∧ w.cell? ⟨g, 1, none⟩ = some (.int .i64 h1) ∧ w.cell? ⟨g, 2, none⟩ = some (.int .i64 h2) ∧ w.cell? ⟨g, 3, none⟩ = some (.int .i64 h3) ∧ w.cell? ⟨g, 4, none⟩ = some (.int .i64 h4) ∧ w.cell? ⟨g, 5, none⟩ = some (.int .i64 h5) ∧ w.cell? ⟨g, 6, none⟩ = some (.int .i64 h6) := ⟨(blk_cell h 0).trans rfl, (blk_cell h 1).trans rfl, (blk_cell h 2).trans rfl, (blk_cell h 3).trans rfl, (blk_cell h 4).trans rfl, (blk_cell h 5).trans rfl, (blk_cell h 6).trans rfl⟩
theorem page_New.calls (k : Nat) (h0 h1 h2 h3 h4 h5 h6 : Int) (A1 : Option Addr) (c1 : Nat) (l1 : List S100) (A2 : Option Addr) (c2 : Nat) (l2 : List S100) (r1 : List S125) (r2 : Int) (w : World)
  (hr1 : Kd.C k100 w A1 l1.length l1) (hc1 : l1.length ≤ c1) (hr2 : Kd.C k100 w A2 l2.length l2) (hc2 : l2.length ≤ c2) (h : page_New.f k h0 h1 h2 h3 h4 h5 h6 l1 l2 = some (r1, r2)) :
  Calls Try.prog 59 #[.agg #[.int .i64 h0, .int .i64 h1, .int .i64 h2, .int .i64 h3, .int .i64 h4, .int .i64 h5, .int .i64 h6], .slice A1 l1.length c1, .slice A2 l2.length c2] w fun e w' => ∃ A : Option Addr, e = .returned (.tuple #[.pointer A, .int .i64 r2]) ∧ (Kd.ptr 125 k125).M w' w.heap.size (fun _ => True) r1 [.pointer A] ∧ Below w.heap.size w w' := by
 obtain ⟨⟨t1, t2, t3⟩, hg, hq⟩ := Option.bind_eq_some_iff.1 h
 have hu1 := Try.underlying53
 have HR1 := A_ hr1
 have HR2 := A_ hr2
 have HC1 := A_ hc1
 have HC2 := A_ hc2
 clear hr1 hr2 hc1 hc2 h
 unfold page_New.g at hg
 obtain ⟨b, hb, hg⟩ := Option.bind_eq_some_iff.1 hg
 have G0 := A_ hb
 clear hb
 cases b with
 | false =>
  rw [if_neg (by simp)] at hg
  obtain ⟨rfl, rfl, rfl⟩ := by simpa using hg
  obtain ⟨rfl, rfl⟩ := by simpa using hq
  clear hg hq
  go_enter Try.func59, Try.ntmps59
  go_wp2_with (first
   | (refine box_event rfl (N := 3) rfl (cs := #[.int .i64 h0, .int .i64 h1, .int .i64 h2, .int .i64 h3, .int .i64 h4, .int .i64 h5, .int .i64 h6]) (t := 53) ?hr ?_; (case hr => first | (go_simp; done) | (go_simp; rfl)); intro gb hg w0 hbox hb; have BK := A_ hbox; have HB := A_ hb; clear hb hbox hg; obtain ⟨z0, z1, z2, z3, z4, z5, z6⟩ := hd_cells BK.out)
   | (go_at_call 56; (with_reducible refine (page_Right.calls h0 h1 h2 h3 h4 h5 h6 false _ G0.out).mono ?_); rintro e w1 ⟨rfl, hb⟩; replace BK := A_ (blk_below BK.out hb); replace HB := A_ (below_step HB.out hb); clear hb z0 z1 z2 z3 z4 z5 z6; obtain ⟨z0, z1, z2, z3, z4, z5, z6⟩ := hd_cells BK.out))
  go_ret2
  exact ⟨none, rfl, Kd.ptr_nil _ _ _, bl_⟩
 | true =>
  rw [if_pos rfl] at hg
  obtain ⟨b, hb, hg⟩ := Option.bind_eq_some_iff.1 hg
  have G1 := A_ hb
  clear hb
  cases b with
  | false =>
   rw [if_neg (by simp)] at hg
   obtain ⟨rfl, rfl, rfl⟩ := by simpa using hg
   obtain ⟨rfl, rfl⟩ := by simpa using hq
   clear hg hq
   go_enter Try.func59, Try.ntmps59
   go_wp2_with (first
    | (refine box_event rfl (N := 3) rfl (cs := #[.int .i64 h0, .int .i64 h1, .int .i64 h2, .int .i64 h3, .int .i64 h4, .int .i64 h5, .int .i64 h6]) (t := 53) ?hr ?_; (case hr => first | (go_simp; done) | (go_simp; rfl)); intro gb hg w0 hbox hb; have BK := A_ hbox; have HB := A_ hb; clear hb hbox hg; obtain ⟨z0, z1, z2, z3, z4, z5, z6⟩ := hd_cells BK.out)
    | (go_at_call 56; (with_reducible refine (page_Right.calls h0 h1 h2 h3 h4 h5 h6 true _ G0.out).mono ?_); rintro e w1 ⟨rfl, hb⟩; replace BK := A_ (blk_below BK.out hb); replace HB := A_ (below_step HB.out hb); clear hb z0 z1 z2 z3 z4 z5 z6; obtain ⟨z0, z1, z2, z3, z4, z5, z6⟩ := hd_cells BK.out)
    | (go_at_call 79; (with_reducible refine (page_codes.calls k A1 c1 l1 h3 h2 false _ (Kd.C_below HR1.out HB.out) HC1.out G1.out).mono ?_); rintro e w2 ⟨rfl, hb⟩; replace BK := A_ (blk_below BK.out hb); replace HB := A_ (below_step HB.out hb); clear hb z0 z1 z2 z3 z4 z5 z6; obtain ⟨z0, z1, z2, z3, z4, z5, z6⟩ := hd_cells BK.out))
   go_ret2
   exact ⟨none, rfl, Kd.ptr_nil _ _ _, bl_⟩
  | true =>
   rw [if_pos rfl] at hg
   obtain ⟨b, hb, hg⟩ := Option.bind_eq_some_iff.1 hg
   have G2 := A_ hb
   clear hb
   cases b with
   | false =>
    rw [if_neg (by simp)] at hg
    obtain ⟨rfl, rfl, rfl⟩ := by simpa using hg
    obtain ⟨rfl, rfl⟩ := by simpa using hq
    clear hg hq
    go_enter Try.func59, Try.ntmps59
    go_wp2_with (first
     | (refine box_event rfl (N := 3) rfl (cs := #[.int .i64 h0, .int .i64 h1, .int .i64 h2, .int .i64 h3, .int .i64 h4, .int .i64 h5, .int .i64 h6]) (t := 53) ?hr ?_; (case hr => first | (go_simp; done) | (go_simp; rfl)); intro gb hg w0 hbox hb; have BK := A_ hbox; have HB := A_ hb; clear hb hbox hg; obtain ⟨z0, z1, z2, z3, z4, z5, z6⟩ := hd_cells BK.out)
     | (go_at_call 56; (with_reducible refine (page_Right.calls h0 h1 h2 h3 h4 h5 h6 true _ G0.out).mono ?_); rintro e w1 ⟨rfl, hb⟩; replace BK := A_ (blk_below BK.out hb); replace HB := A_ (below_step HB.out hb); clear hb z0 z1 z2 z3 z4 z5 z6; obtain ⟨z0, z1, z2, z3, z4, z5, z6⟩ := hd_cells BK.out)
     | (go_at_call 79; (with_reducible refine (page_codes.calls k A1 c1 l1 h3 h2 true _ (Kd.C_below HR1.out HB.out) HC1.out G1.out).mono ?_); rintro e w2 ⟨rfl, hb⟩; replace BK := A_ (blk_below BK.out hb); replace HB := A_ (below_step HB.out hb); clear hb z0 z1 z2 z3 z4 z5 z6; obtain ⟨z0, z1, z2, z3, z4, z5, z6⟩ := hd_cells BK.out)
     | (go_at_call 79; (with_reducible refine (page_codes.calls k A2 c2 l2 h2 h3 false _ (Kd.C_below HR2.out HB.out) HC2.out G2.out).mono ?_); rintro e w3 ⟨rfl, hb⟩; replace BK := A_ (blk_below BK.out hb); replace HB := A_ (below_step HB.out hb); clear hb z0 z1 z2 z3 z4 z5 z6; obtain ⟨z0, z1, z2, z3, z4, z5, z6⟩ := hd_cells BK.out))
    go_ret2
    exact ⟨none, rfl, Kd.ptr_nil _ _ _, bl_⟩
   | true =>
    rw [if_pos rfl] at hg
    obtain ⟨⟨p1, p2⟩, hb, hg⟩ := Option.bind_eq_some_iff.1 hg
    have G3 := A_ hb
    clear hb
    by_cases c4 : p2 = 0
    rotate_left
    ·rw [if_neg c4] at hg
     obtain ⟨rfl, rfl, rfl⟩ := by simpa using hg
     rw [if_neg c4] at hq
     obtain ⟨rfl, rfl⟩ := by simpa using hq
     have cb : (p2 != 0) = true := bne_iff_ne.2 c4
     clear hg hq c4
     go_enter Try.func59, Try.ntmps59
     go_wp2_with (first
      | (refine box_event rfl (N := 3) rfl (cs := #[.int .i64 h0, .int .i64 h1, .int .i64 h2, .int .i64 h3, .int .i64 h4, .int .i64 h5, .int .i64 h6]) (t := 53) ?hr ?_; (case hr => first | (go_simp; done) | (go_simp; rfl)); intro gb hg w0 hbox hb; have BK := A_ hbox; have HB := A_ hb; clear hb hbox hg; obtain ⟨z0, z1, z2, z3, z4, z5, z6⟩ := hd_cells BK.out)
      | (go_at_call 56; (with_reducible refine (page_Right.calls h0 h1 h2 h3 h4 h5 h6 true _ G0.out).mono ?_); rintro e w1 ⟨rfl, hb⟩; replace BK := A_ (blk_below BK.out hb); replace HB := A_ (below_step HB.out hb); clear hb z0 z1 z2 z3 z4 z5 z6; obtain ⟨z0, z1, z2, z3, z4, z5, z6⟩ := hd_cells BK.out)
      | (go_at_call 79; (with_reducible refine (page_codes.calls k A1 c1 l1 h3 h2 true _ (Kd.C_below HR1.out HB.out) HC1.out G1.out).mono ?_); rintro e w2 ⟨rfl, hb⟩; replace BK := A_ (blk_below BK.out hb); replace HB := A_ (below_step HB.out hb); clear hb z0 z1 z2 z3 z4 z5 z6; obtain ⟨z0, z1, z2, z3, z4, z5, z6⟩ := hd_cells BK.out)
      | (go_at_call 79; (with_reducible refine (page_codes.calls k A2 c2 l2 h2 h3 true _ (Kd.C_below HR2.out HB.out) HC2.out G2.out).mono ?_); rintro e w3 ⟨rfl, hb⟩; replace BK := A_ (blk_below BK.out hb); replace HB := A_ (below_step HB.out hb); clear hb z0 z1 z2 z3 z4 z5 z6; obtain ⟨z0, z1, z2, z3, z4, z5, z6⟩ := hd_cells BK.out)
      | (go_at_call 80; (with_reducible refine (page_packAll.calls k A1 c1 l1 h0 _ _ _ (Kd.C_below HR1.out HB.out) HC1.out G3.out).mono ?_); rintro e w4 ⟨vp, rfl, ho, hb⟩; replace BK := A_ (blk_below BK.out hb); have HP := A_ (Kd.R_lower (Kd.S_R ho) (below_size HB.out)); clear ho; replace HB := A_ (below_step HB.out hb); clear hb z0 z1 z2 z3 z4 z5 z6; obtain ⟨z0, z1, z2, z3, z4, z5, z6⟩ := hd_cells BK.out))
     go_ret2
     exact ⟨none, rfl, Kd.ptr_nil _ _ _, bl_⟩
    rw [if_pos c4] at hg
    subst c4
    obtain ⟨⟨q1, q2⟩, hb, hg⟩ := Option.bind_eq_some_iff.1 hg
    have G4 := A_ hb
    clear hb
    by_cases c5 : q2 = 0
    rotate_left
    ·rw [if_neg c5] at hg
     obtain ⟨rfl, rfl, rfl⟩ := by simpa using hg
     rw [if_neg c5] at hq
     obtain ⟨rfl, rfl⟩ := by simpa using hq
     have cb : (q2 != 0) = true := bne_iff_ne.2 c5
     clear hg hq c5
     go_enter Try.func59, Try.ntmps59
     go_wp2_with (first
      | (refine box_event rfl (N := 3) rfl (cs := #[.int .i64 h0, .int .i64 h1, .int .i64 h2, .int .i64 h3, .int .i64 h4, .int .i64 h5, .int .i64 h6]) (t := 53) ?hr ?_; (case hr => first | (go_simp; done) | (go_simp; rfl)); intro gb hg w0 hbox hb; have BK := A_ hbox; have HB := A_ hb; clear hb hbox hg; obtain ⟨z0, z1, z2, z3, z4, z5, z6⟩ := hd_cells BK.out)
      | (go_at_call 56; (with_reducible refine (page_Right.calls h0 h1 h2 h3 h4 h5 h6 true _ G0.out).mono ?_); rintro e w1 ⟨rfl, hb⟩; replace BK := A_ (blk_below BK.out hb); replace HB := A_ (below_step HB.out hb); clear hb z0 z1 z2 z3 z4 z5 z6; obtain ⟨z0, z1, z2, z3, z4, z5, z6⟩ := hd_cells BK.out)
      | (go_at_call 79; (with_reducible refine (page_codes.calls k A1 c1 l1 h3 h2 true _ (Kd.C_below HR1.out HB.out) HC1.out G1.out).mono ?_); rintro e w2 ⟨rfl, hb⟩; replace BK := A_ (blk_below BK.out hb); replace HB := A_ (below_step HB.out hb); clear hb z0 z1 z2 z3 z4 z5 z6; obtain ⟨z0, z1, z2, z3, z4, z5, z6⟩ := hd_cells BK.out)
      | (go_at_call 79; (with_reducible refine (page_codes.calls k A2 c2 l2 h2 h3 true _ (Kd.C_below HR2.out HB.out) HC2.out G2.out).mono ?_); rintro e w3 ⟨rfl, hb⟩; replace BK := A_ (blk_below BK.out hb); replace HB := A_ (below_step HB.out hb); clear hb z0 z1 z2 z3 z4 z5 z6; obtain ⟨z0, z1, z2, z3, z4, z5, z6⟩ := hd_cells BK.out)
      | (go_at_call 80; (with_reducible refine (page_packAll.calls k A1 c1 l1 h0 _ _ _ (Kd.C_below HR1.out HB.out) HC1.out G3.out).mono ?_); rintro e w4 ⟨vp, rfl, ho, hb⟩; replace BK := A_ (blk_below BK.out hb); have HP := A_ (Kd.R_lower (Kd.S_R ho) (below_size HB.out)); clear ho; replace HB := A_ (below_step HB.out hb); clear hb z0 z1 z2 z3 z4 z5 z6; obtain ⟨z0, z1, z2, z3, z4, z5, z6⟩ := hd_cells BK.out)
      | (go_at_call 80; (with_reducible refine (page_packAll.calls k A2 c2 l2 h1 _ _ _ (Kd.C_below HR2.out HB.out) HC2.out G4.out).mono ?_); rintro e w5 ⟨vq, rfl, ho, hb⟩; replace BK := A_ (blk_below BK.out hb); replace HP := A_ (Kd.R_below HP.out hb); have HQ := A_ (Kd.R_lower (Kd.S_R ho) (below_size HB.out)); clear ho; replace HB := A_ (below_step HB.out hb); clear hb z0 z1 z2 z3 z4 z5 z6; obtain ⟨z0, z1, z2, z3, z4, z5, z6⟩ := hd_cells BK.out))
     go_ret2
     exact ⟨none, rfl, Kd.ptr_nil _ _ _, bl_⟩
    rw [if_pos c5] at hg
    subst c5
    obtain ⟨rfl, rfl, rfl⟩ := by simpa using hg
    rw [if_pos rfl] at hq
    obtain ⟨rfl, rfl⟩ := by simpa using hq
    clear hg hq
    go_enter Try.func59, Try.ntmps59
    go_wp2_with (first
     | (refine box_event rfl (N := 3) rfl (cs := #[.int .i64 h0, .int .i64 h1, .int .i64 h2, .int .i64 h3, .int .i64 h4, .int .i64 h5, .int .i64 h6]) (t := 53) ?hr ?_; (case hr => first | (go_simp; done) | (go_simp; rfl)); intro gb hg w0 hbox hb; have BK := A_ hbox; have HB := A_ hb; clear hb hbox hg; obtain ⟨z0, z1, z2, z3, z4, z5, z6⟩ := hd_cells BK.out)
     | (go_at_call 56; (with_reducible refine (page_Right.calls h0 h1 h2 h3 h4 h5 h6 true _ G0.out).mono ?_); rintro e w1 ⟨rfl, hb⟩; replace BK := A_ (blk_below BK.out hb); replace HB := A_ (below_step HB.out hb); clear hb z0 z1 z2 z3 z4 z5 z6; obtain ⟨z0, z1, z2, z3, z4, z5, z6⟩ := hd_cells BK.out)
     | (go_at_call 79; (with_reducible refine (page_codes.calls k A1 c1 l1 h3 h2 true _ (Kd.C_below HR1.out HB.out) HC1.out G1.out).mono ?_); rintro e w2 ⟨rfl, hb⟩; replace BK := A_ (blk_below BK.out hb); replace HB := A_ (below_step HB.out hb); clear hb z0 z1 z2 z3 z4 z5 z6; obtain ⟨z0, z1, z2, z3, z4, z5, z6⟩ := hd_cells BK.out)
     | (go_at_call 79; (with_reducible refine (page_codes.calls k A2 c2 l2 h2 h3 true _ (Kd.C_below HR2.out HB.out) HC2.out G2.out).mono ?_); rintro e w3 ⟨rfl, hb⟩; replace BK := A_ (blk_below BK.out hb); replace HB := A_ (below_step HB.out hb); clear hb z0 z1 z2 z3 z4 z5 z6; obtain ⟨z0, z1, z2, z3, z4, z5, z6⟩ := hd_cells BK.out)
     | (go_at_call 80; (with_reducible refine (page_packAll.calls k A1 c1 l1 h0 _ _ _ (Kd.C_below HR1.out HB.out) HC1.out G3.out).mono ?_); rintro e w4 ⟨vp, rfl, ho, hb⟩; replace BK := A_ (blk_below BK.out hb); have HP := A_ (Kd.R_lower (Kd.S_R ho) (below_size HB.out)); clear ho; replace HB := A_ (below_step HB.out hb); clear hb z0 z1 z2 z3 z4 z5 z6; obtain ⟨z0, z1, z2, z3, z4, z5, z6⟩ := hd_cells BK.out)
     | (go_at_call 80; (with_reducible refine (page_packAll.calls k A2 c2 l2 h1 _ _ _ (Kd.C_below HR2.out HB.out) HC2.out G4.out).mono ?_); rintro e w5 ⟨vq, rfl, ho, hb⟩; replace BK := A_ (blk_below BK.out hb); replace HP := A_ (Kd.R_below HP.out hb); have HQ := A_ (Kd.R_lower (Kd.S_R ho) (below_size HB.out)); clear ho; replace HB := A_ (below_step HB.out hb); clear hb z0 z1 z2 z3 z4 z5 z6; obtain ⟨z0, z1, z2, z3, z4, z5, z6⟩ := hd_cells BK.out; obtain ⟨Ap_, cp_, rfl⟩ := Kd.R_slice HP.out; obtain ⟨Aq_, cq_, rfl⟩ := Kd.R_slice HQ.out)
     | ((with_reducible refine gate_dst (N := 54) rfl ?_); refine Kd.ptr_event k125 w.heap.size ?hg (N := 54) ?hd (cs := [.int .i64 h0, .int .i64 h1, .int .i64 h2, .int .i64 h3, .int .i64 h4, .int .i64 h5, .int .i64 h6, .slice Ap_ _ cp_, .slice Aq_ _ cq_]) (t := 125) (x := ⟨⟨h0, h1, h2, h3, h4, h5, h6⟩, _, _⟩) (okp := fun _ => True) ?hr (k125_mkM _ _ _ _ (Kd.R_mono HP.out (fun _ _ => trivial)) (Kd.R_mono HQ.out (fun _ _ => trivial))) HB.out ?hs ?_; (case hd => rfl); (case hg => rfl); (case hr => first | (go_simp; done) | (go_simp; rfl)); (case hs => exact below_size HB.out); intro gp_ wp_ hp_ hbp_))
    go_ret2
    exact ⟨_, rfl, hp_, hbp_⟩
def page_numbers.l0 : Nat → List (List Int) → Int → Int → List (List Int) → Int → Int → Option (Bool)
 | 0, _, _, _, _, _, _ => none
 | k + 1, x0, x1, x2, x9, x10, x11 => if x11 < x10 then (if 0 ≤ x11 then (if x11 < (x9.length : Int) then (if ((rd_L11 x9 x11).length : Int) = x2 then (page_numbers.l0 k x0 x1 x2 x9 x10 (wrap64 (x11 + 1))) else (some false)) else (none)) else (none)) else (some ((x0.length : Int) == x1))
def page_numbers.f (k : Nat) (l0 : List (List Int)) (a1 : Int) (a2 : Int) : Option (Bool) := page_numbers.l0 k l0 a1 a2 l0 (l0.length : Int) 0
theorem page_numbers.calls (k : Nat) (A0 : Option Addr) (c0 : Nat) (l0 : List (List Int)) (a1 : Int) (a2 : Int) (r : Bool) (w : World) (hr0 : Kd.C (Kd.slice 21 (Kd.int .i32)) w A0 l0.length l0) (hc0 : l0.length ≤ c0) (h : page_numbers.f k l0 a1 a2 = some r) :
  Calls Try.prog 57 #[.slice A0 l0.length c0, .int .i64 a1, .int .i64 a2] w fun e w' => e = .returned (.bool r) ∧ Drawn0 w w' := by
 have HR0 := A_ hr0
 have HC0 := A_ hc0
 clear hr0 hc0
 have H := h
 unfold page_numbers.f at H
 clear h
 have H' := A_ H
 clear H
 go_enter Try.func57, Try.ntmps57
 go_wp2
 go_loopg [11] k (fun kq v11 w' => ∃ (x11_1 : Int), v11 = .int .i64 x11_1 ∧ Aside0 (page_numbers.l0 kq l0 a1 a2 l0 (l0.length : Int) x11_1 = some r) ∧ Aside0 (kq ≤ k) ∧ Drawn0 w w')
 case atStart => exact ⟨(0), rs_, H', ⟨Nat.le_refl _⟩, d0_⟩
 case round =>
  clear H'
  obtain ⟨x11_1, rfl, HA, HK1, ⟨m1, rfl⟩⟩ := hrel
  cases gk with
  | zero => exact absurd HA.out (by simp [page_numbers.l0])
  | succ k1 =>
   have H := HA.out
   clear HA
   simp only [page_numbers.l0] at H
   by_cases c4 : x11_1 < (l0.length : Int)
   ·rw [if_pos c4] at H
    have c4b0 : decide (x11_1 < (l0.length : Int)) = true := decide_eq_true c4
    clear c4
    by_cases c5 : 0 ≤ x11_1
    ·rw [if_pos c5] at H
     have c5b0 : decide (0 ≤ x11_1) = true := decide_eq_true c5
     clear c5
     by_cases c6 : x11_1 < (l0.length : Int)
     ·rw [if_pos c6] at H
      have c6b0 : decide (x11_1 < (l0.length : Int)) = true := decide_eq_true c6
      clear c6
      by_cases c7 : ((rd_L11 l0 x11_1).length : Int) = a2
      ·rw [if_pos c7] at H
       have c7b0 : (((rd_L11 l0 x11_1).length : Int) == a2) = true := beq_iff_eq.mpr c7
       have c7b1 : (((rd_L11 l0 x11_1).length : Int) != a2) = false := bne_eq_false_iff_eq.mpr c7
       clear c7
       have H' := A_ H
       clear H
       have p352 : 0 ≤ (x11_1 : Int) := od_
       have q352 : x11_1 < (l0.length : Int) := od_
       obtain ⟨ad352, A352_0, c352_0, e352, hx352_0, hl352_0, hi352_0⟩ := at_L11 HR0.out x11_1 p352 q352
       cases e352
       have HR352_0 := A_ hi352_0
       have HC352_0 := A_ hl352_0
       clear hi352_0 hl352_0
       replace p352 := eq_true p352
       replace q352 := eq_true q352
       go_wp2
       go_roundg k1
       case measure => have := HK1.out; omega
       case rel => exact ⟨(wrap64 (x11_1 + 1)), rs_, H', ⟨by have := HK1.out; omega⟩, d0_⟩
      ·rw [if_neg c7] at H
       have c7b0 : (((rd_L11 l0 x11_1).length : Int) == a2) = false := beq_eq_false_iff_ne.mpr c7
       have c7b1 : (((rd_L11 l0 x11_1).length : Int) != a2) = true := bne_iff_ne.mpr c7
       obtain rfl := Option.some.inj H
       have p352 : 0 ≤ (x11_1 : Int) := od_
       have q352 : x11_1 < (l0.length : Int) := od_
       obtain ⟨ad352, A352_0, c352_0, e352, hx352_0, hl352_0, hi352_0⟩ := at_L11 HR0.out x11_1 p352 q352
       cases e352
       have HR352_0 := A_ hi352_0
       have HC352_0 := A_ hl352_0
       clear hi352_0 hl352_0
       replace p352 := eq_true p352
       replace q352 := eq_true q352
       go_wp2
       go_ret
       exact ⟨rs_, d0_⟩
     ·rw [if_neg c6] at H
      exact absurd H (by simp)
    ·rw [if_neg c5] at H
     exact absurd H (by simp)
   ·rw [if_neg c4] at H
    have c4b0 : decide (x11_1 < (l0.length : Int)) = false := decide_eq_false c4
    clear c4
    obtain rfl := Option.some.inj H
    go_wp2
    go_ret
    exact ⟨rs_, d0_⟩
end Go.Proofs.Yteflolamihhmdaa.Q
