/- AttnAlone: for every input the Go function returns true and leaves its arguments as they were. Conditions: as each theorem states; the last one has none. -/
import Derived.Test.YteflolamihhmdaaRows
import Derived.WalkKit
import Derived.ProofKit
import Derived.OpenShut
import Derived.ShutString
import Derived.ChangeOld
import Derived.Below
import Derived.SizedLaws
import Derived.Test.YteflolamihhmdaaWSized
import Derived.Test.YteflolamihhmdaaCAttnAlone1
import Derived.Test.YteflolamihhmdaaCAttnAlone2
import Derived.Test.YteflolamihhmdaaCAttnAlone3
import Derived.Test.YteflolamihhmdaaCAttnAlone4
namespace Go.Proofs.Yteflolamihhmdaa.Pure
open Go.RowKit Go.Proofs.Yteflolamihhmdaa.Q Go.Proofs.YteflolamihhmdaaW.PrintWords Go.Proofs.YteflolamihhmdaaW.PrintLast

def sumR : List Int → Int
  | [] => 0
  | x :: xs => x + sumR xs
/-- weights: none below 0, none great -/
def WB (l : List Int) : Prop := ∀ x ∈ l, 0 ≤ x ∧ x ≤ 131072
theorem sumR_bd : ∀ {l : List Int}, WB l → 0 ≤ sumR l ∧ sumR l ≤ l.length * 131072
  | [], _ => by simp [sumR]
  | x :: xs, h => by
    have h1 := h x (by simp)
    have h2 := sumR_bd (l := xs) (fun z hz => h z (by simp [hz]))
    simp only [sumR, List.length_cons]
    omega
theorem soft_Sum_loop (l : List Int) (hl : l.length ≤ 1024) (hw : WB l) : ∀ (d k p : Nat) (s : Int), p + d = l.length → d < k → 0 ≤ s → s ≤ p * 131072 → soft_Sum.l0 k s l (l.length : Int) (p : Int) = some (s + sumR (l.drop p)) := by
  intro d
  induction d with
  | zero =>
    intro k p s hp hk h1 h2
    obtain ⟨k, rfl⟩ : ∃ m, k = m + 1 := ⟨k - 1, by omega⟩
    rw [soft_Sum.l0, if_neg (by omega), List.drop_eq_nil_of_le (by omega)]
    simp [sumR]
  | succ d ih =>
    intro k p s hp hk h1 h2
    obtain ⟨k, rfl⟩ : ∃ m, k = m + 1 := ⟨k - 1, by omega⟩
    have hlt : p < l.length := by omega
    have hx := hw _ (rd_mem hlt)
    rw [soft_Sum.l0, if_pos (by omega), if_pos (by omega), if_pos (by omega), wnext hlt (by omega), drop_rd hlt, w64 (x := s + rd l (p : Int)) (by omega) (by omega), ih k (p + 1) _ (by omega) (by omega) (by omega) (by omega), sumR]
    congr 1
    omega
theorem soft_Sum_some {l : List Int} (hl : l.length ≤ 1024) (hw : WB l) {k : Nat} (hk : l.length < k) : soft_Sum.f k l = some (sumR l) := by
  have := soft_Sum_loop l hl hw l.length k 0 0 (by omega) hk (by omega) (by omega)
  simpa [soft_Sum.f] using this
theorem ref_Sum_loop (l : List Int) (hl : l.length ≤ 1024) (hw : WB l) : ∀ (d k p : Nat) (s : Int), p + d = l.length → d < k → 0 ≤ s → s ≤ p * 131072 → credenzaref04_Sum.l0 k l s (p : Int) = some (s + sumR (l.drop p)) := by
  intro d
  induction d with
  | zero =>
    intro k p s hp hk h1 h2
    obtain ⟨k, rfl⟩ : ∃ m, k = m + 1 := ⟨k - 1, by omega⟩
    rw [credenzaref04_Sum.l0, if_neg (by omega), List.drop_eq_nil_of_le (by omega)]
    simp [sumR]
  | succ d ih =>
    intro k p s hp hk h1 h2
    obtain ⟨k, rfl⟩ : ∃ m, k = m + 1 := ⟨k - 1, by omega⟩
    have hlt : p < l.length := by omega
    have hx := hw _ (rd_mem hlt)
    rw [credenzaref04_Sum.l0, if_pos (by omega), if_pos (by omega), wnext hlt (by omega), drop_rd hlt, w64 (x := s + rd l (p : Int)) (by omega) (by omega), ih k (p + 1) _ (by omega) (by omega) (by omega) (by omega), sumR]
    congr 1
    omega
theorem ref_Sum_some {l : List Int} (hl : l.length ≤ 1024) (hw : WB l) {k : Nat} (hk : l.length < k) : credenzaref04_Sum.f k l = some (sumR l) := by
  have := ref_Sum_loop l hl hw l.length k 0 0 (by omega) hk (by omega) (by omega)
  simpa [credenzaref04_Sum.f] using this
theorem weightsR_wb {l : List Int} : WB (weightsR l) := by
  intro x hx
  obtain ⟨y, _, rfl⟩ := List.mem_map.1 hx
  exact expR_bd (wideR_bd _)
theorem weightsR_length (l : List Int) : (weightsR l).length = l.length := by simp [weightsR]
theorem sumR_mem : ∀ {l : List Int} {x : Int}, WB l → x ∈ l → x ≤ sumR l
  | y :: l, x, h, hx => by
    have h1 := h y (by simp)
    have h2 := sumR_bd (l := l) (fun z hz => h z (by simp [hz]))
    simp only [sumR]
    rcases List.mem_cons.1 hx with rfl | hx
    · omega
    · have := sumR_mem (fun z hz => h z (by simp [hz])) hx
      omega
theorem weightsR_pos {l : List Int} (h : 0 < l.length) : 65536 ≤ sumR (weightsR l) := by
  have h1 : wR (topR l) (topR l) ∈ weightsR l := List.mem_map.2 ⟨_, topR_mem h, rfl⟩
  have h2 : wR (topR l) (topR l) = 65536 := by
    unfold wR
    rw [Int.sub_self]
    exact expR_0
  have := sumR_mem weightsR_wb h1
  omega

/-- a token's values, so much each, put to sums -/
def addR (w : Int) : List Int → List Int → List Int
  | s :: ss, x :: xs => (s + w * narR x) :: addR w ss xs
  | _, _ => []
def gR : List Int → List Int → List (List Int) → List Int
  | sums, w :: ws, v :: vs => gR (addR w sums v) ws vs
  | sums, _, _ => sums
theorem addR_length (w : Int) : ∀ (s v : List Int), s.length ≤ v.length → (addR w s v).length = s.length
  | [], [], _ => rfl
  | [], _ :: _, _ => rfl
  | _ :: _, [], h => by simp at h
  | a :: s, b :: v, h => by simp only [addR, List.length_cons]; rw [addR_length w s v (by simpa using h)]
theorem wn_bd {w x : Int} (hw : 0 ≤ w ∧ w ≤ 131072) : -1099511627776 ≤ w * narR x ∧ w * narR x ≤ 1099511627776 := mul_bd (A := 131072) (B := 8388608) (by omega) hw.2 (narR_bd x).1 (narR_bd x).2
/-- all sums are within B -/
def SB (B : Int) (l : List Int) : Prop := ∀ x ∈ l, -B ≤ x ∧ x ≤ B
theorem addR_sb {w B : Int} (hw : 0 ≤ w ∧ w ≤ 131072) : ∀ {s v : List Int}, SB B s → SB (B + 1099511627776) (addR w s v)
  | [], [], _ => by simp [addR, SB]
  | [], _ :: _, _ => by simp [addR, SB]
  | _ :: _, [], _ => by simp [addR, SB]
  | a :: s, b :: v, h => by
    intro x hx
    have h1 := h a (by simp)
    have h2 := wn_bd (x := b) hw
    rcases List.mem_cons.1 hx with rfl | hx
    · omega
    · exact addR_sb hw (fun z hz => h z (by simp [hz])) x hx
theorem gadd_some {w : Int} (hw : 0 ≤ w ∧ w ≤ 131072) {v : List Int} (hv : A32 v) : ∀ (rest pre : List Int), pre.length + rest.length ≤ v.length → SB 4503599627370496 rest → attn_gadd.l w v rest.length pre.length (pre ++ rest) = some (pre ++ addR w rest (v.drop pre.length))
  | [], pre, hl, hs => by
    rw [List.length_nil, attn_gadd.l]
    cases hd : v.drop pre.length <;> simp [addR]
  | s :: rest, pre, hl, hs => by
    simp only [List.length_cons] at hl
    have hlv : pre.length < v.length := by omega
    have h1 := hs s (by simp)
    have h2 := wn_bd (x := rd v (pre.length : Int)) hw
    have hn := narR_bd (rd v (pre.length : Int))
    have e1 : rd (pre ++ s :: rest) (pre.length : Int) = s := by simp [rd]
    have e2 : (pre ++ s :: rest).set pre.length (s + w * narR (rd v (pre.length : Int))) = (pre ++ [s + w * narR (rd v (pre.length : Int))]) ++ rest := by simp
    have ih := gadd_some hw hv rest (pre ++ [s + w * narR (rd v (pre.length : Int))]) (by simp; omega) (fun z hz => hs z (by simp [hz]))
    rw [List.length_append, List.length_singleton] at ih
    rw [List.length_cons, attn_gadd.l, if_pos hlv, attn_narrow_some (hv _ (rd_mem hlv)), Option.bind_some, w64 (x := w * narR (rd v (pre.length : Int))) (by omega) (by omega), e1, w64 (x := s + w * narR (rd v (pre.length : Int))) (by omega) (by omega), e2, ih, drop_rd hlv, addR]
    simp
theorem gsum_some {wide : Nat} (ws : List Int) (hw : WB ws) (hn : ws.length ≤ 1024) : ∀ (vals : List (List Int)) (a : Nat) (sums : List Int), a + vals.length = ws.length → sums.length = wide → (∀ v ∈ vals, v.length = wide ∧ A32 v) → SB (a * 1099511627776) sums → attn_gsum.l ws vals a sums = some (gR sums (ws.drop a) vals) := by
  intro vals
  induction vals with
  | nil =>
    intro a sums ha hs hv hb
    rw [attn_gsum.l]
    cases hd : ws.drop a <;> simp [gR]
  | cons v vals ih =>
    intro a sums ha hs hv hb
    simp only [List.length_cons] at ha
    have hlt : a < ws.length := by omega
    obtain ⟨hvl, hv32⟩ := hv v (by simp)
    have hww := hw _ (rd_mem hlt)
    have h1 := gadd_some hww hv32 sums [] (by simp; omega) (fun x hx => by have := hb x hx; omega)
    simp only [List.nil_append, List.length_nil, List.drop_zero] at h1
    have h2 : SB ((a + 1 : Nat) * 1099511627776) (addR (rd ws (a : Int)) sums v) := by
      have := addR_sb hww (v := v) hb
      intro x hx
      have := this x hx
      omega
    have ih := ih (a + 1) (addR (rd ws (a : Int)) sums v) (by omega) (by rw [addR_length _ _ _ (by omega)]; exact hs) (fun z hz => hv z (by simp [hz])) h2
    rw [attn_gsum.l, if_pos hlt, h1, Option.bind_some, ih, drop_rd hlt, gR]
/-- a sum by the weights' sum -/
def outR (ws : List Int) (x : Int) : Int := narR (rnd x (sumR ws))
theorem gout_some {ws : List Int} (hw : WB ws) (hn : ws.length ≤ 1024) (hp : 0 < sumR ws) {k : Nat} (hk : ws.length < k) : ∀ (xs pre rest : List Int), rest.length = xs.length → SB 4503599627370496 xs → attn_gout.l k ws xs pre.length (pre ++ rest) = some (pre ++ xs.map (outR ws))
  | [], pre, rest, hr, hs => by
    rw [attn_gout.l, List.eq_nil_of_length_eq_zero hr]
    rfl
  | x :: xs, pre, [], hr, hs => by simp at hr
  | x :: xs, pre, r :: rest, hr, hs => by
    have hb := sumR_bd hw
    have hx := hs x (by simp)
    have e2 : (pre ++ r :: rest).set pre.length (narR (rnd x (sumR ws))) = (pre ++ [outR ws x]) ++ rest := by simp [outR]
    have ih := gout_some hw hn hp hk xs (pre ++ [outR ws x]) rest (by simpa using hr) (fun z hz => hs z (by simp [hz]))
    rw [List.length_append, List.length_singleton] at ih
    rw [attn_gout.l, soft_Sum_some hn hw hk, Option.bind_some, fix_Ratio_some (by omega) (by omega) (by omega) (by omega), Option.bind_some, fix_Narrow_some, Option.bind_some, e2, ih]
    simp
theorem gR_sb (ws : List Int) (hw : WB ws) (hn : ws.length ≤ 1024) : ∀ (vals : List (List Int)) (a : Nat) (sums : List Int), a + vals.length ≤ ws.length → SB (a * 1099511627776) sums → SB 4503599627370496 (gR sums (ws.drop a) vals) := by
  intro vals
  induction vals with
  | nil =>
    intro a sums ha hb
    have e : gR sums (ws.drop a) [] = sums := by cases hd : ws.drop a <;> simp [gR]
    rw [e]
    intro x hx
    have := hb x hx
    simp only [List.length_nil] at ha
    omega
  | cons v vals ih =>
    intro a sums ha hb
    simp only [List.length_cons] at ha
    have hlt : a < ws.length := by omega
    have hww := hw _ (rd_mem hlt)
    rw [drop_rd hlt, gR]
    refine ih (a + 1) _ (by omega) ?_
    have := addR_sb hww (v := v) hb
    intro x hx
    have := this x hx
    omega
theorem gR_length : ∀ (ws : List Int) (vals : List (List Int)) (sums : List Int), (∀ v ∈ vals, v.length = sums.length) → (gR sums ws vals).length = sums.length
  | [], vals, sums, _ => by cases vals <;> simp [gR]
  | _ :: _, [], sums, _ => by simp [gR]
  | w :: ws, v :: vals, sums, h => by
    have hv := h v (by simp)
    have hl := addR_length w sums v (by omega)
    rw [gR, gR_length ws vals _ (fun z hz => by rw [hl]; exact h z (by simp [hz])), hl]
/-- what is gathered -/
def mixR (ws : List Int) (vals : List (List Int)) (wide : Nat) : List Int := (gR (List.replicate wide 0) ws vals).map (outR ws)
theorem attn_gather_some {ws : List Int} {vals : List (List Int)} {wide : Nat} (hl : ws.length = vals.length) (hn : ws.length ≤ 1024) (hw : WB ws) (hp : 0 < sumR ws) (hv : ∀ v ∈ vals, v.length = wide ∧ A32 v) {k : Nat} (hk : ws.length < k) : attn_gather.l k ws vals wide = some (mixR ws vals wide) := by
  have h0 : SB ((0 : Nat) * 1099511627776) (List.replicate wide 0) := by
    intro x hx
    obtain ⟨_, rfl⟩ := List.mem_replicate.1 hx
    omega
  have h1 := gsum_some (wide := wide) ws hw hn vals 0 (List.replicate wide 0) (by omega) (by simp) hv h0
  have h2 := gR_sb ws hw hn vals 0 (List.replicate wide 0) (by omega) h0
  have h3 := gR_length (ws.drop 0) vals (List.replicate wide 0) (fun v hv' => by rw [(hv v hv').1]; simp)
  have h4 := gout_some hw hn hp hk (gR (List.replicate wide 0) (ws.drop 0) vals) [] (List.replicate wide 0) (by rw [h3]) h2
  rw [List.drop_zero] at h1 h4
  simp only [List.nil_append, List.length_nil] at h4
  rw [attn_gather.l, h1, Option.bind_some, h4]
  rfl

/-- the sum at one place -/
def colR : List Int → List (List Int) → Int → Int
  | w :: ws, v :: vals, i => w * narR (rd v i) + colR ws vals i
  | _, _, _ => 0
theorem addR_at (w : Int) : ∀ (s v : List Int) (i : Nat), s.length ≤ v.length → i < s.length → rd (addR w s v) (i : Int) = rd s (i : Int) + w * narR (rd v (i : Int))
  | [], v, i, _, h => by simp at h
  | a :: s, [], i, h, _ => by simp at h
  | a :: s, b :: v, 0, _, _ => by simp [addR, rd]
  | a :: s, b :: v, i + 1, h, hi => by
    have ih := addR_at w s v i (by simpa using h) (by simpa using hi)
    simp only [rd, addR] at ih ⊢
    simpa using ih
theorem gR_at : ∀ (ws : List Int) (vals : List (List Int)) (sums : List Int) (i : Nat), (∀ v ∈ vals, v.length = sums.length) → i < sums.length → rd (gR sums ws vals) (i : Int) = rd sums (i : Int) + colR ws vals (i : Int)
  | [], vals, sums, i, _, _ => by cases vals <;> simp [gR, colR]
  | _ :: _, [], sums, i, _, _ => by simp [gR, colR]
  | w :: ws, v :: vals, sums, i, h, hi => by
    have hv := h v (by simp)
    have hl := addR_length w sums v (by omega)
    rw [gR, gR_at ws vals _ i (fun z hz => by rw [hl]; exact h z (by simp [hz])) (by omega), addR_at w sums v i (by omega) hi, colR]
    omega
theorem mixR_length {ws : List Int} {vals : List (List Int)} {wide : Nat} (hv : ∀ v ∈ vals, v.length = wide) : (mixR ws vals wide).length = wide := by
  unfold mixR
  rw [List.length_map, gR_length ws vals _ (fun v h => by rw [hv v h]; simp), List.length_replicate]
theorem mixR_at {ws : List Int} {vals : List (List Int)} {wide : Nat} (hv : ∀ v ∈ vals, v.length = wide) {i : Nat} (hi : i < wide) : rd (mixR ws vals wide) (i : Int) = outR ws (colR ws vals (i : Int)) := by
  have hl := gR_length ws vals (List.replicate wide 0) (fun v h => by rw [hv v h]; simp)
  rw [List.length_replicate] at hl
  have h1 := gR_at ws vals (List.replicate wide 0) i (fun v h => by rw [hv v h]; simp) (by simpa using hi)
  have h2 : rd (List.replicate wide 0) (i : Int) = 0 := by simp [rd, hi]
  rw [h2, Int.zero_add] at h1
  rw [← h1]
  unfold mixR
  rw [rd_at (by rw [List.length_map, hl]; exact hi), rd_at (by rw [hl]; exact hi), List.getElem_map]

def rowAt (l : List (List Int)) (t : Int) : List Int := l.getD t.toNat []
theorem rowAt_at {l : List (List Int)} {t : Nat} (h : t < l.length) : rowAt l (t : Int) = l[t] := by simp [rowAt, List.getD_eq_getElem?_getD, List.getElem?_eq_getElem h]
theorem rowAt_mem {l : List (List Int)} {t : Nat} (h : t < l.length) : rowAt l (t : Int) ∈ l := by rw [rowAt_at h]; exact List.getElem_mem h
theorem drop_row {l : List (List Int)} {p : Nat} (h : p < l.length) : l.drop p = rowAt l (p : Int) :: l.drop (p + 1) := by rw [rowAt_at h]; exact List.drop_eq_getElem_cons h
theorem take_row {l : List (List Int)} {p : Nat} (h : p < l.length) : l.take (p + 1) = l.take p ++ [rowAt l (p : Int)] := by rw [rowAt_at h, List.take_succ_eq_append_getElem h]
theorem rowAt_map {l : List (List Int)} {t : Nat} (h : t < l.length) : rowAt (l.map nars) (t : Int) = nars (rowAt l (t : Int)) := by
  rw [rowAt_at (by simpa using h), rowAt_at h, List.getElem_map]
theorem rd_nars {l : List Int} {i : Nat} (h : i < l.length) : rd (nars l) (i : Int) = narR (rd l (i : Int)) := by
  rw [rd_at (by rw [nars_length]; exact h), rd_at h]
  simp [nars]
end Go.Proofs.Yteflolamihhmdaa.Pure

namespace Go.Proofs.Yteflolamihhmdaa.Pure
open Go.RowKit Go.Proofs.Yteflolamihhmdaa.Q Go.Proofs.YteflolamihhmdaaW.PrintWords Go.Proofs.YteflolamihhmdaaW.PrintLast

theorem rdL (l : List (List Int)) (t : Int) : rd_L8 l t = rowAt l t := rfl
/-- all rows are of n numbers -/
def Rows (n : Nat) (l : List (List Int)) : Prop := ∀ r ∈ l, r.length = n
def AA32 (l : List (List Int)) : Prop := ∀ r ∈ l, A32 r
theorem scores_some {q : List Int} (h1 : 1 ≤ q.length) (h2 : q.length ≤ 16) {k : Nat} (hk : 40 ≤ k) : ∀ (keys : List (List Int)) (out : List Int), Rows q.length keys → AA32 keys → attn_scores.l k (nars q) keys out = some (out ++ keys.map (scoreR q))
  | [], out, _, _ => by simp [attn_scores.l]
  | key :: keys, out, hr, ha => by
    have hl := hr key (by simp)
    have hb := dotR_bd (nars_nb q) (nars_nb key)
    rw [nars_length] at hb
    have e1 := sum_loop key (ha key (by simp)) (nars q) 0 0 (by rw [nars_length]; omega) (by rw [nars_length]; omega) (nars_nb q) (by omega) (by omega)
    rw [List.drop_zero, Int.zero_add] at e1
    have e2 := attn_scaled_some (s := dotR (nars q) (nars key)) (n := q.length) h1 h2 (by omega) (by omega) hk
    have ih := scores_some h1 h2 hk keys (out ++ [scoreR q key]) (fun r h => hr r (by simp [h])) (fun r h => ha r (by simp [h]))
    rw [attn_scores.l, e1, Option.bind_some, nars_length, e2, Option.bind_some]
    rw [show scaledR (dotR (nars q) (nars key)) q.length = scoreR q key from rfl, ih]
    simp

theorem mix_l1 (ws : List Int) (vals : List (List Int)) (wide i k : Nat) (acc : List Int) (hw : WB ws) (hl : ws.length = vals.length) (hn : ws.length ≤ 1024) (hr : Rows wide vals) (hi : i < wide) : ∀ (d p : Nat) (s : Int), p + d = vals.length → -(p * 1099511627776 : Int) ≤ s → s ≤ p * 1099511627776 →
    credenzaref04_Mix.l1 (k + d + 1) ws (vals.map nars) acc (i : Int) s (p : Int) = (credenzaref04_Sum.f k ws).bind fun t => (credenzaref01_Ratio.f (s + colR (ws.drop p) (vals.drop p) (i : Int)) t).bind fun y => (credenzaref01_Narrow.f y).bind fun z => if acc.length < 35184372088832 then credenzaref04_Mix.l0 k ws (vals.map nars) (acc ++ [z]) (wrap64 ((i : Int) + 1)) else none := by
  intro d
  induction d with
  | zero =>
    intro p s hp h1 h2
    rw [credenzaref04_Mix.l1, if_neg (by rw [List.length_map]; omega), show ws.drop p = [] from List.drop_eq_nil_of_le (by omega), show vals.drop p = [] from List.drop_eq_nil_of_le (by omega)]
    simp only [colR, Int.add_zero]
  | succ d ih =>
    intro p s hp h1 h2
    have hlt : p < vals.length := by omega
    have hlw : p < ws.length := by omega
    have hrl := hr _ (rowAt_mem hlt)
    have hww := hw _ (rd_mem hlw)
    have hm := wn_bd (x := rd (rowAt vals (p : Int)) (i : Int)) hww
    have hnr := narR_bd (rd (rowAt vals (p : Int)) (i : Int))
    rw [show k + (d + 1) + 1 = (k + d + 1) + 1 by omega, credenzaref04_Mix.l1, rdL, rowAt_map hlt, rd_nars (by omega), nars_length, hrl]
    rw [if_pos (by rw [List.length_map]; omega), if_pos (by omega), if_pos (by omega), if_pos (by omega), if_pos (by omega), wnext hlt (by omega), w64 (x := narR (rd (rowAt vals (p : Int)) (i : Int))) (by omega) (by omega), w64 (x := rd ws (p : Int) * narR (rd (rowAt vals (p : Int)) (i : Int))) (by omega) (by omega)]
    have hc : colR (ws.drop p) (vals.drop p) (i : Int) = rd ws (p : Int) * narR (rd (rowAt vals (p : Int)) (i : Int)) + colR (ws.drop (p + 1)) (vals.drop (p + 1)) (i : Int) := by rw [drop_rd hlw, drop_row hlt, colR]
    rw [hc]
    generalize rd ws (p : Int) * narR (rd (rowAt vals (p : Int)) (i : Int)) = m at *
    rw [w64 (x := s + m) (by omega) (by omega), ih (p + 1) (s + m) (by omega) (by omega) (by omega), Int.add_assoc]
theorem colR_bd : ∀ (ws : List Int) (vals : List (List Int)) (i : Int), WB ws → -(ws.length * 1099511627776 : Int) ≤ colR ws vals i ∧ colR ws vals i ≤ ws.length * 1099511627776 := by
  intro ws
  induction ws with
  | nil => intro vals i _; cases vals <;> simp [colR]
  | cons w ws ih =>
    intro vals i h
    cases vals with
    | nil => simp only [colR, List.length_cons]; omega
    | cons v vals =>
      have h1 := ih vals i (fun z hz => h z (by simp [hz]))
      have h2 := wn_bd (x := rd v i) (h w (by simp))
      simp only [colR, List.length_cons]
      omega
theorem mix_l0 (ws : List Int) (vals : List (List Int)) (wide : Nat) (hw : WB ws) (hp : 0 < sumR ws) (hl : ws.length = vals.length) (hn : ws.length ≤ 1024) (h0 : 0 < vals.length) (hr : Rows wide vals) (hwd : wide ≤ 16) : ∀ (d k i : Nat), i + d = wide → (d + 1) * (vals.length + 2) + 2 ≤ k → credenzaref04_Mix.l0 k ws (vals.map nars) ((mixR ws vals wide).take i) (i : Int) = some (mixR ws vals wide) := by
  intro d
  have hml := mixR_length (ws := ws) hr
  have hrow0 : (rd_L8 (vals.map nars) 0).length = wide := by
    have h1 := rowAt_map h0
    have h2 : ((0 : Nat) : Int) = 0 := rfl
    rw [h2] at h1
    rw [rdL, h1, nars_length]
    exact hr _ (rowAt_mem (t := 0) h0)
  have hsb := sumR_bd hw
  induction d with
  | zero =>
    intro k i hi hk
    obtain ⟨k, rfl⟩ : ∃ m, k = m + 1 := ⟨k - 1, by omega⟩
    rw [credenzaref04_Mix.l0, if_pos (by rw [List.length_map]; omega), hrow0, if_neg (by omega), List.take_of_length_le (by omega)]
  | succ d ih =>
    intro k i hi hk
    have hk2 : (d + 1 + 1) * (vals.length + 2) = (d + 1) * (vals.length + 2) + (vals.length + 2) := by rw [Nat.add_mul, Nat.one_mul]
    obtain ⟨k, rfl⟩ : ∃ m, k = (m + vals.length + 1) + 1 := ⟨k - vals.length - 2, by omega⟩
    have hlt : i < wide := by omega
    have hkk : (d + 1) * (vals.length + 2) + 2 ≤ k := by omega
    have hkn : ws.length < k := by
      have : 1 * (vals.length + 2) ≤ (d + 1) * (vals.length + 2) := Nat.mul_le_mul_right _ (by omega)
      omega
    have hcb := colR_bd ws vals (i : Int) hw
    have e1 := mix_l1 ws vals wide i k ((mixR ws vals wide).take i) hw hl hn hr hlt vals.length 0 0 (by omega) (by omega) (by omega)
    rw [List.drop_zero, List.drop_zero, Int.zero_add, show ((0 : Nat) : Int) = 0 from rfl] at e1
    have e2 : (mixR ws vals wide).take i ++ [outR ws (colR ws vals (i : Int))] = (mixR ws vals wide).take (i + 1) := by rw [take_rd (by omega), mixR_at hr hlt]
    rw [credenzaref04_Mix.l0, if_pos (by rw [List.length_map]; omega), hrow0, if_pos (by omega), e1, ref_Sum_some hn hw hkn, Option.bind_some, ref_Ratio_some (by omega) (by omega) (by omega) (by omega), Option.bind_some, ref_Narrow_some, Option.bind_some, if_pos (by rw [List.length_take]; omega), wnext hlt (by omega), show narR (rnd (colR ws vals (i : Int)) (sumR ws)) = outR ws (colR ws vals (i : Int)) from rfl, e2]
    exact ih k (i + 1) (by omega) hkk
theorem ref_Mix_some {ws : List Int} {vals : List (List Int)} {wide : Nat} (hw : WB ws) (hp : 0 < sumR ws) (hl : ws.length = vals.length) (hn : ws.length ≤ 1024) (h0 : 0 < vals.length) (hr : Rows wide vals) (hwd : wide ≤ 16) {k : Nat} (hk : (wide + 1) * (vals.length + 2) + 2 ≤ k) : credenzaref04_Mix.f k ws (vals.map nars) = some (mixR ws vals wide) := by
  have := mix_l0 ws vals wide hw hp hl hn h0 hr hwd wide k 0 (by omega) hk
  rw [List.take_zero] at this
  exact this
/-- what a query gathers, as the document has it -/
def gatherR (q : List Int) (keys vals : List (List Int)) : List Int := mixR (weightsR (keys.map (scoreR q))) vals q.length
theorem scoreR_i32 (q key : List Int) : I32 (scoreR q key) := wideR_bd _
theorem scores_a32 (q : List Int) (keys : List (List Int)) : A32 (keys.map (scoreR q)) := by
  intro x hx
  obtain ⟨y, _, rfl⟩ := List.mem_map.1 hx
  exact scoreR_i32 q y
theorem ref_Gather_loop (q : List Int) (keys vals : List (List Int)) (h1 : 1 ≤ q.length) (h2 : q.length ≤ 16) (hq : A32 q) (hl : keys.length = vals.length) (hn : keys.length ≤ 40) (h0 : 0 < keys.length) (hk : Rows q.length keys) (hv : Rows q.length vals) (hak : AA32 keys) (hav : AA32 vals) : ∀ (d k p : Nat), p + d = keys.length → 900 + d ≤ k → credenzaref14_Gather.l0 k q keys vals ((keys.take p).map (scoreR q)) ((vals.take p).map nars) (p : Int) = some (gatherR q keys vals) := by
  intro d
  induction d with
  | zero =>
    intro k p hp hkk
    obtain ⟨k, rfl⟩ : ∃ m, k = m + 1 := ⟨k - 1, by omega⟩
    have hls : (keys.map (scoreR q)).length = keys.length := List.length_map _
    have hwl := weightsR_length (keys.map (scoreR q))
    have e1 := ref_Weights_some (l := keys.map (scoreR q)) (by omega) (by omega) (scores_a32 q keys) (k := k) (by omega)
    have hm : (q.length + 1) * (vals.length + 2) ≤ 17 * 42 := Nat.mul_le_mul (by omega) (by omega)
    have e2 := ref_Mix_some (ws := weightsR (keys.map (scoreR q))) (vals := vals) (wide := q.length) weightsR_wb (by have := weightsR_pos (l := keys.map (scoreR q)) (by omega); omega) (by omega) (by omega) (by omega) hv h2 (k := k) (by omega)
    rw [credenzaref14_Gather.l0, if_neg (by omega), List.take_of_length_le (by omega), List.take_of_length_le (by omega), e1, Option.bind_some, e2, Option.bind_some, gatherR]
  | succ d ih =>
    intro k p hp hkk
    obtain ⟨k, rfl⟩ : ∃ m, k = m + 1 := ⟨k - 1, by omega⟩
    have hlt : p < keys.length := by omega
    have hlv : p < vals.length := by omega
    have hrk := hk _ (rowAt_mem hlt)
    have hrv := hv _ (rowAt_mem hlv)
    have e1 := ref_Score_some (q := q) (key := rowAt keys (p : Int)) (k := k) hrk.symm h1 h2 hq (hak _ (rowAt_mem hlt)) (by omega)
    have e2 := ref_Narrow_some' (rowAt vals (p : Int)) (by omega) (hav _ (rowAt_mem hlv)) (k := k) (by omega)
    have e3 : (keys.take p).map (scoreR q) ++ [scoreR q (rowAt keys (p : Int))] = (keys.take (p + 1)).map (scoreR q) := by rw [take_row hlt]; simp
    have e4 : (vals.take p).map nars ++ [nars (rowAt vals (p : Int))] = (vals.take (p + 1)).map nars := by rw [take_row hlv]; simp
    rw [credenzaref14_Gather.l0, if_pos (by omega), if_pos (by omega), rdL, rdL, e1, Option.bind_some, if_pos (by rw [List.length_map, List.length_take]; omega), if_pos (by omega), e2, Option.bind_some, if_pos (by rw [List.length_map, List.length_take]; omega), wnext hlt (by omega), e3, e4]
    exact ih k (p + 1) (by omega) (by omega)
theorem ref_Gather_some {q : List Int} {keys vals : List (List Int)} (h1 : 1 ≤ q.length) (h2 : q.length ≤ 16) (hq : A32 q) (hl : keys.length = vals.length) (hn : keys.length ≤ 40) (h0 : 0 < keys.length) (hk : Rows q.length keys) (hv : Rows q.length vals) (hak : AA32 keys) (hav : AA32 vals) {k : Nat} (hkk : 1000 ≤ k) : credenzaref14_Gather.f k q keys vals = some (gatherR q keys vals) :=
  ref_Gather_loop q keys vals h1 h2 hq hl hn h0 hk hv hak hav keys.length k 0 (by omega) (by omega)

/-- are a query and lists right? -/
def Right (q : List Int) (keys vals : List (List Int)) : Prop := keys.length = vals.length ∧ 1 ≤ q.length ∧ q.length ≤ 16 ∧ Rows q.length keys ∧ Rows q.length vals
theorem shaped_loop (l : List (List Int)) (n : Nat) (hl : l.length ≤ 1000000) : ∀ (d k p : Nat), p + d = l.length → d < k → ∃ b, attn_shaped.l0 k (n : Int) l (l.length : Int) (p : Int) = some b ∧ (b = true ↔ Rows n (l.drop p)) := by
  intro d
  induction d with
  | zero =>
    intro k p hp hk
    obtain ⟨k, rfl⟩ : ∃ m, k = m + 1 := ⟨k - 1, by omega⟩
    refine ⟨true, by rw [attn_shaped.l0, if_neg (by omega)], ?_⟩
    rw [List.drop_eq_nil_of_le (by omega)]
    simp [Rows]
  | succ d ih =>
    intro k p hp hk
    obtain ⟨k, rfl⟩ : ∃ m, k = m + 1 := ⟨k - 1, by omega⟩
    have hlt : p < l.length := by omega
    rw [attn_shaped.l0, if_pos (by omega), if_pos (by omega), if_pos (by omega), rdL, drop_row hlt]
    by_cases c : (rowAt l (p : Int)).length = n
    · rw [if_pos (by omega), wnext hlt (by omega)]
      obtain ⟨b, h1, h2⟩ := ih k (p + 1) (by omega) (by omega)
      refine ⟨b, h1, h2.trans ?_⟩
      simp [Rows, c]
    · refine ⟨false, by rw [if_neg (by omega)], ?_⟩
      simp [Rows, c]
theorem shaped_some (l : List (List Int)) (n : Nat) (hl : l.length ≤ 1000000) {k : Nat} (hk : l.length < k) : ∃ b, attn_shaped.f k l (n : Int) = some b ∧ (b = true ↔ Rows n l) := by
  have := shaped_loop l n hl l.length k 0 (by omega) hk
  rw [List.drop_zero] at this
  exact this
/-- an error's number; 0: a query can gather -/
def RightIs (q : List Int) (keys vals : List (List Int)) (e : Int) : Prop := (keys.length = 0 ∧ e = 14) ∨ (0 < keys.length ∧ 1024 < keys.length ∧ e = 12) ∨ (0 < keys.length ∧ keys.length ≤ 1024 ∧ Right q keys vals ∧ e = 0) ∨ (0 < keys.length ∧ keys.length ≤ 1024 ∧ ¬ Right q keys vals ∧ e = 25)
theorem getD0 {l : List (List Int)} (h : 0 < l.length) : l.getD 0 [] ∈ l := rowAt_mem (t := 0) h
theorem attn_right_some {q : List Int} {keys vals : List (List Int)} (hv : vals.length ≤ 1000000) {k : Nat} (hkv : vals.length < k) : ∃ e, attn_right.f k q keys vals = some e ∧ RightIs q keys vals e := by
  unfold attn_right.f RightIs
  by_cases c1 : keys.length = 0
  · exact ⟨14, by rw [if_pos c1], .inl ⟨c1, rfl⟩⟩
  rw [if_neg c1]
  by_cases c2 : 1024 < keys.length
  · exact ⟨12, by rw [if_pos c2], .inr (.inl ⟨by omega, c2, rfl⟩)⟩
  rw [if_neg c2]
  have hm := getD0 (l := keys) (by omega)
  have no : ∀ h : ¬ Right q keys vals, ∃ e, some (25 : Int) = some e ∧ ((keys.length = 0 ∧ e = 14) ∨ (0 < keys.length ∧ 1024 < keys.length ∧ e = 12) ∨ (0 < keys.length ∧ keys.length ≤ 1024 ∧ Right q keys vals ∧ e = 0) ∨ (0 < keys.length ∧ keys.length ≤ 1024 ∧ ¬ Right q keys vals ∧ e = 25)) := fun h => ⟨25, rfl, .inr (.inr (.inr ⟨by omega, by omega, h, rfl⟩))⟩
  by_cases c3 : keys.length = vals.length
  · rw [if_pos c3]
    unfold attn_sized.f
    by_cases c4 : 1 ≤ (keys.getD 0 []).length
    · rw [if_pos (by omega)]
      by_cases c5 : (keys.getD 0 []).length ≤ 16
      · rw [decide_eq_true (by omega), Option.bind_some, if_pos rfl]
        by_cases c6 : q.length = (keys.getD 0 []).length
        · rw [if_pos c6]
          obtain ⟨b, hb, hb2⟩ := shaped_some keys (keys.getD 0 []).length (by omega) (k := k) (by omega)
          obtain ⟨b', hb', hb2'⟩ := shaped_some vals (keys.getD 0 []).length hv hkv
          rw [← c6] at hb2 hb2'
          rw [hb, Option.bind_some]
          cases b with
          | false =>
            rw [if_neg (by simp)]
            exact no (fun h => by have := hb2.2 h.2.2.2.1; cases this)
          | true =>
            rw [if_pos rfl, hb', Option.bind_some]
            cases b' with
            | false =>
              rw [if_neg (by simp)]
              exact no (fun h => by have := hb2'.2 h.2.2.2.2; cases this)
            | true =>
              rw [if_pos rfl]
              exact ⟨0, rfl, .inr (.inr (.inl ⟨by omega, by omega, ⟨c3, by omega, by omega, hb2.1 rfl, hb2'.1 rfl⟩, rfl⟩))⟩
        · rw [if_neg c6]
          exact no (fun h => c6 (h.2.2.2.1 _ hm).symm)
      · rw [decide_eq_false (by omega), Option.bind_some, if_neg (by simp)]
        exact no (fun h => by have := h.2.2.2.1 _ hm; have := h.2.2.1; omega)
    · rw [if_neg (by omega), Option.bind_some, if_neg (by simp)]
      exact no (fun h => by have := h.2.2.2.1 _ hm; have := h.2.1; omega)
  · rw [if_neg c3]
    exact no (fun h => c3 h.1)
theorem ref_right_loop (keys vals : List (List Int)) (n : Nat) (hl : keys.length = vals.length) (hn : keys.length ≤ 1024) : ∀ (d k p : Nat), p + d = keys.length → d < k → (Rows n (keys.drop p) ∧ Rows n (vals.drop p) ∧ credenzaref14_Right.l0 k keys vals (n : Int) (p : Int) = some 0) ∨ (¬ (Rows n (keys.drop p) ∧ Rows n (vals.drop p)) ∧ credenzaref14_Right.l0 k keys vals (n : Int) (p : Int) = some 25) := by
  intro d
  induction d with
  | zero =>
    intro k p hp hk
    obtain ⟨k, rfl⟩ : ∃ m, k = m + 1 := ⟨k - 1, by omega⟩
    refine .inl ⟨?_, ?_, by rw [credenzaref14_Right.l0, if_neg (by omega)]⟩
    · rw [List.drop_eq_nil_of_le (by omega)]; simp [Rows]
    · rw [List.drop_eq_nil_of_le (by omega)]; simp [Rows]
  | succ d ih =>
    intro k p hp hk
    obtain ⟨k, rfl⟩ : ∃ m, k = m + 1 := ⟨k - 1, by omega⟩
    have hlt : p < keys.length := by omega
    have hlv : p < vals.length := by omega
    rw [credenzaref14_Right.l0, if_pos (by omega), if_pos (by omega), rdL, rdL, drop_row hlt, drop_row hlv]
    by_cases c : (rowAt keys (p : Int)).length = n
    · rw [if_pos (by omega), if_pos (by omega)]
      by_cases c2 : (rowAt vals (p : Int)).length = n
      · rw [if_pos (by omega), wnext hlt (by omega)]
        rcases ih k (p + 1) (by omega) (by omega) with ⟨h1, h2, h3⟩ | ⟨h1, h3⟩
        · exact .inl ⟨by simpa [Rows, c] using h1, by simpa [Rows, c2] using h2, h3⟩
        · exact .inr ⟨fun h => h1 ⟨fun r hr => h.1 r (by simp [hr]), fun r hr => h.2 r (by simp [hr])⟩, h3⟩
      · exact .inr ⟨fun h => c2 (h.2 _ (by simp)), by rw [if_neg (by omega)]⟩
    · exact .inr ⟨fun h => c (h.1 _ (by simp)), by rw [if_neg (by omega)]⟩
theorem ref_Right_some {q : List Int} {keys vals : List (List Int)} {k : Nat} (hk : 1026 < k) : ∃ e, credenzaref14_Right.f k q keys vals = some e ∧ RightIs q keys vals e := by
  obtain ⟨k, rfl⟩ : ∃ m, k = m + 1 := ⟨k - 1, by omega⟩
  have j25 : ∀ a b : List (List Int), ∀ n : Int, credenzaref14_Right.j0 (k + 1) a b n true = some 25 := fun a b n => by rw [credenzaref14_Right.j0, if_pos rfl]
  have jl : ∀ a b : List (List Int), ∀ n : Int, credenzaref14_Right.j0 (k + 1) a b n false = credenzaref14_Right.l0 k a b n 0 := fun a b n => by rw [credenzaref14_Right.j0, if_neg (by simp)]
  unfold credenzaref14_Right.f RightIs
  by_cases c1 : keys.length = 0
  · exact ⟨14, by rw [if_pos (by omega)], .inl ⟨c1, rfl⟩⟩
  rw [if_neg (by omega)]
  by_cases c2 : 1024 < keys.length
  · exact ⟨12, by rw [if_pos (by omega)], .inr (.inl ⟨by omega, c2, rfl⟩)⟩
  rw [if_neg (by omega), if_pos (by omega), rdL]
  have hm : rowAt keys 0 ∈ keys := rowAt_mem (t := 0) (by omega)
  have no : ∀ h : ¬ Right q keys vals, ∃ e, some (25 : Int) = some e ∧ ((keys.length = 0 ∧ e = 14) ∨ (0 < keys.length ∧ 1024 < keys.length ∧ e = 12) ∨ (0 < keys.length ∧ keys.length ≤ 1024 ∧ Right q keys vals ∧ e = 0) ∨ (0 < keys.length ∧ keys.length ≤ 1024 ∧ ¬ Right q keys vals ∧ e = 25)) := fun h => ⟨25, rfl, .inr (.inr (.inr ⟨by omega, by omega, h, rfl⟩))⟩
  by_cases c3 : keys.length = vals.length
  · rw [if_pos (by omega)]
    by_cases c6 : q.length = (rowAt keys 0).length
    · rw [if_pos (by omega)]
      by_cases c4 : (rowAt keys 0).length < 1
      · rw [if_pos (by omega), j25]
        exact no (fun h => by have := h.2.1; omega)
      · rw [if_neg (by omega)]
        by_cases c5 : 16 < (rowAt keys 0).length
        · rw [decide_eq_true (by omega), j25]
          exact no (fun h => by have := h.2.2.1; omega)
        · rw [decide_eq_false (by omega), jl]
          have := ref_right_loop keys vals (rowAt keys 0).length c3 (by omega) keys.length k 0 (by omega) (by omega)
          rw [List.drop_zero, List.drop_zero] at this
          rcases this with ⟨h1, h2, h3⟩ | ⟨h1, h3⟩
          · rw [← c6] at h1 h2
            exact ⟨0, h3, .inr (.inr (.inl ⟨by omega, by omega, ⟨c3, by omega, by omega, h1, h2⟩, rfl⟩))⟩
          · rw [← c6] at h1
            exact ⟨25, h3, .inr (.inr (.inr ⟨by omega, by omega, fun h => h1 ⟨h.2.2.2.1, h.2.2.2.2⟩, rfl⟩))⟩
    · rw [if_neg (by omega), j25]
      exact no (fun h => c6 (h.2.2.2.1 _ hm).symm)
  · rw [if_neg (by omega), j25]
    exact no (fun h => c3 h.1)
theorem RightIs.one {q : List Int} {keys vals : List (List Int)} {e e' : Int} (h : RightIs q keys vals e) (h' : RightIs q keys vals e') : e = e' := by
  unfold RightIs at h h'
  rcases h with ⟨h1, rfl⟩ | ⟨h1, h2, rfl⟩ | ⟨h1, h2, h3, rfl⟩ | ⟨h1, h2, h3, rfl⟩ <;> rcases h' with ⟨h1', rfl⟩ | ⟨h1', h2', rfl⟩ | ⟨h1', h2', h3', rfl⟩ | ⟨h1', h2', h3', rfl⟩ <;> first | rfl | omega | exact absurd h3 h3' | exact absurd h3' h3
theorem attn_Gather_some {q : List Int} {keys vals : List (List Int)} (h0 : 0 < keys.length) (hn : keys.length ≤ 1024) (hr : Right q keys vals) (hq : A32 q) (hak : AA32 keys) (hav : AA32 vals) {k : Nat} (hk : 1100 < k) : attn_Gather.f k q keys vals = some (gatherR q keys vals, 0) := by
  obtain ⟨e, he, hi⟩ := attn_right_some (q := q) (keys := keys) (vals := vals) (by have := hr.1; omega) (k := k) (by have := hr.1; omega)
  have hz : e = 0 := hi.one (.inr (.inr (.inl ⟨h0, hn, hr, rfl⟩)))
  subst hz
  obtain ⟨hl, h1, h2, hrk, hrv⟩ := hr
  have hls : (keys.map (scoreR q)).length = keys.length := List.length_map _
  have hwl := weightsR_length (keys.map (scoreR q))
  have e1 := attn_cut_some q (by omega) hq (k := k) (by omega)
  have e2 := scores_some h1 h2 (k := k) (by omega) keys [] hrk hak
  rw [List.nil_append] at e2
  have e3 := soft_Weights_some (l := keys.map (scoreR q)) (by omega) (by omega) (scores_a32 q keys) (k := k) (by omega)
  have e4 := attn_gather_some (ws := weightsR (keys.map (scoreR q))) (vals := vals) (wide := q.length) (by omega) (by omega) weightsR_wb (by have := weightsR_pos (l := keys.map (scoreR q)) (by omega); omega) (fun v hv => ⟨hrv v hv, hav v hv⟩) (k := k) (by omega)
  rw [attn_Gather.f, attn_Fused.f, he, Option.bind_some, if_pos rfl, e1, Option.bind_some, e2, Option.bind_some, e3, Option.bind_some, if_pos rfl, e4, Option.bind_some, gatherR]
theorem attn_Gather_no {q : List Int} {keys vals : List (List Int)} {e : Int} (hv : vals.length ≤ 1000000) (hi : RightIs q keys vals e) (h : e ≠ 0) {k : Nat} (hkv : vals.length < k) : attn_Gather.f k q keys vals = some ([], e) := by
  obtain ⟨e', he, hi'⟩ := attn_right_some (q := q) (keys := keys) (vals := vals) hv (k := k) hkv
  have hz : e' = e := hi'.one hi
  subst hz
  rw [attn_Gather.f, attn_Fused.f, he, Option.bind_some, if_neg h]
end Go.Proofs.Yteflolamihhmdaa.Pure

namespace Go.Proofs.Yteflolamihhmdaa.Q
open Go.RowKit Go.Proofs.YteflolamihhmdaaW.PrintWords Go.Proofs.YteflolamihhmdaaW.PrintLast Go.Proofs.YteflolamihhmdaaW.PrintMore
attribute [local go_sem] max2_int min2_int max_two min_two max_three min_three max_four min_four   -- for this text's walks alone
set_option linter.unusedVariables false
set_option linter.unusedSimpArgs false

/-! ### credenzalaw14_light: function 11 -/
mutual
def credenzalaw14_light.l0 : Nat → List (List (List Int)) → Int → Int → Option (Bool)
  | 0, _, _, _ => none
  | k + 1, x7, x8, x9 => if x9 < x8 then (if 0 ≤ x9 then (if x9 < (x7.length : Int) then (if ((rd_L9 x7 x9).length : Int) > 40 then (some false) else (credenzalaw14_light.l1 k x7 x8 x9 (rd_L9 x7 x9) ((rd_L9 x7 x9).length : Int) 0)) else (none)) else (none)) else (some true)
def credenzalaw14_light.l1 : Nat → List (List (List Int)) → Int → Int → List (List Int) → Int → Int → Option (Bool)
  | 0, _, _, _, _, _, _ => none
  | k + 1, x7, x8, x9, x16, x17, x18 => if x18 < x17 then (if 0 ≤ x18 then (if x18 < (x16.length : Int) then (if ((rd_L8 x16 x18).length : Int) > 40 then (some false) else (credenzalaw14_light.l1 k x7 x8 x9 x16 x17 (wrap64 (x18 + 1)))) else (none)) else (none)) else (credenzalaw14_light.l0 k x7 x8 (wrap64 (x9 + 1)))
end
def credenzalaw14_light.f (k : Nat) (l0 : List (List (List Int))) : Option (Bool) := credenzalaw14_light.l0 k l0 (l0.length : Int) 0
theorem credenzalaw14_light.mono_l : ∀ k, (∀ y0 y1 y2, LeO (credenzalaw14_light.l0 k y0 y1 y2) (credenzalaw14_light.l0 (k + 1) y0 y1 y2)) ∧ (∀ y0 y1 y2 y3 y4 y5, LeO (credenzalaw14_light.l1 k y0 y1 y2 y3 y4 y5) (credenzalaw14_light.l1 (k + 1) y0 y1 y2 y3 y4 y5))
  | 0 => ⟨fun _ _ _ r h => by simp [credenzalaw14_light.l0] at h, fun _ _ _ _ _ _ r h => by simp [credenzalaw14_light.l1] at h⟩
  | k + 1 => by
    obtain ⟨ih0, ih1⟩ := credenzalaw14_light.mono_l k
    refine ⟨?_, ?_⟩
    · intro y0 y1 y2
      unfold credenzalaw14_light.l0
      repeat' first
      | (with_reducible exact ih0 _ _ _)
      | (with_reducible exact ih1 _ _ _ _ _ _)
      | (with_reducible exact LeO.refl _)
      | (with_reducible exact LeO.none _)
      | (with_reducible refine LeO.ite ?_ ?_)
      | (with_reducible refine LeO.bind ?_ (fun _ => ?_))
      | exact ih0 _ _ _
      | exact ih1 _ _ _ _ _ _
      | exact LeO.none _
      | refine LeO.ite ?_ ?_
      | refine LeO.bind ?_ (fun _ => ?_)
    · intro y0 y1 y2 y3 y4 y5
      unfold credenzalaw14_light.l1
      repeat' first
      | (with_reducible exact ih0 _ _ _)
      | (with_reducible exact ih1 _ _ _ _ _ _)
      | (with_reducible exact LeO.refl _)
      | (with_reducible exact LeO.none _)
      | (with_reducible refine LeO.ite ?_ ?_)
      | (with_reducible refine LeO.bind ?_ (fun _ => ?_))
      | exact ih0 _ _ _
      | exact ih1 _ _ _ _ _ _
      | exact LeO.none _
      | refine LeO.ite ?_ ?_
      | refine LeO.bind ?_ (fun _ => ?_)
theorem credenzalaw14_light.mono : ∀ a0 k, LeO (credenzalaw14_light.f k a0) (credenzalaw14_light.f (k + 1) a0) := by
  intro a0 k
  obtain ⟨ih0, ih1⟩ := credenzalaw14_light.mono_l k
  unfold credenzalaw14_light.f
  repeat' first
      | (with_reducible exact ih0 _ _ _)
      | (with_reducible exact ih1 _ _ _ _ _ _)
      | (with_reducible exact LeO.refl _)
      | (with_reducible exact LeO.none _)
      | (with_reducible refine LeO.ite ?_ ?_)
      | (with_reducible refine LeO.bind ?_ (fun _ => ?_))
      | exact ih0 _ _ _
      | exact ih1 _ _ _ _ _ _
      | exact LeO.none _
      | refine LeO.ite ?_ ?_
      | refine LeO.bind ?_ (fun _ => ?_)
set_option maxHeartbeats 8000000 in
set_option maxRecDepth 100000 in
theorem credenzalaw14_light.calls (k : Nat) (A0 : Option Addr) (c0 : Nat) (l0 : List (List (List Int))) (r : Bool) (w : World) (hr0 : Kd.C (Kd.slice 22 (Kd.slice 21 (Kd.int .i32))) w A0 l0.length l0) (hc0 : l0.length ≤ c0) (h : credenzalaw14_light.f k l0 = some r) :
    Calls Try.prog 11 #[.slice A0 l0.length c0] w fun e w' => e = .returned (.bool r) ∧ Drawn0 w w' := by
  have HR0 := Aside0.mk hr0
  have HC0 := Aside0.mk hc0
  clear hr0 hc0
  have H : (credenzalaw14_light.l0 k l0 (l0.length : Int) 0) = some r := h
  clear h
  have H' := Aside0.mk H
  clear H
  go_enter Try.func11, Try.ntmps11
  go_wp2
  go_loopg [9] k (fun kq v9 w' => ∃ (x9_1 : Int), v9 = .int .i64 x9_1 ∧ Aside0 (credenzalaw14_light.l0 kq l0 (l0.length : Int) x9_1 = some r) ∧ Aside0 (kq ≤ k) ∧ Drawn0 w w')
  case atStart => exact ⟨(0), (by first | rfl | (simp; done) | (simp [*]; done)), H', ⟨Nat.le_refl _⟩, by repeat (first | exact Drawn0.refl _ | apply Drawn0.step)⟩
  case round =>
    clear H'
    try clear c1
    obtain ⟨x9_1, rfl, HA, HK1, ⟨m1, rfl⟩⟩ := hrel
    cases gk with
    | zero => exact absurd HA.out (by simp [credenzalaw14_light.l0])
    | succ k1 =>
      have H := HA.out
      clear HA
      simp only [credenzalaw14_light.l0] at H
      by_cases c2 : x9_1 < (l0.length : Int)
      · rw [if_pos c2] at H
        have c2b0 : decide (x9_1 < (l0.length : Int)) = true := decide_eq_true c2
        clear c2
        by_cases c3 : 0 ≤ x9_1
        · rw [if_pos c3] at H
          have c3b0 : decide (0 ≤ x9_1) = true := decide_eq_true c3
          clear c3
          by_cases c4 : x9_1 < (l0.length : Int)
          · rw [if_pos c4] at H
            have c4b0 : decide (x9_1 < (l0.length : Int)) = true := decide_eq_true c4
            clear c4
            by_cases c5 : ((rd_L9 l0 x9_1).length : Int) > 40
            · rw [if_pos c5] at H
              have c5b0 : decide (40 < ((rd_L9 l0 x9_1).length : Int)) = true := decide_eq_true c5
              have c5b1 : decide (40 < (rd_L9 l0 x9_1).length) = true := decide_eq_true (by omega)
              clear c5
              obtain rfl := Option.some.inj H
              have p224 : 0 ≤ (x9_1 : Int) := of_decide_eq_true (by first | (with_reducible assumption) | assumption)
              have q224 : x9_1 < (l0.length : Int) := of_decide_eq_true (by first | (with_reducible assumption) | assumption)
              obtain ⟨ad224, A224_0, c224_0, e224, hx224_0, hl224_0, hi224_0⟩ := at_L9 HR0.out x9_1 p224 q224
              cases e224
              have HR224_0 := Aside0.mk hi224_0
              have HC224_0 := Aside0.mk hl224_0
              clear hi224_0 hl224_0
              replace p224 := eq_true p224
              replace q224 := eq_true q224
              go_wp2
              go_ret
              exact ⟨by first | rfl | (simp; done) | (simp [*]; done), by repeat (first | exact Drawn0.refl _ | apply Drawn0.step)⟩
            · rw [if_neg c5] at H
              have c5b0 : decide (40 < ((rd_L9 l0 x9_1).length : Int)) = false := decide_eq_false c5
              have c5b1 : decide (40 < (rd_L9 l0 x9_1).length) = false := decide_eq_false (by omega)
              clear c5
              have H' := Aside0.mk H
              clear H
              have p224 : 0 ≤ (x9_1 : Int) := of_decide_eq_true (by first | (with_reducible assumption) | assumption)
              have q224 : x9_1 < (l0.length : Int) := of_decide_eq_true (by first | (with_reducible assumption) | assumption)
              obtain ⟨ad224, A224_0, c224_0, e224, hx224_0, hl224_0, hi224_0⟩ := at_L9 HR0.out x9_1 p224 q224
              cases e224
              have HR224_0 := Aside0.mk hi224_0
              have HC224_0 := Aside0.mk hl224_0
              clear hi224_0 hl224_0
              replace p224 := eq_true p224
              replace q224 := eq_true q224
              go_wp2
              go_loopg [18] k1 (fun kq v18 w' => ∃ (x18_2 : Int), v18 = .int .i64 x18_2 ∧ Aside0 (credenzalaw14_light.l1 kq l0 (l0.length : Int) x9_1 (rd_L9 l0 x9_1) ((rd_L9 l0 x9_1).length : Int) x18_2 = some r) ∧ Aside0 (kq ≤ k1) ∧ Drawn0 w w')
              case atStart => exact ⟨(0), (by first | rfl | (simp; done) | (simp [*]; done)), H', ⟨Nat.le_refl _⟩, by repeat (first | exact Drawn0.refl _ | apply Drawn0.step)⟩
              case round =>
                clear H'
                try clear c1
                try clear c2
                try clear c2b0
                try clear p2
                try clear q2
                try clear hx2
                try clear c3
                try clear c3b0
                try clear c4
                try clear c4b0
                try clear c5
                try clear c5b0
                try clear c5b1
                try clear hx224_0
                try clear p224
                try clear q224
                obtain ⟨x18_2, rfl, HA, HK2, ⟨m2, rfl⟩⟩ := hrel
                cases gk with
                | zero => exact absurd HA.out (by simp [credenzalaw14_light.l1])
                | succ k2 =>
                  have H := HA.out
                  clear HA
                  simp only [credenzalaw14_light.l1] at H
                  by_cases c6 : x18_2 < ((rd_L9 l0 x9_1).length : Int)
                  · rw [if_pos c6] at H
                    have c6b0 : decide (x18_2 < ((rd_L9 l0 x9_1).length : Int)) = true := decide_eq_true c6
                    clear c6
                    by_cases c7 : 0 ≤ x18_2
                    · rw [if_pos c7] at H
                      have c7b0 : decide (0 ≤ x18_2) = true := decide_eq_true c7
                      clear c7
                      by_cases c8 : x18_2 < ((rd_L9 l0 x9_1).length : Int)
                      · rw [if_pos c8] at H
                        have c8b0 : decide (x18_2 < ((rd_L9 l0 x9_1).length : Int)) = true := decide_eq_true c8
                        clear c8
                        by_cases c9 : ((rd_L8 (rd_L9 l0 x9_1) x18_2).length : Int) > 40
                        · rw [if_pos c9] at H
                          have c9b0 : decide (40 < ((rd_L8 (rd_L9 l0 x9_1) x18_2).length : Int)) = true := decide_eq_true c9
                          have c9b1 : decide (40 < (rd_L8 (rd_L9 l0 x9_1) x18_2).length) = true := decide_eq_true (by omega)
                          clear c9
                          obtain rfl := Option.some.inj H
                          have p225 : 0 ≤ (x18_2 : Int) := of_decide_eq_true (by first | (with_reducible assumption) | assumption)
                          have q225 : x18_2 < ((rd_L9 l0 x9_1).length : Int) := of_decide_eq_true (by first | (with_reducible assumption) | assumption)
                          obtain ⟨ad225, A225_0, c225_0, e225, hx225_0, hl225_0, hi225_0⟩ := at_L8 HR224_0.out x18_2 p225 q225
                          cases e225
                          have HR225_0 := Aside0.mk hi225_0
                          have HC225_0 := Aside0.mk hl225_0
                          clear hi225_0 hl225_0
                          replace p225 := eq_true p225
                          replace q225 := eq_true q225
                          go_wp2
                          go_ret
                          exact ⟨by first | rfl | (simp; done) | (simp [*]; done), by repeat (first | exact Drawn0.refl _ | apply Drawn0.step)⟩
                        · rw [if_neg c9] at H
                          have c9b0 : decide (40 < ((rd_L8 (rd_L9 l0 x9_1) x18_2).length : Int)) = false := decide_eq_false c9
                          have c9b1 : decide (40 < (rd_L8 (rd_L9 l0 x9_1) x18_2).length) = false := decide_eq_false (by omega)
                          clear c9
                          have H' := Aside0.mk H
                          clear H
                          have p225 : 0 ≤ (x18_2 : Int) := of_decide_eq_true (by first | (with_reducible assumption) | assumption)
                          have q225 : x18_2 < ((rd_L9 l0 x9_1).length : Int) := of_decide_eq_true (by first | (with_reducible assumption) | assumption)
                          obtain ⟨ad225, A225_0, c225_0, e225, hx225_0, hl225_0, hi225_0⟩ := at_L8 HR224_0.out x18_2 p225 q225
                          cases e225
                          have HR225_0 := Aside0.mk hi225_0
                          have HC225_0 := Aside0.mk hl225_0
                          clear hi225_0 hl225_0
                          replace p225 := eq_true p225
                          replace q225 := eq_true q225
                          go_wp2
                          go_roundg k2
                          case measure => have := HK1.out; have := HK2.out; omega
                          case rel => exact ⟨(wrap64 (x18_2 + 1)), (by first | rfl | (simp; done) | (simp [*]; done)), H', ⟨by have := HK1.out; have := HK2.out; omega⟩, by repeat (first | exact Drawn0.refl _ | apply Drawn0.step)⟩
                      · rw [if_neg c8] at H
                        exact absurd H (by simp)
                    · rw [if_neg c7] at H
                      exact absurd H (by simp)
                  · rw [if_neg c6] at H
                    have c6b0 : decide (x18_2 < ((rd_L9 l0 x9_1).length : Int)) = false := decide_eq_false c6
                    clear c6
                    have H' := Aside0.mk H
                    clear H
                    go_wp2
                    go_roundg k2
                    case measure => have := HK1.out; have := HK2.out; omega
                    case rel => exact ⟨(wrap64 (x9_1 + 1)), (by first | rfl | (simp; done) | (simp [*]; done)), H', ⟨by have := HK1.out; have := HK2.out; omega⟩, by repeat (first | exact Drawn0.refl _ | apply Drawn0.step)⟩
          · rw [if_neg c4] at H
            exact absurd H (by simp)
        · rw [if_neg c3] at H
          exact absurd H (by simp)
      · rw [if_neg c2] at H
        have c2b0 : decide (x9_1 < (l0.length : Int)) = false := decide_eq_false c2
        clear c2
        obtain rfl := Option.some.inj H
        go_wp2
        go_ret
        exact ⟨by first | rfl | (simp; done) | (simp [*]; done), by repeat (first | exact Drawn0.refl _ | apply Drawn0.step)⟩

end Go.Proofs.Yteflolamihhmdaa.Q

namespace Go.Proofs.Yteflolamihhmdaa.Pure
open Go.RowKit Go.Proofs.Yteflolamihhmdaa.Q Go.Proofs.YteflolamihhmdaaW.PrintWords Go.Proofs.YteflolamihhmdaaW.PrintLast

theorem awake14_at : credenzalaw14_awake.f 100 = some true := by kernel_rfl
theorem awake14 {k : Nat} (hk : 100 ≤ k) : credenzalaw14_awake.f k = some true := at_rounds credenzalaw14_awake.mono hk awake14_at
theorem A32_of_wf {l : List Int} (h : ∀ x ∈ l, (Lit.int .i32 x).wf = true) : A32 l := fun x hx => by
  have := h x hx
  simp [Lit.wf, IntKind.min, IntKind.max, IntKind.signed, IntKind.bits] at this
  exact ⟨by omega, by omega⟩
theorem light_l1 (x7 : List (List (List Int))) (x8 x9 : Int) (row : List (List Int)) (hr : row.length ≤ 40) : ∀ (d k p : Nat), p + d = row.length → credenzalaw14_light.l1 (k + d + 1) x7 x8 x9 row (row.length : Int) (p : Int) = some false ∨ credenzalaw14_light.l1 (k + d + 1) x7 x8 x9 row (row.length : Int) (p : Int) = credenzalaw14_light.l0 k x7 x8 (wrap64 (x9 + 1)) := by
  intro d
  induction d with
  | zero =>
    intro k p hp
    exact .inr (by rw [credenzalaw14_light.l1, if_neg (by omega)])
  | succ d ih =>
    intro k p hp
    have hlt : p < row.length := by omega
    rw [show k + (d + 1) + 1 = (k + d + 1) + 1 by omega, credenzalaw14_light.l1, if_pos (by omega), if_pos (by omega), if_pos (by omega), rdL]
    by_cases c : ((rowAt row (p : Int)).length : Int) > 40
    · exact .inl (by rw [if_pos c])
    · rw [if_neg c, wnext hlt (by omega)]
      exact ih k (p + 1) (by omega)
/-- light tells of two lists of lists: if so, neither has more than 40 -/
theorem light_two (a b : List (List Int)) {k : Nat} (hk : 100 ≤ k) : ∃ r, credenzalaw14_light.f k [a, b] = some r ∧ (r = true → a.length ≤ 40 ∧ b.length ≤ 40) := by
  have f1 : ∀ k, 42 ≤ k → ∃ r, credenzalaw14_light.l0 (k + 1) [a, b] 2 1 = some r ∧ (r = true → b.length ≤ 40) := by
    intro k hk
    have e1 : rd_L9 [a, b] 1 = b := rfl
    rw [credenzalaw14_light.l0, if_pos (by omega), if_pos (by omega), if_pos (by simp), e1]
    by_cases c : (b.length : Int) > 40
    · exact ⟨false, by rw [if_pos c], by simp⟩
    · rw [if_neg c]
      obtain ⟨m, rfl⟩ : ∃ m, k = (m + 1) + b.length + 1 := ⟨k - b.length - 2, by omega⟩
      rcases light_l1 [a, b] 2 1 b (by omega) b.length (m + 1) 0 (by omega) with h | h
      · exact ⟨false, h, by simp⟩
      · refine ⟨true, h.trans ?_, fun _ => by omega⟩
        rw [show wrap64 ((1 : Int) + 1) = 2 from w64 (by omega) (by omega), credenzalaw14_light.l0, if_neg (by omega)]
  have e0 : rd_L9 [a, b] 0 = a := rfl
  obtain ⟨k, rfl⟩ : ∃ m, k = m + 1 := ⟨k - 1, by omega⟩
  show ∃ r, credenzalaw14_light.l0 (k + 1) [a, b] 2 0 = some r ∧ _
  rw [credenzalaw14_light.l0, if_pos (by omega), if_pos (by omega), if_pos (by simp), e0]
  by_cases c : (a.length : Int) > 40
  · exact ⟨false, by rw [if_pos c], by simp⟩
  · rw [if_neg c]
    obtain ⟨m, rfl⟩ : ∃ m, k = (m + 1) + a.length + 1 := ⟨k - a.length - 2, by omega⟩
    rcases light_l1 [a, b] 2 0 a (by omega) a.length (m + 1) 0 (by omega) with h | h
    · exact ⟨false, h, by simp⟩
    · obtain ⟨r, hr, hr2⟩ := f1 m (by omega)
      refine ⟨r, (h.trans ?_), fun e => ⟨by omega, hr2 e⟩⟩
      rw [show wrap64 ((0 : Int) + 1) = 1 from w64 (by omega) (by omega)]
      exact hr
theorem same_loop (a b : List Int) (hl : a.length = b.length) (hn : a.length ≤ 1000000) : ∀ (d k p : Nat), p + d = a.length → d < k → ∃ r, credenzaref03_Same.l0 k a b (p : Int) = some r ∧ (r = true ↔ a.drop p = b.drop p) := by
  intro d
  induction d with
  | zero =>
    intro k p hp hk
    obtain ⟨k, rfl⟩ : ∃ m, k = m + 1 := ⟨k - 1, by omega⟩
    refine ⟨true, by rw [credenzaref03_Same.l0, if_neg (by omega)], ?_⟩
    rw [List.drop_eq_nil_of_le (by omega), List.drop_eq_nil_of_le (by omega)]
    simp
  | succ d ih =>
    intro k p hp hk
    obtain ⟨k, rfl⟩ : ∃ m, k = m + 1 := ⟨k - 1, by omega⟩
    have hlt : p < a.length := by omega
    have hlb : p < b.length := by omega
    rw [credenzaref03_Same.l0, if_pos (by omega), if_pos (by omega), if_pos (by omega), drop_rd hlt, drop_rd hlb]
    by_cases c : rd a (p : Int) = rd b (p : Int)
    · rw [if_pos c, wnext hlt (by omega)]
      obtain ⟨r, h1, h2⟩ := ih k (p + 1) (by omega) (by omega)
      exact ⟨r, h1, h2.trans (by simp [c])⟩
    · exact ⟨false, by rw [if_neg c], by simp [c]⟩
theorem same_some (a b : List Int) (hn : a.length ≤ 1000000) {k : Nat} (hk : a.length < k) : ∃ r, credenzaref03_Same.f k a b = some r ∧ (r = true ↔ a = b) := by
  unfold credenzaref03_Same.f
  by_cases c : a.length = b.length
  · rw [if_pos (by omega)]
    have := same_loop a b c hn a.length k 0 (by omega) hk
    simpa using this
  · exact ⟨false, by rw [if_neg (by omega)], by simp; intro h; exact c (by rw [h])⟩
theorem same_refl (a : List Int) (hn : a.length ≤ 1000000) {k : Nat} (hk : a.length < k) : credenzaref03_Same.f k a a = some true := by
  obtain ⟨r, h1, h2⟩ := same_some a a hn hk
  rw [h1, h2.2 rfl]
theorem gatherR_length {q : List Int} {keys vals : List (List Int)} (hr : Rows q.length vals) : (gatherR q keys vals).length = q.length := mixR_length hr
end Go.Proofs.Yteflolamihhmdaa.Pure

namespace Go.Proofs.Yteflolamihhmdaa.Pure
open Go.RowKit Go.Proofs.Yteflolamihhmdaa.Q Go.Proofs.YteflolamihhmdaaW.PrintWords Go.Proofs.YteflolamihhmdaaW.PrintLast

theorem topR_rep (n : Nat) (s : Int) : topR (List.replicate (n + 1) s) = s := by
  have h := topR_mem (l := List.replicate (n + 1) s) (by simp)
  exact (List.mem_replicate.1 h).2
theorem weights_rep (n : Nat) (s : Int) : weightsR (List.replicate n s) = List.replicate n 65536 := by
  cases n with
  | zero => rfl
  | succ n =>
    unfold weightsR
    rw [topR_rep, List.map_replicate]
    congr 1
    unfold wR
    rw [Int.sub_self]
    exact expR_0
theorem gather_rep (q key : List Int) (n : Nat) (vs : List (List Int)) : gatherR q (List.replicate n key) vs = mixR (List.replicate n 65536) vs q.length := by
  unfold gatherR
  rw [List.map_replicate, weights_rep]
theorem narR_narR (x : Int) : narR (narR x) = narR x := by
  have h := narR_bd x
  generalize narR x = y at *
  unfold narR cutR
  rw [if_neg (by omega), if_neg (by omega)]
theorem rnd_exact (x : Int) : rnd (65536 * x) 65536 = x := by
  unfold rnd
  rw [if_neg (by omega)]
  omega
theorem mix_one (v : List Int) : mixR [65536] [v] v.length = nars v := by
  have hl := mixR_length (ws := [65536]) (vals := [v]) (wide := v.length) (by simp)
  apply List.ext_getElem
  · rw [hl, nars_length]
  · intro i h1 h2
    have hi : i < v.length := by rw [hl] at h1; exact h1
    have h3 := mixR_at (ws := [65536]) (vals := [v]) (wide := v.length) (by simp) hi
    rw [rd_at h1] at h3
    have h4 := rd_nars hi
    rw [rd_at h2] at h4
    rw [h3, h4]
    have h5 : colR [65536] [v] (i : Int) = 65536 * narR (rd v (i : Int)) := by simp [colR]
    unfold outR
    rw [h5, show sumR [65536] = 65536 from rfl, rnd_exact, narR_narR]
theorem alone_awake (q key : List Int) (vs : List (List Int)) {k : Nat} (hk : 101 ≤ k) : credenzalaw14_AttnAlone.j0 k q key vs true = some true := by
  obtain ⟨k, rfl⟩ : ∃ m, k = m + 1 := ⟨k - 1, by omega⟩
  rw [credenzalaw14_AttnAlone.j0, if_pos rfl, awake14 (by omega), Option.bind_some]
theorem alone_j2 (vs : List (List Int)) (q : List Int) (h0 : 0 < vs.length) (h1 : 1 ≤ q.length) (h2 : q.length ≤ 16) (hr : Rows q.length vs) (hv : AA32 vs) {k : Nat} (hk : 200 ≤ k) : credenzalaw14_AttnAlone.j2 k vs (mixR (List.replicate vs.length 65536) vs q.length) false = some true := by
  obtain ⟨k, rfl⟩ : ∃ m, k = m + 1 := ⟨k - 1, by omega⟩
  rw [credenzalaw14_AttnAlone.j2, if_neg (by simp)]
  by_cases c : (vs.length : Int) > 1
  · rw [if_pos c, awake14 (by omega), Option.bind_some]
  · rw [if_neg c, if_pos (by omega), rdL]
    match vs, h0, c with
    | [v], _, _ =>
      have hvl : v.length = q.length := hr v (by simp)
      have e0 : rowAt [v] 0 = v := rfl
      have e1 := ref_Narrow_some' v (by omega) (hv v (by simp)) (k := k) (by omega)
      have e2 : mixR (List.replicate [v].length 65536) [v] q.length = nars v := by rw [← hvl]; exact mix_one v
      have e3 := same_refl (nars v) (by rw [nars_length]; omega) (k := k) (by rw [nars_length]; omega)
      rw [e0, e1, Option.bind_some, e2, e3, Option.bind_some, if_pos rfl, awake14 (by omega), Option.bind_some]
    | _ :: _ :: _, _, c => exact absurd c (by simp; omega)
theorem alone_l0 (q key : List Int) (vs : List (List Int)) (h0 : 0 < vs.length) (h40 : vs.length ≤ 40) (hl : q.length = key.length) (h1 : 1 ≤ q.length) (h2 : q.length ≤ 16) (hq : A32 q) (hk : A32 key) (hv : AA32 vs) : ∀ (d k p : Nat), p + d = vs.length → 1500 + d ≤ k → Rows q.length (vs.take p) → credenzalaw14_AttnAlone.l0 k q key vs (List.replicate p key) vs (vs.length : Int) (p : Int) = some true := by
  intro d
  induction d with
  | zero =>
    intro k p hp hkk hr
    obtain ⟨k, rfl⟩ : ∃ m, k = m + 1 := ⟨k - 1, by omega⟩
    obtain rfl : p = vs.length := by omega
    rw [List.take_length] at hr
    have hr1 : Right q (List.replicate vs.length key) vs := ⟨by simp, h1, h2, fun r h => by rw [(List.mem_replicate.1 h).2]; exact hl.symm, hr⟩
    have hak : AA32 (List.replicate vs.length key) := fun r h => by rw [(List.mem_replicate.1 h).2]; exact hk
    have hz : A32 (List.replicate q.length 0) := fun x h => by rw [(List.mem_replicate.1 h).2]; exact ⟨by omega, by omega⟩
    have hzl : (List.replicate q.length (0 : Int)).length = q.length := List.length_replicate
    have hr2 : Right (List.replicate q.length 0) (List.replicate vs.length key) vs := ⟨by simp, by omega, by omega, fun r h => by rw [hzl, (List.mem_replicate.1 h).2]; exact hl.symm, fun r h => by rw [hzl]; exact hr r h⟩
    have e1 := attn_Gather_some (by simpa using h0) (by simp; omega) hr1 hq hak hv (k := k) (by omega)
    have e2 := attn_Gather_some (by simpa using h0) (by simp; omega) hr2 hz hak hv (k := k) (by omega)
    rw [gather_rep] at e1 e2
    rw [hzl] at e2
    have hml := mixR_length (ws := List.replicate vs.length 65536) hr
    have e3 := same_refl (mixR (List.replicate vs.length 65536) vs q.length) (by omega) (k := k) (by omega)
    have e4 := alone_j2 vs q h0 h1 h2 hr hv (k := k) (by omega)
    rw [credenzalaw14_AttnAlone.l0, if_neg (by omega), e1, Option.bind_some, if_pos (by omega), if_pos (by omega), Int.toNat_natCast, e2, Option.bind_some, if_pos rfl, if_pos rfl, e3, Option.bind_some, Bool.not_true, e4]
  | succ d ih =>
    intro k p hp hkk hr
    obtain ⟨k, rfl⟩ : ∃ m, k = m + 1 := ⟨k - 1, by omega⟩
    have hlt : p < vs.length := by omega
    rw [credenzalaw14_AttnAlone.l0, if_pos (by omega), if_pos (by omega), if_pos (by omega), rdL]
    by_cases c : ((rowAt vs (p : Int)).length : Int) = (q.length : Int)
    · rw [if_pos c, if_pos (by simp; omega), wnext hlt (by omega), show List.replicate p key ++ [key] = List.replicate (p + 1) key from List.replicate_succ'.symm]
      exact ih k (p + 1) (by omega) (by omega) (by
        rw [take_row hlt]
        intro r hr'
        rcases List.mem_append.1 hr' with h | h
        · exact hr r h
        · rw [List.mem_singleton.1 h]; omega)
    · rw [if_neg c, awake14 (by omega), Option.bind_some]
theorem AttnAlone (q key : List Int) (vs : List (List Int)) (hq : ∀ x ∈ q, (Lit.int .i32 x).wf = true) (hk : ∀ x ∈ key, (Lit.int .i32 x).wf = true) (hv : ∀ r ∈ vs, ∀ x ∈ r, (Lit.int .i32 x).wf = true) : ∃ k, credenzalaw14_AttnAlone.f k q key vs = some true := by
  have hq := A32_of_wf hq
  have hk := A32_of_wf hk
  have hv : AA32 vs := fun r h => A32_of_wf (hv r h)
  refine ⟨2000, ?_⟩
  rw [credenzalaw14_AttnAlone.f]
  by_cases c1 : (vs.length : Int) = 0
  · rw [if_pos c1, alone_awake _ _ _ (by omega)]
  rw [if_neg c1]
  by_cases c2 : (vs.length : Int) > 40
  · rw [if_pos c2, alone_awake _ _ _ (by omega)]
  rw [if_neg c2]
  by_cases c3 : (q.length : Int) = (key.length : Int)
  · rw [if_pos c3]
    by_cases c4 : (q.length : Int) < 1
    · rw [if_pos c4, alone_awake _ _ _ (by omega)]
    rw [if_neg c4]
    by_cases c5 : (q.length : Int) > 16
    · rw [decide_eq_true c5, alone_awake _ _ _ (by omega)]
    rw [decide_eq_false c5, credenzalaw14_AttnAlone.j0, if_neg (by simp)]
    exact alone_l0 q key vs (by omega) (by omega) (by omega) (by omega) (by omega) hq hk hv vs.length 1999 0 (by omega) (by omega) (by simp [Rows])
  · rw [if_neg c3, alone_awake _ _ _ (by omega)]
end Go.Proofs.Yteflolamihhmdaa.Pure

namespace Go.Proofs.Yteflolamihhmdaa.attnAlone
open Go.ChangeShapes Go.WideShapes Go.ChangeAt Go.RowKit Go.Proofs.YteflolamihhmdaaW.PrintWords Go.Proofs.YteflolamihhmdaaW.PrintLast
open Go.ChangeMaps (open_string shut_string)
set_option linter.unusedVariables false
theorem own : ownKnob Try.prog.godebug = none := by kernel_rfl
theorem laidOut : laidOutB Try.prog = true := by kernel_rfl
def IsRow (k : IntKind) (w : World) (a : Option Addr) (len cap : Nat) (zs : List Int) : Prop :=
  (a = none ∧ len = 0 ∧ cap = 0 ∧ zs = []) ∨
  ∃ x, a = some x ∧ len ≤ cap ∧ cap ≤ maxLen ∧ zs.length = cap ∧ (∀ i, i < zs.length → w.cell? (x.add i) = some (.int k (zs.getD i 0))) ∧ ∀ n ∈ zs, (Lit.int k n).wf = true
set_option maxRecDepth 100000 in
theorem lifted (os : Os) (started : os.Started) (H : Type) (enc : TypeId × Value → H) :
    ReturnsInHanded {} Try.checked os 6 .any (Rows.attnAloneSpec.pre6 enc Try.prog Try.f6 Rows.attnAloneRow.domain false) (Rows.attnAloneSpec.post enc Try.prog Try.f6 false true false false) := by
  refine returnsInHanded_of_change_sized (C := Try.checked) own started (by kernel_rfl) Try.func6
    (ChangeSpec.witness6 (enc := enc) (C := Try.checked) false ⟨#[], #[.slice none 0 0, .slice none 0 0, .slice none 0 0], []⟩ 8 (by kernel_rfl) (by kernel_rfl) (by kernel_rfl) (by kernel_rfl)) ?_
  intro W base args ds gs before hval0 hW hcnd hsz0 _
  have hsz : (DataW.weightsEach Try.prog (Try.f6.params.toList ++ Rows.attnAloneSpec.plain.varTypes Try.prog) (ds ++ gs)).all (· ≤ reachBytes) = true := hsz0
  have hval : ∀ (j : Nat) t v, Try.f6.params[j]? = some t → args[j]? = some v → Value.okWide Try.prog W .any base t v := hval0
  have hW' := hW
  obtain ⟨p, q, hA0, hV, rfl, hfz, hnd⟩ := hW
  have hA : DataW.TrodAll enc Try.prog W 0 (fun _ => true) true Try.f6.params.toList args.toList ds p := hA0
  rw [Try.params6] at hA hval hsz
  obtain ⟨v0, vs0, d0, ds0, p0, q0, hargs, rfl, rfl, h0, r0⟩ := trodAll_cons hA
  obtain ⟨v1, vs1, d1, ds1, p1, q1, rfl, rfl, rfl, h1, r1⟩ := trodAll_cons r0
  obtain ⟨v2, vs2, d2, ds2, p2, q2, rfl, rfl, rfl, h2, r2⟩ := trodAll_cons r1
  obtain ⟨rfl, rfl, rfl⟩ := trodAll_nil r2
  obtain rfl : args = #[v0, v1, v2] := by cases args; simp_all
  obtain ⟨rfl, rfl⟩ := trodVars_none hV
  obtain ⟨a0, len0, cap0, rfl⟩ := okWide_slice Try.underlying22 (hval 0 22 v0 rfl rfl)
  have k0 := h0
  have lt0 : ∀ x ∈ p0, x.block < W.heap.size := by obtain ⟨m, hm⟩ := k0; exact DataW.trod_lt m _ _ _ hm
  obtain ⟨z0, w0⟩ : ∃ zs, IsRow .i32 W a0 len0 cap0 zs := by
    obtain ⟨fuel, hf⟩ := h0
    rcases open_ints Try.underlying22 Try.underlying21 (by kernel_rfl) hf with ⟨hcs, _⟩ | ⟨x, l, c, zs, hcs, _, hl, hm, hz, _, hcell, hwz⟩
    · simp [Value.cells] at hcs
      obtain ⟨rfl, rfl, rfl⟩ := hcs
      exact ⟨[], .inl ⟨rfl, rfl, rfl, rfl⟩⟩
    · simp [Value.cells] at hcs
      obtain ⟨rfl, rfl, rfl⟩ := hcs
      exact ⟨zs, .inr ⟨_, rfl, hl, hm, by simpa using hz, hcell, hwz⟩⟩
  obtain ⟨l0, rfl, hr0, hm0, hw0, hc0⟩ := ReadsInt.ofRowC w0
  obtain ⟨a1, len1, cap1, rfl⟩ := okWide_slice Try.underlying22 (hval 1 22 v1 rfl rfl)
  have k1 := h1
  have lt1 : ∀ x ∈ p1, x.block < W.heap.size := by obtain ⟨m, hm⟩ := k1; exact DataW.trod_lt m _ _ _ hm
  obtain ⟨z1, w1⟩ : ∃ zs, IsRow .i32 W a1 len1 cap1 zs := by
    obtain ⟨fuel, hf⟩ := h1
    rcases open_ints Try.underlying22 Try.underlying21 (by kernel_rfl) hf with ⟨hcs, _⟩ | ⟨x, l, c, zs, hcs, _, hl, hm, hz, _, hcell, hwz⟩
    · simp [Value.cells] at hcs
      obtain ⟨rfl, rfl, rfl⟩ := hcs
      exact ⟨[], .inl ⟨rfl, rfl, rfl, rfl⟩⟩
    · simp [Value.cells] at hcs
      obtain ⟨rfl, rfl, rfl⟩ := hcs
      exact ⟨zs, .inr ⟨_, rfl, hl, hm, by simpa using hz, hcell, hwz⟩⟩
  obtain ⟨l1, rfl, hr1, hm1, hw1, hc1⟩ := ReadsInt.ofRowC w1
  obtain ⟨a2, len2, cap2, rfl⟩ := okWide_slice Try.underlying29 (hval 2 29 v2 rfl rfl)
  have k2 := h2
  have lt2 : ∀ x ∈ p2, x.block < W.heap.size := by obtain ⟨m, hm⟩ := k2; exact DataW.trod_lt m _ _ _ hm
  obtain ⟨fuel2, hf2⟩ := h2
  obtain ⟨l2, rfl, hc2, hr2, hw2⟩ := open_rows 21 Try.underlying29 Try.underlying22 Try.underlying21 (by kernel_rfl) (by kernel_rfl) (by simpa [Value.cells] using hf2)
  clear hA0 hval0 hsz0 hsz
  obtain ⟨k, hk⟩ := Pure.AttnAlone l0 l1 l2 hw0 hw1 hw2
  refine (Q.credenzalaw14_AttnAlone.calls k _ _ l0 (fun _ => True) _ _ l1 _ _ l2 true W (Kd.C_of_reads (d := (0 : Int)) (h1 := fun _ => rfl) hr0) hc0 (V_of_C (Kd.heap_int _) rfl hc1 (Kd.C_of_reads (d := (0 : Int)) (h1 := fun _ => rfl) hr1)) hr2 hc2 hk).mono ?_
  rintro e W' ⟨rfl, bel⟩
  exact ⟨_, rfl, _, _, _, [], _, [], hW', trodAll_mk1 (shut_bool Try.underlying4 _), (trodAll_cons_mk (Below.trod laidOut (by kernel_rfl) (of_decide_eq_true (by kernel_rfl)) k0 bel lt0) (trodAll_cons_mk (Below.trod laidOut (by kernel_rfl) (of_decide_eq_true (by kernel_rfl)) k1 bel lt1) (trodAll_cons_mk (Below.trod laidOut (by kernel_rfl) (of_decide_eq_true (by kernel_rfl)) k2 bel lt2) trodAll_mk0))), rfl, bel.frame _, fun h => by cases h⟩
theorem over : Rows.attnAloneRow.holds Try.pinned (OpenSpec.ofChange Rows.attnAloneSpec) :=
  OpenClaim.holds_of_wide 6 Try.f6 rfl rfl rfl rfl rfl rfl rfl ⟨rfl, rfl, rfl, rfl, rfl⟩ rfl rfl rfl rfl rfl (by kernel_rfl) Try.func6 (by kernel_rfl)
    (of_decide_eq_true (by kernel_rfl)) (by unfold Func.isWrapper; first | (rw [if_pos (by decide +kernel)]; kernel_rfl) | (rw [if_neg (by decide +kernel)]; exact ⟨rfl, rfl⟩))
    (fun os started H enc _ => lifted os started H enc)
theorem proved : Rows.AttnAloneSaid := over
end Go.Proofs.Yteflolamihhmdaa.attnAlone
namespace Go.Proofs.Yteflolamihhmdaa
/-- The row, under a short name, for the claim. -/
theorem attnAlone_holds : Rows.AttnAloneSaid := attnAlone.proved
end Go.Proofs.Yteflolamihhmdaa
