/- By Temp 0 the greatest score is picked, whatever Top, Seed and index are; so it is, if just one is kept. Conditions: as each theorem states; the last one has none. -/
import Derived.Test.YtmldhpnkkkmloaaRows
import Derived.WalkKit
import Derived.ProofKit
import Derived.OpenShut
import Derived.ShutString
import Derived.ChangeOld
import Derived.Below
import Derived.SizedLaws
import Derived.Test.YtmldhpnkkkmloaaWSized
import Derived.Test.YtmldhpnkkkmloaaCPickTops1
import Derived.Test.YtmldhpnkkkmloaaCPickTops2
import Derived.Test.YtmldhpnkkkmloaaCPickTops3
namespace Go.Proofs.Ytmldhpnkkkmloaa.Pure
open Go.RowKit Go.Proofs.Ytmldhpnkkkmloaa.Q Go.Proofs.YtmldhpnkkkmloaaW.PrintWords Go.Proofs.YtmldhpnkkkmloaaW.PrintLast Go.Proofs.Ytmldhpnkkkmloaa.SortM
set_option linter.unusedVariables false

/-! ### quotients -/
def divR (a t : Int) : Int := wideR (rnd (a * 65536) t)
theorem divR_bd (a t : Int) : I32 (divR a t) := wideR_bd _
theorem fix_Div_some {a t : Int} (ha : I32 a) (ht : 0 < t) (ht2 : t ≤ 1048576) {k : Nat} (hk : 2 ≤ k) : fix_Div.f k a t = some (divR a t) := by
  obtain ⟨k, rfl⟩ : ∃ m, k = m + 2 := ⟨k - 2, by omega⟩
  obtain ⟨h1, h2⟩ := ha
  rw [fix_Div.f, w64 (x := t) (by omega) (by omega), w64 (x := a) (by omega) (by omega), w64 (x := a * 65536) (by omega) (by omega), if_neg (by omega), if_neg (by omega), fix_Div.j0, if_neg (by simp), if_neg (by omega), fix_Div.j1, if_neg (by simp), fix_Ratio_some ht (by omega) (by omega) (by omega), Option.bind_some, fix_Wide_some, Option.bind_some]
  rfl
theorem ref_Div_some {a t : Int} (ha : I32 a) (ht : 0 < t) (ht2 : t ≤ 1048576) : credenzaref01_Div.f a t = some (divR a t) := by
  obtain ⟨h1, h2⟩ := ha
  rw [credenzaref01_Div.f, if_neg (by omega), if_neg (by omega), w64 (x := t) (by omega) (by omega), w64 (x := a) (by omega) (by omega), w64 (x := a * 65536) (by omega) (by omega), ref_Ratio_some ht (by omega) (by omega) (by omega), Option.bind_some, ref_Wide_some, Option.bind_some]
  rfl

/-! ### sums -/
def sumR : List Int → Int
  | [] => 0
  | x :: l => x + sumR l
def WB (l : List Int) : Prop := ∀ x ∈ l, 0 ≤ x ∧ x ≤ 131072
theorem sumR_bd : ∀ {l : List Int}, WB l → 0 ≤ sumR l ∧ sumR l ≤ l.length * 131072
  | [], _ => by simp [sumR]
  | x :: l, h => by
    have h1 := h x (by simp)
    have h2 := sumR_bd (l := l) (fun y hy => h y (by simp [hy]))
    simp only [sumR, List.length_cons]
    omega
theorem sumR_ge : ∀ {l : List Int}, WB l → ∀ x ∈ l, x ≤ sumR l
  | y :: l, h, x, hx => by
    have h1 := h y (by simp)
    have h0 : WB l := fun z hz => h z (by simp [hz])
    have h2 := sumR_bd h0
    simp only [sumR]
    rcases List.mem_cons.1 hx with rfl | hx
    · omega
    · have := sumR_ge h0 x hx; omega
theorem soft_sum_loop (l : List Int) (hl : l.length ≤ 1024) (hw : WB l) : ∀ (d k p : Nat) (s : Int), p + d = l.length → d < k → 0 ≤ s → s ≤ p * 131072 → soft_Sum.l0 k s l (l.length : Int) (p : Int) = some (s + sumR (l.drop p)) := by
  intro d
  induction d with
  | zero =>
    intro k p s hp hk h0 h1
    obtain ⟨k, rfl⟩ : ∃ m, k = m + 1 := ⟨k - 1, by omega⟩
    rw [soft_Sum.l0, if_neg (by omega), List.drop_of_length_le (by omega)]
    simp [sumR]
  | succ d ih =>
    intro k p s hp hk h0 h1
    obtain ⟨k, rfl⟩ : ∃ m, k = m + 1 := ⟨k - 1, by omega⟩
    have hlt : p < l.length := by omega
    have hb := hw _ (rd_mem hlt)
    rw [soft_Sum.l0, if_pos (by omega), if_pos (by omega), if_pos (by omega), wnext hlt (by omega), w64 (x := s + rd l (p : Int)) (by omega) (by omega), ih k (p + 1) _ (by omega) (by omega) (by omega) (by omega), drop_rd hlt]
    simp only [sumR]
    congr 1; omega
theorem soft_Sum_some {l : List Int} (hl : l.length ≤ 1024) (hw : WB l) {k : Nat} (hk : l.length < k) : soft_Sum.f k l = some (sumR l) := by
  have := soft_sum_loop l hl hw l.length k 0 0 (by omega) hk (by omega) (by omega)
  rw [soft_Sum.f]
  simpa using this
theorem ref_sum_loop (l : List Int) (hl : l.length ≤ 1024) (hw : WB l) : ∀ (d k p : Nat) (s : Int), p + d = l.length → d < k → 0 ≤ s → s ≤ p * 131072 → credenzaref04_Sum.l0 k l s (p : Int) = some (s + sumR (l.drop p)) := by
  intro d
  induction d with
  | zero =>
    intro k p s hp hk h0 h1
    obtain ⟨k, rfl⟩ : ∃ m, k = m + 1 := ⟨k - 1, by omega⟩
    rw [credenzaref04_Sum.l0, if_neg (by omega), List.drop_of_length_le (by omega)]
    simp [sumR]
  | succ d ih =>
    intro k p s hp hk h0 h1
    obtain ⟨k, rfl⟩ : ∃ m, k = m + 1 := ⟨k - 1, by omega⟩
    have hlt : p < l.length := by omega
    have hb := hw _ (rd_mem hlt)
    rw [credenzaref04_Sum.l0, if_pos (by omega), if_pos (by omega), wnext hlt (by omega), w64 (x := s + rd l (p : Int)) (by omega) (by omega), ih k (p + 1) _ (by omega) (by omega) (by omega) (by omega), drop_rd hlt]
    simp only [sumR]
    congr 1; omega
theorem ref_Sum_some {l : List Int} (hl : l.length ≤ 1024) (hw : WB l) {k : Nat} (hk : l.length < k) : credenzaref04_Sum.f k l = some (sumR l) := by
  have := ref_sum_loop l hl hw l.length k 0 0 (by omega) hk (by omega) (by omega)
  rw [credenzaref04_Sum.f]
  simpa using this

/-! ### weights -/
theorem wR_top (t : Int) : wR t t = 65536 := by
  unfold wR
  rw [Int.sub_self, show wideR 0 = 0 from rfl, expR_0]
theorem wR_bd (t x : Int) : 0 ≤ wR t x ∧ wR t x ≤ 131072 := expR_bd (wideR_bd _)
theorem weightsR_wb (l : List Int) : WB (weightsR l) := by
  intro x hx
  obtain ⟨y, _, rfl⟩ := List.mem_map.1 hx
  exact wR_bd _ _
theorem weightsR_sum {l : List Int} (h : 0 < l.length) (hl : l.length ≤ 1024) : 65536 ≤ sumR (weightsR l) ∧ sumR (weightsR l) ≤ 134217728 := by
  have h1 := sumR_bd (weightsR_wb l)
  have h2 := sumR_ge (weightsR_wb l) 65536 (by rw [← wR_top (topR l)]; exact List.mem_map.2 ⟨_, topR_mem h, rfl⟩)
  have h3 : (weightsR l).length = l.length := by simp [weightsR]
  rw [h3] at h1
  omega

/-! ### the place where the weights' sum passes a number -/
def atR : List Int → Int → Nat
  | [], _ => 0
  | w :: l, d => if w ≤ d then atR l (d - w) + 1 else 0
theorem atR_lt : ∀ {l : List Int} {d : Int}, WB l → d < sumR l → 0 ≤ d → atR l d < l.length
  | [], d, _, h, h0 => by simp [sumR] at h; omega
  | w :: l, d, hw, h, h0 => by
    simp only [sumR] at h
    simp only [atR, List.length_cons]
    by_cases c : w ≤ d
    · rw [if_pos c]
      have := atR_lt (l := l) (d := d - w) (fun x hx => hw x (by simp [hx])) (by omega) (by omega)
      omega
    · rw [if_neg c]; omega
theorem pick_l1 (g ws : List Int) (hg : g.length = ws.length) (hl : ws.length ≤ 1024) (hw : WB ws) : ∀ (d p k : Nat) (x : Int), p + d = ws.length → d < k → 0 ≤ x → x < sumR (ws.drop p) → x ≤ 134217728 → pick_Pick.l1 k g ws x (p : Int) = some (rd g ((p + atR (ws.drop p) x : Nat) : Int), 0) := by
  intro d
  induction d with
  | zero =>
    intro p k x hp hk h0 h1 h2
    rw [List.drop_of_length_le (by omega)] at h1
    simp [sumR] at h1
    omega
  | succ d ih =>
    intro p k x hp hk h0 h1 h2
    obtain ⟨k, rfl⟩ : ∃ m, k = m + 1 := ⟨k - 1, by omega⟩
    have hlt : p < ws.length := by omega
    have hb := hw _ (rd_mem hlt)
    rw [drop_rd hlt] at h1 ⊢
    simp only [sumR] at h1
    rw [pick_Pick.l1, if_pos (by omega), if_pos (by omega)]
    simp only [atR]
    by_cases c : rd ws (p : Int) ≤ x
    · rw [if_pos c, if_pos c, w64 (x := x - rd ws (p : Int)) (by omega) (by omega), wnext hlt (by omega), ih (p + 1) k _ (by omega) (by omega) (by omega) (by omega) (by omega)]
      congr 3
      omega
    · rw [if_neg c, if_neg c, if_pos (by omega)]
      rfl
theorem ref_pick_l1 (g ws : List Int) (hg : g.length = ws.length) (hl : ws.length ≤ 1024) (hw : WB ws) (x : Int) (hx : x ≤ 134217728) : ∀ (d p k : Nat) (s : Int), p + d = ws.length → d < k → 0 ≤ s → s ≤ x → x - s < sumR (ws.drop p) → credenzaref20_Pick.l1 k g ws x s (p : Int) = some (rd g ((p + atR (ws.drop p) (x - s) : Nat) : Int)) := by
  intro d
  induction d with
  | zero =>
    intro p k s hp hk h0 h1 h2
    rw [List.drop_of_length_le (by omega)] at h2
    simp [sumR] at h2
    omega
  | succ d ih =>
    intro p k s hp hk h0 h1 h2
    obtain ⟨k, rfl⟩ : ∃ m, k = m + 1 := ⟨k - 1, by omega⟩
    have hlt : p < ws.length := by omega
    have hb := hw _ (rd_mem hlt)
    rw [drop_rd hlt] at h2 ⊢
    simp only [sumR] at h2
    have e1 : IntKind.u64.wrap (s + IntKind.u64.wrap (rd ws (p : Int))) = s + rd ws (p : Int) := by rw [IntKind.wrap_u64, IntKind.wrap_u64]; omega
    rw [credenzaref20_Pick.l1, if_pos (by omega), if_pos (by omega), if_pos (by omega), e1]
    simp only [atR]
    by_cases c : rd ws (p : Int) ≤ x - s
    · rw [if_pos c, if_neg (by omega), wnext hlt (by omega), ih (p + 1) k _ (by omega) (by omega) (by omega) (by omega) (by omega)]
      congr 2
      rw [show x - (s + rd ws (p : Int)) = x - s - rd ws (p : Int) by omega]
      omega
    · rw [if_neg c, if_pos (by omega)]
      rfl

/-! ### the greatest score's first place -/
def FirstT (l : List Int) (i : Nat) : Prop := i < l.length ∧ rd l (i : Int) = topR l ∧ ∀ j : Nat, j < i → rd l (j : Int) ≠ topR l
theorem firstT_uniq {l : List Int} {i j : Nat} (h1 : FirstT l i) (h2 : FirstT l j) : i = j := by
  rcases Nat.lt_trichotomy i j with h | h | h
  · exact absurd h1.2.1 (h2.2.2 i h)
  · exact h
  · exact absurd h2.2.1 (h1.2.2 j h)
theorem topR_ge {l : List Int} : ∀ p : Nat, 0 < p → p ≤ l.length → ∀ j : Nat, j < p → rd l (j : Int) ≤ topR (l.take p) := by
  intro p
  induction p with
  | zero => intro h0; omega
  | succ p ih =>
    intro _ hp j hj
    by_cases c : p = 0
    · subst c
      obtain rfl : j = 0 := by omega
      rw [take_one (by omega)]; exact Int.le_refl _
    · have hf := fold_take (l := l) (p := p) (by omega) (by omega)
      rw [hf]
      by_cases e : j = p
      · subst e; split <;> omega
      · have := ih (by omega) (by omega) j (by omega)
        split <;> omega
theorem index_first (l : List Int) (a : Int) (hl : l.length ≤ 1000000) : ∀ (d k p : Nat), p + d = l.length → d < k → (∃ j : Nat, p ≤ j ∧ j < l.length ∧ rd l (j : Int) = a) → (∀ j : Nat, j < p → rd l (j : Int) ≠ a) →
    ∃ r : Nat, r < l.length ∧ rd l (r : Int) = a ∧ (∀ j : Nat, j < r → rd l (j : Int) ≠ a) ∧ slices_Index_int32_int32.l0 k l a (l.length : Int) (p : Int) = some (r : Int) := by
  intro d
  induction d with
  | zero =>
    intro k p hp hk ⟨j, h1, h2, _⟩ _
    omega
  | succ d ih =>
    intro k p hp hk hex hno
    obtain ⟨k, rfl⟩ : ∃ m, k = m + 1 := ⟨k - 1, by omega⟩
    have hlt : p < l.length := by omega
    rw [slices_Index_int32_int32.l0, if_pos (by omega), if_pos (by omega), if_pos (by omega)]
    by_cases c : a = rd l (p : Int)
    · exact ⟨p, hlt, c.symm, hno, by rw [if_pos c]⟩
    · rw [if_neg c, wnext hlt (by omega)]
      refine ih k (p + 1) (by omega) (by omega) ?_ ?_
      · obtain ⟨j, h1, h2, h3⟩ := hex
        refine ⟨j, ?_, h2, h3⟩
        rcases Nat.lt_or_ge p j with h | h
        · omega
        · obtain rfl : j = p := by omega
          exact absurd h3.symm c
      · intro j hj
        by_cases e : j = p
        · subst e; exact fun h => c h.symm
        · exact hno j (by omega)
theorem dot_Top_first {l : List Int} (h : 0 < l.length) (hl : l.length ≤ 1000000) {k : Nat} (hk : l.length < k) : ∃ r : Nat, FirstT l r ∧ dot_Top.f k l = some ((r : Int), topR l, 0) := by
  obtain ⟨q, hq, e⟩ := topR_key h l.length h (Nat.le_refl _)
  rw [List.take_length] at e
  obtain ⟨r, h1, h2, h3, h4⟩ := index_first l (topR l) hl l.length k 0 (by omega) hk ⟨q, by omega, hq, e⟩ (by omega)
  refine ⟨r, ⟨h1, h2, h3⟩, ?_⟩
  have h4' : slices_Index_int32_int32.f k l (topR l) = some (r : Int) := h4
  rw [dot_Top.f, if_neg (by omega), max_some h hl hk, Option.bind_some, h4', Option.bind_some]
theorem ref_first_loop (l : List Int) (hl : l.length ≤ 1000000) : ∀ (d k p q : Nat), p + d = l.length → d < k → 0 < p → q < p → rd l (q : Int) = topR (l.take p) → (∀ j : Nat, j < q → rd l (j : Int) ≠ topR (l.take p)) →
    ∃ r : Nat, FirstT l r ∧ credenzaref03_Top.l0 k l (q : Int) (p : Int) = some (r : Int) := by
  intro d
  induction d with
  | zero =>
    intro k p q hp hk h0 hq h hno
    obtain ⟨k, rfl⟩ : ∃ m, k = m + 1 := ⟨k - 1, by omega⟩
    rw [List.take_of_length_le (by omega)] at h hno
    exact ⟨q, ⟨by omega, h, hno⟩, by rw [credenzaref03_Top.l0, if_neg (by omega)]⟩
  | succ d ih =>
    intro k p q hp hk h0 hq h hno
    obtain ⟨k, rfl⟩ : ∃ m, k = m + 1 := ⟨k - 1, by omega⟩
    have hlt : p < l.length := by omega
    have hf := fold_take hlt h0
    have hge := topR_ge (l := l) p h0 (by omega)
    rw [credenzaref03_Top.l0, if_pos (by omega), if_pos (by omega), if_pos (by omega), if_pos (by omega), wnext hlt (by omega)]
    by_cases c : rd l (p : Int) > rd l (q : Int)
    · rw [if_pos c]
      exact ih k (p + 1) p (by omega) (by omega) (by omega) (by omega) (by rw [hf, if_pos (by omega)]) (fun j hj => by rw [hf, if_pos (by omega)]; have := hge j hj; omega)
    · rw [if_neg c]
      exact ih k (p + 1) q (by omega) (by omega) (by omega) (by omega) (by rw [hf, if_neg (by omega), h]) (fun j hj => by rw [hf, if_neg (by omega)]; exact hno j hj)
theorem ref_Top_first {l : List Int} (h : 0 < l.length) (hl : l.length ≤ 1000000) {k : Nat} (hk : l.length < k) : ∃ r : Nat, FirstT l r ∧ credenzaref03_Top.f k l = some (r : Int) := by
  obtain ⟨k, rfl⟩ : ∃ m, k = m + 1 := ⟨k - 1, by omega⟩
  have := ref_first_loop l hl (l.length - 1) k 1 0 (by omega) (by omega) (by omega) (by omega) (take_one h).symm (by omega)
  rw [credenzaref03_Top.f, credenzaref03_Top.l0, if_pos (by omega), if_pos (by omega), if_pos (by omega), if_pos (by omega), if_neg (by simp), show wrap64 ((0 : Int) + 1) = ((1 : Nat) : Int) from w64 (by omega) (by omega)]
  exact this
/-- The greatest score's first place is always kept. -/
theorem first_in {l : List Int} {t : Int} {i : Nat} (h : FirstT l i) (ht : 0 ≤ t) : (i : Int) ∈ kpt l t := by
  rw [kpt_mem]
  obtain ⟨h1, h2, h3⟩ := h
  refine ⟨⟨by omega, by omega⟩, ?_⟩
  unfold inK
  rw [decide_eq_true_iff]
  have h0 : SortM.ahead l (i : Int) = 0 := by
    unfold SortM.ahead
    rw [List.countP_eq_zero]
    intro y hy hb
    rw [before_iff] at hb
    obtain ⟨y1, y2⟩ := mem_iota.1 hy
    have hge := topR_ge (l := l) l.length (by omega) (Nat.le_refl _) y.toNat (by omega)
    rw [List.take_length, show ((y.toNat : Nat) : Int) = y by omega] at hge
    unfold Bef at hb
    rcases hb with hb | ⟨hb, hlt⟩
    · omega
    · have := h3 y.toNat (by omega)
      rw [show ((y.toNat : Nat) : Int) = y by omega] at this
      omega
  omega

/-! ### the pick -/
def rightR (a b : Int) : Bool := decide (0 ≤ a ∧ a ≤ 1048576 ∧ 0 ≤ b ∧ b ≤ 64)
theorem pick_Right_some (a b c : Int) : pick_Right.f a b c = some (rightR a b) := by
  unfold pick_Right.f rightR
  by_cases h1 : a ≥ 0
  · rw [if_pos h1]
    by_cases h2 : a ≤ 1048576
    · rw [if_pos h2]
      by_cases h3 : b ≥ 0
      · rw [if_pos h3]; congr 2; apply propext; omega
      · rw [if_neg h3]; congr 1; exact (decide_eq_false (by omega)).symm
    · rw [if_neg h2]; congr 1; exact (decide_eq_false (by omega)).symm
  · rw [if_neg h1]; congr 1; exact (decide_eq_false (by omega)).symm
theorem ref_Right_some (a b : Int) : credenzaref20_Right.f a b = some (rightR a b) := pick_Right_some a b 0

def warmR (l : List Int) (t top : Int) : List Int := (kpt l top).map (fun x => divR (rd l x) t)
/-- What is picked by warmth. -/
def pickR (l : List Int) (t top seed idx : Int) : Int := rd (kpt l top) ((atR (weightsR (warmR l t top)) ((fin (seedOf seed idx) : Int) % sumR (weightsR (warmR l t top))) : Nat) : Int)

theorem warm_facts {l : List Int} (t : Int) {top : Int} (h : 0 < l.length) (hl : l.length ≤ 64) (ht : 0 ≤ top) :
    0 < (kpt l top).length ∧ (kpt l top).length ≤ 64 ∧ (warmR l t top).length = (kpt l top).length ∧ A32 (warmR l t top) := by
  have h1 := kpt_length l top ht
  unfold mn at h1
  refine ⟨by split at h1 <;> (try split at h1) <;> omega, by split at h1 <;> (try split at h1) <;> omega, by simp [warmR], ?_⟩
  intro x hx
  obtain ⟨y, _, rfl⟩ := List.mem_map.1 hx
  exact divR_bd _ _

theorem pick_l0 (l : List Int) (hA : A32 l) (h : 0 < l.length) (hl : l.length ≤ 64) (t top seed idx : Int) (ht : 0 < t) (ht2 : t ≤ 1048576) (hp : 0 ≤ top) : ∀ (d p k : Nat), p + d = (kpt l top).length → d + 200 < k →
    pick_Pick.l0 k l idx (kpt l top) (((kpt l top).take p).map (fun x => divR (rd l x) t)) (kpt l top) ((kpt l top).length : Int) (p : Int) t top seed = some (pickR l t top seed idx, 0) := by
  obtain ⟨f1, f2, f3, f4⟩ := warm_facts t h hl hp
  intro d
  induction d with
  | zero =>
    intro p k hpd hk
    obtain ⟨k, rfl⟩ : ∃ m, k = m + 1 := ⟨k - 1, by omega⟩
    have hs := weightsR_sum (l := warmR l t top) (by omega) (by omega)
    have hwl : (weightsR (warmR l t top)).length = (kpt l top).length := by rw [weightsR, List.length_map, f3]
    rw [pick_Pick.l0, if_neg (by omega), List.take_of_length_le (by omega)]
    show ((soft_Weights.f k (warmR l t top)).bind _) = _
    rw [soft_Weights_some (by omega) (by omega) f4 (by omega), Option.bind_some, if_pos rfl, draw_some, Option.bind_some, soft_Sum_some (by omega) (weightsR_wb _) (by omega), Option.bind_some]
    have e1 : IntKind.u64.wrap (sumR (weightsR (warmR l t top))) = sumR (weightsR (warmR l t top)) := by rw [IntKind.wrap_u64]; omega
    rw [e1, if_neg (by omega)]
    have e2 : Int.tmod (fin (seedOf seed idx) : Int) (sumR (weightsR (warmR l t top))) = (fin (seedOf seed idx) : Int) % sumR (weightsR (warmR l t top)) := Int.tmod_eq_emod_of_nonneg (by omega)
    have b1 := Int.emod_nonneg (fin (seedOf seed idx) : Int) (show sumR (weightsR (warmR l t top)) ≠ 0 by omega)
    have b2 := Int.emod_lt_of_pos (fin (seedOf seed idx) : Int) (show 0 < sumR (weightsR (warmR l t top)) by omega)
    rw [e2, w64 (by omega) (by omega)]
    have := pick_l1 (kpt l top) (weightsR (warmR l t top)) hwl.symm (by omega) (weightsR_wb _) (weightsR (warmR l t top)).length 0 k ((fin (seedOf seed idx) : Int) % sumR (weightsR (warmR l t top))) (by omega) (by omega) b1 (by rw [List.drop_zero]; exact b2) (by omega)
    rw [List.drop_zero, Nat.zero_add] at this
    exact this
  | succ d ih =>
    intro p k hpd hk
    obtain ⟨k, rfl⟩ : ∃ m, k = m + 1 := ⟨k - 1, by omega⟩
    have hlt : p < (kpt l top).length := by omega
    have hr := kpt_rd hlt
    have hI : I32 (rd l (rd (kpt l top) (p : Int))) := by
      obtain ⟨q, hq⟩ : ∃ q : Nat, rd (kpt l top) (p : Int) = (q : Int) := ⟨(rd (kpt l top) (p : Int)).toNat, by omega⟩
      rw [hq]; exact hA _ (rd_mem (by omega))
    have hml : (((kpt l top).take p).map (fun x => divR (rd l x) t)).length ≤ 64 := by rw [List.length_map, List.length_take]; omega
    rw [pick_Pick.l0, if_pos (by omega), if_pos (by omega), if_pos (by omega), if_pos (by omega), if_pos (by omega), fix_Div_some hI ht ht2 (by omega), Option.bind_some, if_pos (by omega), wnext hlt (by omega)]
    have := ih (p + 1) k (by omega) (by omega)
    rw [take_rd hlt, List.map_append] at this
    exact this
theorem ref_pick_l0 (l : List Int) (hA : A32 l) (h : 0 < l.length) (hl : l.length ≤ 64) (t top seed idx : Int) (ht : 0 < t) (ht2 : t ≤ 1048576) (hp : 0 ≤ top) : ∀ (d p k : Nat), p + d = (kpt l top).length → d + 200 < k →
    credenzaref20_Pick.l0 k l t seed idx (kpt l top) (((kpt l top).take p).map (fun x => divR (rd l x) t)) (p : Int) = some (pickR l t top seed idx) := by
  obtain ⟨f1, f2, f3, f4⟩ := warm_facts t h hl hp
  intro d
  induction d with
  | zero =>
    intro p k hpd hk
    obtain ⟨k, rfl⟩ : ∃ m, k = m + 1 := ⟨k - 1, by omega⟩
    have hs := weightsR_sum (l := warmR l t top) (by omega) (by omega)
    have hwl : (weightsR (warmR l t top)).length = (kpt l top).length := by rw [weightsR, List.length_map, f3]
    rw [credenzaref20_Pick.l0, if_neg (by omega), List.take_of_length_le (by omega)]
    show ((credenzaref04_Weights.f k (warmR l t top)).bind _) = _
    rw [ref_Weights_some (by omega) (by omega) f4 (by omega), Option.bind_some, ref_draw seed idx (by omega), Option.bind_some, ref_Sum_some (by omega) (weightsR_wb _) (by omega), Option.bind_some]
    have e1 : IntKind.u64.wrap (sumR (weightsR (warmR l t top))) = sumR (weightsR (warmR l t top)) := by rw [IntKind.wrap_u64]; omega
    rw [e1, if_neg (by omega)]
    have e2 : Int.tmod (fin (seedOf seed idx) : Int) (sumR (weightsR (warmR l t top))) = (fin (seedOf seed idx) : Int) % sumR (weightsR (warmR l t top)) := Int.tmod_eq_emod_of_nonneg (by omega)
    have b1 := Int.emod_nonneg (fin (seedOf seed idx) : Int) (show sumR (weightsR (warmR l t top)) ≠ 0 by omega)
    have b2 := Int.emod_lt_of_pos (fin (seedOf seed idx) : Int) (show 0 < sumR (weightsR (warmR l t top)) by omega)
    rw [e2]
    have := ref_pick_l1 (kpt l top) (weightsR (warmR l t top)) hwl.symm (by omega) (weightsR_wb _) ((fin (seedOf seed idx) : Int) % sumR (weightsR (warmR l t top))) (by omega) (weightsR (warmR l t top)).length 0 k 0 (by omega) (by omega) (by omega) b1 (by rw [List.drop_zero, Int.sub_zero]; exact b2)
    rw [List.drop_zero, Nat.zero_add, Int.sub_zero] at this
    exact this
  | succ d ih =>
    intro p k hpd hk
    obtain ⟨k, rfl⟩ : ∃ m, k = m + 1 := ⟨k - 1, by omega⟩
    have hlt : p < (kpt l top).length := by omega
    have hr := kpt_rd hlt
    have hI : I32 (rd l (rd (kpt l top) (p : Int))) := by
      obtain ⟨q, hq⟩ : ∃ q : Nat, rd (kpt l top) (p : Int) = (q : Int) := ⟨(rd (kpt l top) (p : Int)).toNat, by omega⟩
      rw [hq]; exact hA _ (rd_mem (by omega))
    have hml : (((kpt l top).take p).map (fun x => divR (rd l x) t)).length ≤ 64 := by rw [List.length_map, List.length_take]; omega
    rw [credenzaref20_Pick.l0, if_pos (by omega), if_pos (by omega), if_pos (by omega), if_pos (by omega), ref_Div_some hI ht ht2, Option.bind_some, if_pos (by omega), wnext hlt (by omega)]
    have := ih (p + 1) k (by omega) (by omega)
    rw [take_rd hlt, List.map_append] at this
    exact this

/-- The pick, where it may be. -/
theorem pick_some {l : List Int} (hA : A32 l) (h : 0 < l.length) (hl : l.length ≤ 64) {t top : Int} (seed : Int) {idx : Int} (hR : rightR t top = true) (h0 : 0 ≤ idx) (h1 : idx ≤ 1024) {k : Nat} (hk : 300 ≤ k) :
    ∃ v : Int, pick_Pick.f k l t top seed idx = some (v, 0) ∧ v ∈ kpt l top ∧ (t = 0 → ∃ i : Nat, FirstT l i ∧ v = (i : Int)) ∧ (t ≠ 0 → v = pickR l t top seed idx) := by
  obtain ⟨k, rfl⟩ : ∃ m, k = m + 1 := ⟨k - 1, by omega⟩
  have hR' := hR
  unfold rightR at hR'
  rw [decide_eq_true_iff] at hR'
  rw [pick_Pick.f, if_neg (by omega), if_neg (by omega), pick_Right_some, hR, Option.bind_some, if_pos rfl, if_neg (by omega), decide_eq_false (by omega), pick_Pick.j0, if_neg (by simp)]
  by_cases ht : t = 0
  · rw [if_pos ht]
    obtain ⟨r, hr, he⟩ := dot_Top_first h (by omega) (k := k) (by omega)
    rw [he, Option.bind_some]
    exact ⟨_, rfl, first_in hr (by omega), fun _ => ⟨r, hr, rfl⟩, fun e => absurd ht e⟩
  · rw [if_neg ht, pick_Kept_some (by omega) (by omega), Option.bind_some]
    have := pick_l0 l hA h hl t top seed idx (by omega) (by omega) (by omega) (kpt l top).length 0 k (by omega) (by have := (warm_facts t h hl (top := top) (by omega)).2.1; omega)
    obtain ⟨f1, f2, f3, f4⟩ := warm_facts t h hl (top := top) (by omega)
    have hs := weightsR_sum (l := warmR l t top) (by omega) (by omega)
    have hwl : (weightsR (warmR l t top)).length = (kpt l top).length := by rw [weightsR, List.length_map, f3]
    refine ⟨_, this, ?_, fun e => absurd e ht, fun _ => rfl⟩
    have hlt := atR_lt (weightsR_wb (warmR l t top)) (Int.emod_lt_of_pos (fin (seedOf seed idx) : Int) (show 0 < sumR (weightsR (warmR l t top)) by omega)) (Int.emod_nonneg (fin (seedOf seed idx) : Int) (by omega))
    exact rd_mem (by omega)
theorem ref_pick_ev {l : List Int} (hA : A32 l) (h : 0 < l.length) (hl : l.length ≤ 64) {t top : Int} (seed : Int) {idx : Int} (hR : rightR t top = true) {v : Int} (h1 : t = 0 → ∃ i : Nat, FirstT l i ∧ v = (i : Int)) (h2 : t ≠ 0 → v = pickR l t top seed idx) :
    Ev (fun k => credenzaref20_Pick.f k l t top seed idx) v := by
  have hR' := hR
  unfold rightR at hR'
  rw [decide_eq_true_iff] at hR'
  by_cases ht : t = 0
  · obtain ⟨i, hi, rfl⟩ := h1 ht
    refine ⟨l.length + 1, fun k hk => ?_⟩
    obtain ⟨r, hr, he⟩ := ref_Top_first h (by omega) (k := k) (by omega)
    show credenzaref20_Pick.f k l t top seed idx = _
    rw [credenzaref20_Pick.f, if_pos ht, he, Option.bind_some, firstT_uniq hi hr]
  · rw [h2 ht]
    refine Ev.congr (f := fun k => (credenzaref20_Kept.f k l top).bind fun t334 => credenzaref20_Pick.l0 k l t seed idx t334 ([] : List Int) 0) (fun k => by rw [credenzaref20_Pick.f, if_neg ht]) (Ev.bind (ref_Kept_ev l top (by omega)) ⟨300, fun k hk => ?_⟩)
    exact ref_pick_l0 l hA h hl t top seed idx (by omega) (by omega) (by omega) (kpt l top).length 0 k (by omega) (by have := (warm_facts t h hl (top := top) (by omega)).2.1; omega)
end Go.Proofs.Ytmldhpnkkkmloaa.Pure

namespace Go.Proofs.Ytmldhpnkkkmloaa.Q
open Go.RowKit Go.Proofs.YtmldhpnkkkmloaaW.PrintWords Go.Proofs.YtmldhpnkkkmloaaW.PrintLast Go.Proofs.YtmldhpnkkkmloaaW.PrintMore
attribute [local go_sem] max2_int min2_int max_two min_two max_three min_three max_four min_four   -- for this text's walks alone
set_option linter.unusedVariables false
set_option linter.unusedSimpArgs false

/-! ### credenzalaw20_PickTops: function 7 -/
def credenzalaw20_PickTops.j0 : Nat → Int → Bool → List Int → Int → Int → Int → Option (Bool)
  | 0, _, _, _, _, _, _ => none
  | k + 1, x1, x39, x403000, x403001, x403002, x403003 => if x39 = true then ((credenzalaw20_awake.f k).bind fun t404 => (some t404)) else ((pick_Pick.f k x403000 0 x403002 x403003 x1).bind fun bt407 => ((pick_Pick.f k x403000 x403001 1 x403003 x1).bind fun bt409 => ((credenzaref03_Top.f k x403000).bind fun t411 => (if bt407.2 = 0 then (if bt409.2 = 0 then (if bt407.1 = t411 then (if bt409.1 = t411 then ((credenzalaw20_awake.f k).bind fun t412 => (some t412)) else (some false)) else (some false)) else (some false)) else (some false)))))
def credenzalaw20_PickTops.f (k : Nat) (l0_0 : List Int) (a0_1 : Int) (a0_2 : Int) (a0_3 : Int) (a1 : Int) : Option (Bool) := if (l0_0.length : Int) = 0 then (credenzalaw20_PickTops.j0 k a1 true l0_0 a0_1 a0_2 a0_3) else (if (l0_0.length : Int) > 64 then (credenzalaw20_PickTops.j0 k a1 true l0_0 a0_1 a0_2 a0_3) else ((credenzaref20_Right.f a0_1 a0_2).bind fun t403 => (if t403 = true then (if a1 < 0 then (credenzalaw20_PickTops.j0 k a1 true l0_0 a0_1 a0_2 a0_3) else (credenzalaw20_PickTops.j0 k a1 (decide (a1 > 1024)) l0_0 a0_1 a0_2 a0_3)) else (credenzalaw20_PickTops.j0 k a1 true l0_0 a0_1 a0_2 a0_3))))
theorem credenzalaw20_PickTops.mono_l : ∀ k, (∀ y0 y1 y2 y3 y4 y5, LeO (credenzalaw20_PickTops.j0 k y0 y1 y2 y3 y4 y5) (credenzalaw20_PickTops.j0 (k + 1) y0 y1 y2 y3 y4 y5))
  | 0 => fun _ _ _ _ _ _ r h => by simp [credenzalaw20_PickTops.j0] at h
  | k + 1 => by
    have ih0 := credenzalaw20_PickTops.mono_l k
    · intro y0 y1 y2 y3 y4 y5
      unfold credenzalaw20_PickTops.j0
      repeat' first
      | (with_reducible exact ih0 _ _ _ _ _ _)
      | (with_reducible exact credenzalaw20_awake.mono _)
      | (with_reducible exact credenzaref03_Top.mono _ _)
      | (with_reducible exact pick_Pick.mono _ _ _ _ _ _)
      | (with_reducible exact LeO.refl _)
      | (with_reducible exact LeO.none _)
      | (with_reducible refine LeO.ite ?_ ?_)
      | (with_reducible refine LeO.bind ?_ (fun _ => ?_))
      | exact ih0 _ _ _ _ _ _
      | exact credenzalaw20_awake.mono _
      | exact credenzaref03_Top.mono _ _
      | exact pick_Pick.mono _ _ _ _ _ _
      | exact LeO.none _
      | refine LeO.ite ?_ ?_
      | refine LeO.bind ?_ (fun _ => ?_)
theorem credenzalaw20_PickTops.mono : ∀ a0 a1 a2 a3 a4 k, LeO (credenzalaw20_PickTops.f k a0 a1 a2 a3 a4) (credenzalaw20_PickTops.f (k + 1) a0 a1 a2 a3 a4) := by
  intro a0 a1 a2 a3 a4 k
  have ih0 := credenzalaw20_PickTops.mono_l k
  unfold credenzalaw20_PickTops.f
  repeat' first
      | (with_reducible exact ih0 _ _ _ _ _ _)
      | (with_reducible exact credenzalaw20_awake.mono _)
      | (with_reducible exact credenzaref03_Top.mono _ _)
      | (with_reducible exact pick_Pick.mono _ _ _ _ _ _)
      | (with_reducible exact LeO.refl _)
      | (with_reducible exact LeO.none _)
      | (with_reducible refine LeO.ite ?_ ?_)
      | (with_reducible refine LeO.bind ?_ (fun _ => ?_))
      | exact ih0 _ _ _ _ _ _
      | exact credenzalaw20_awake.mono _
      | exact credenzaref03_Top.mono _ _
      | exact pick_Pick.mono _ _ _ _ _ _
      | exact LeO.none _
      | refine LeO.ite ?_ ?_
      | refine LeO.bind ?_ (fun _ => ?_)
def credenzalaw20_PickTops.T3 : Bool × List (List Nat × List Nat) := (true, [([], []), ([0], [0]), ([], []), ([2], [2]), ([], []), ([], []), ([4, 1, 0, 1, 4, 5], [1, 4]), ([5, 3, 6, 0, 1, 2, 3, 4, 5, 6], [3, 5])])
def credenzalaw20_PickTops.B3 : List Nat := [0, 1, 0, 4, 0, 0, 51, 127]
theorem credenzalaw20_PickTops.tab3 : rtab .any (opsOf Try.f7 3) = credenzalaw20_PickTops.T3 := by kernel_rfl
theorem credenzalaw20_PickTops.bits3 : waitsOk credenzalaw20_PickTops.T3.2 credenzalaw20_PickTops.B3 = true := by kernel_rfl
set_option maxHeartbeats 8000000 in
set_option maxRecDepth 100000 in
theorem credenzalaw20_PickTops.calls (k : Nat) (A0_0 : Option Addr) (c0_0 : Nat) (l0_0 : List Int) (a0_1 : Int) (a0_2 : Int) (a0_3 : Int) (a1 : Int) (r : Bool) (w : World) (hr0_0 : Kd.C (Kd.int .i32) w A0_0 l0_0.length l0_0) (hc0_0 : l0_0.length ≤ c0_0) (h : credenzalaw20_PickTops.f k l0_0 a0_1 a0_2 a0_3 a1 = some r) :
    Calls Try.prog 7 #[.agg #[.slice A0_0 l0_0.length c0_0, .int .i32 a0_1, .int .i64 a0_2, .int .u64 a0_3], .int .i64 a1] w fun e w' => e = .returned (.bool r) ∧ Below w.heap.size w w' := by
  have hu27 := Try.underlying27
  have hu25 := Try.underlying25
  have HR0_0 := Aside0.mk hr0_0
  have HC0_0 := Aside0.mk hc0_0
  clear hr0_0 hc0_0
  have HB := Aside0.mk (Below.refl w.heap.size w)
  have H : (if (l0_0.length : Int) = 0 then (credenzalaw20_PickTops.j0 k a1 true l0_0 a0_1 a0_2 a0_3) else (if (l0_0.length : Int) > 64 then (credenzalaw20_PickTops.j0 k a1 true l0_0 a0_1 a0_2 a0_3) else ((credenzaref20_Right.f a0_1 a0_2).bind fun t403 => (if t403 = true then (if a1 < 0 then (credenzalaw20_PickTops.j0 k a1 true l0_0 a0_1 a0_2 a0_3) else (credenzalaw20_PickTops.j0 k a1 (decide (a1 > 1024)) l0_0 a0_1 a0_2 a0_3)) else (credenzalaw20_PickTops.j0 k a1 true l0_0 a0_1 a0_2 a0_3))))) = some r := h
  clear h
  have HC3 := Aside0.mk H
  clear H
  go_enter Try.func7, Try.ntmps7
  go_upto_region 1 with (first | ((with_reducible refine gate_dst (N := 2) rfl ?_); (try (refine gate_guard (by rfl) ?_; dsimp only)); refine box_event ?hg (N := 2) ?hd (cs := #[.slice A0_0 l0_0.length c0_0, .int .i32 a0_1, .int .i64 a0_2, .int .u64 a0_3]) (t := 27) ?hr ?_; (case hd => rfl); (case hg => rfl); (case hr => first | (go_simp; done) | (go_simp; rfl)); intro gb402 hg w4 hbox hb; have n0_ := Aside0.mk (below_step (by repeat (first | (with_reducible first | exact HB.out | apply below_alloc | apply pw_below_drewN | apply below_drew1) | exact HB.out)) hb); have n1_ := Aside0.mk (hbox); have n2_ := Aside0.mk ((by rw [hg]; exact (below_size (by repeat (first | (with_reducible first | exact HB.out | apply below_alloc | apply pw_below_drewN | apply below_drew1) | exact HB.out))) : w.heap.size ≤ gb402)); have n3_ := Aside0.mk ((by rw [hg]; exact (below_size (by repeat (first | (with_reducible first | exact HB.out | apply below_alloc | apply pw_below_drewN | apply below_drew1) | exact HB.out))) : w.heap.size ≤ gb402)); clear HB; have HB := n0_; have BK402 := n1_; have GW402 := n2_; have GE402 := n3_; clear n0_ n1_ n2_ n3_; clear hb hbox hg))
  (try simp only [Act.put, List.setIfInBounds_toArray, List.set_cons_zero, List.set_cons_succ])
  go_cut [39] (fun v39 wc => ∃ (kq : Nat) (x39_2 : Bool), v39 = .bool x39_2 ∧ Aside0 (credenzalaw20_PickTops.j0 kq a1 x39_2 l0_0 a0_1 a0_2 a0_3 = some r) ∧ Aside0 (kq ≤ k) ∧ Aside0 (wc.heap[gb402]? = some (.cells #[(.slice A0_0 l0_0.length c0_0), .int .i32 a0_1, .int .i64 a0_2, .int .u64 a0_3] 27 (0, 0))) ∧ Aside0 (Below w.heap.size w wc))
  case first =>
    have H := HC3.out
    clear HC3
    by_cases c5 : (l0_0.length : Int) = 0
    · rw [if_pos c5] at H
      have c5b0 : ((l0_0.length : Int) == 0) = true := beq_iff_eq.mpr c5
      have c5b1 : ((l0_0.length : Int) != 0) = false := bne_eq_false_iff_eq.mpr c5
      clear c5
      (first | rw [c5b0] | (simp only [i64_w, i32_w]; rw [c5b0]) | skip)
      have H' := Aside0.mk H
      clear H
      have hcz6_0 : w4.cell? ⟨gb402, 0, none⟩ = some (.slice A0_0 l0_0.length c0_0) := (blk_cell BK402.out 0).trans rfl
      have hcz6_1 : w4.cell? ⟨gb402, 1, none⟩ = some (.int .i32 a0_1) := (blk_cell BK402.out 1).trans rfl
      have hcz6_2 : w4.cell? ⟨gb402, 2, none⟩ = some (.int .i64 a0_2) := (blk_cell BK402.out 2).trans rfl
      have hcz6_3 : w4.cell? ⟨gb402, 3, none⟩ = some (.int .u64 a0_3) := (blk_cell BK402.out 3).trans rfl
      have hfz6_0 := blk_frozen BK402.out 0
      have hfz6_1 := blk_frozen BK402.out 1
      have hfz6_2 := blk_frozen BK402.out 2
      have hfz6_3 := blk_frozen BK402.out 3
      go_wp2
      go_meet
      case rel => exact ⟨_, (true), (by first | rfl | (simp; done) | (simp [*]; done)), H', ⟨by first | omega | exact Nat.le_refl _⟩, ⟨by (with_reducible repeat (first | refine blk_drewN ?_ _ | refine blk_drew ?_ | refine blk_alloc ?_ _)); exact BK402.out⟩, ⟨by repeat (first | (with_reducible first | exact HB.out | apply below_alloc | apply pw_below_drewN | apply below_drew1 | refine below_set ?_ GE402.out) | exact HB.out)⟩⟩
    · rw [if_neg c5] at H
      have c5b0 : ((l0_0.length : Int) == 0) = false := beq_eq_false_iff_ne.mpr c5
      have c5b1 : ((l0_0.length : Int) != 0) = true := bne_iff_ne.mpr c5
      have c5b2 : ¬ (l0_0 = []) := fun h_ => c5 (by rw [h_]; rfl)
      (first | rw [c5b0] | (simp only [i64_w, i32_w]; rw [c5b0]) | skip)
      by_cases c7 : (l0_0.length : Int) > 64
      · rw [if_pos c7] at H
        have c7b0 : decide (64 < (l0_0.length : Int)) = true := decide_eq_true c7
        have c7b1 : decide (64 < l0_0.length) = true := decide_eq_true (by omega)
        clear c7
        have H' := Aside0.mk H
        clear H
        have hcz8_0 : w4.cell? ⟨gb402, 0, none⟩ = some (.slice A0_0 l0_0.length c0_0) := (blk_cell BK402.out 0).trans rfl
        have hcz8_1 : w4.cell? ⟨gb402, 1, none⟩ = some (.int .i32 a0_1) := (blk_cell BK402.out 1).trans rfl
        have hcz8_2 : w4.cell? ⟨gb402, 2, none⟩ = some (.int .i64 a0_2) := (blk_cell BK402.out 2).trans rfl
        have hcz8_3 : w4.cell? ⟨gb402, 3, none⟩ = some (.int .u64 a0_3) := (blk_cell BK402.out 3).trans rfl
        have hfz8_0 := blk_frozen BK402.out 0
        have hfz8_1 := blk_frozen BK402.out 1
        have hfz8_2 := blk_frozen BK402.out 2
        have hfz8_3 := blk_frozen BK402.out 3
        go_wp2
        go_meet
        case rel => exact ⟨_, (true), (by first | rfl | (simp; done) | (simp [*]; done)), H', ⟨by first | omega | exact Nat.le_refl _⟩, ⟨by (with_reducible repeat (first | refine blk_drewN ?_ _ | refine blk_drew ?_ | refine blk_alloc ?_ _)); exact BK402.out⟩, ⟨by repeat (first | (with_reducible first | exact HB.out | apply below_alloc | apply pw_below_drewN | apply below_drew1 | refine below_set ?_ GE402.out) | exact HB.out)⟩⟩
      · rw [if_neg c7] at H
        have c7b0 : decide (64 < (l0_0.length : Int)) = false := decide_eq_false c7
        have c7b1 : decide (64 < l0_0.length) = false := decide_eq_false (by omega)
        clear c7
        replace H := Option.bind_eq_some_iff.mp H
        obtain ⟨t403, A90, H⟩ := H
        replace H : (if t403 = true then (if a1 < 0 then (credenzalaw20_PickTops.j0 k a1 true l0_0 a0_1 a0_2 a0_3) else (credenzalaw20_PickTops.j0 k a1 (decide (a1 > 1024)) l0_0 a0_1 a0_2 a0_3)) else (credenzalaw20_PickTops.j0 k a1 true l0_0 a0_1 a0_2 a0_3)) = some r := H
        have A9 := Aside0.mk A90
        clear A90
        by_cases c10 : t403 = true
        · subst c10
          have H1 : (if a1 < 0 then (credenzalaw20_PickTops.j0 k a1 true l0_0 a0_1 a0_2 a0_3) else (credenzalaw20_PickTops.j0 k a1 (decide (a1 > 1024)) l0_0 a0_1 a0_2 a0_3)) = some r := by rw [if_pos rfl] at H; exact H
          clear H
          have H := H1
          clear H1
          by_cases c11 : a1 < 0
          · rw [if_pos c11] at H
            have c11b0 : decide (a1 < 0) = true := decide_eq_true c11
            clear c11
            have H' := Aside0.mk H
            clear H
            have hcz12_0 : w4.cell? ⟨gb402, 0, none⟩ = some (.slice A0_0 l0_0.length c0_0) := (blk_cell BK402.out 0).trans rfl
            have hcz12_1 : w4.cell? ⟨gb402, 1, none⟩ = some (.int .i32 a0_1) := (blk_cell BK402.out 1).trans rfl
            have hcz12_2 : w4.cell? ⟨gb402, 2, none⟩ = some (.int .i64 a0_2) := (blk_cell BK402.out 2).trans rfl
            have hcz12_3 : w4.cell? ⟨gb402, 3, none⟩ = some (.int .u64 a0_3) := (blk_cell BK402.out 3).trans rfl
            have hfz12_0 := blk_frozen BK402.out 0
            have hfz12_1 := blk_frozen BK402.out 1
            have hfz12_2 := blk_frozen BK402.out 2
            have hfz12_3 := blk_frozen BK402.out 3
            go_wp2_with (first | (go_at_call 10; (with_reducible refine (credenzaref20_Right.calls a0_1 a0_2 true _ A9.out).mono ?_); rintro e w' ⟨rfl, ⟨nd, rfl⟩⟩))
            go_meet
            case rel => exact ⟨_, (true), (by first | rfl | (simp; done) | (simp [*]; done)), H', ⟨by first | omega | exact Nat.le_refl _⟩, ⟨by (with_reducible repeat (first | refine blk_drewN ?_ _ | refine blk_drew ?_ | refine blk_alloc ?_ _)); exact BK402.out⟩, ⟨by repeat (first | (with_reducible first | exact HB.out | apply below_alloc | apply pw_below_drewN | apply below_drew1 | refine below_set ?_ GE402.out) | exact HB.out)⟩⟩
          · rw [if_neg c11] at H
            have c11b0 : decide (a1 < 0) = false := decide_eq_false c11
            clear c11
            have H' := Aside0.mk H
            clear H
            have hcz13_0 : w4.cell? ⟨gb402, 0, none⟩ = some (.slice A0_0 l0_0.length c0_0) := (blk_cell BK402.out 0).trans rfl
            have hcz13_1 : w4.cell? ⟨gb402, 1, none⟩ = some (.int .i32 a0_1) := (blk_cell BK402.out 1).trans rfl
            have hcz13_2 : w4.cell? ⟨gb402, 2, none⟩ = some (.int .i64 a0_2) := (blk_cell BK402.out 2).trans rfl
            have hcz13_3 : w4.cell? ⟨gb402, 3, none⟩ = some (.int .u64 a0_3) := (blk_cell BK402.out 3).trans rfl
            have hfz13_0 := blk_frozen BK402.out 0
            have hfz13_1 := blk_frozen BK402.out 1
            have hfz13_2 := blk_frozen BK402.out 2
            have hfz13_3 := blk_frozen BK402.out 3
            go_wp2_with (first | (go_at_call 10; (with_reducible refine (credenzaref20_Right.calls a0_1 a0_2 true _ A9.out).mono ?_); rintro e w' ⟨rfl, ⟨nd, rfl⟩⟩))
            go_meet
            case rel => exact ⟨_, (decide (a1 > 1024)), (by first | rfl | (simp; done) | (simp [*]; done)), H', ⟨by first | omega | exact Nat.le_refl _⟩, ⟨by (with_reducible repeat (first | refine blk_drewN ?_ _ | refine blk_drew ?_ | refine blk_alloc ?_ _)); exact BK402.out⟩, ⟨by repeat (first | (with_reducible first | exact HB.out | apply below_alloc | apply pw_below_drewN | apply below_drew1 | refine below_set ?_ GE402.out) | exact HB.out)⟩⟩
        · replace c10 := Bool.eq_false_iff.mpr c10
          subst c10
          have H1 : (credenzalaw20_PickTops.j0 k a1 true l0_0 a0_1 a0_2 a0_3) = some r := by rw [if_neg (show ¬ (false = true) by decide)] at H; exact H
          clear H
          have H := H1
          clear H1
          have H' := Aside0.mk H
          clear H
          have hcz14_0 : w4.cell? ⟨gb402, 0, none⟩ = some (.slice A0_0 l0_0.length c0_0) := (blk_cell BK402.out 0).trans rfl
          have hcz14_1 : w4.cell? ⟨gb402, 1, none⟩ = some (.int .i32 a0_1) := (blk_cell BK402.out 1).trans rfl
          have hcz14_2 : w4.cell? ⟨gb402, 2, none⟩ = some (.int .i64 a0_2) := (blk_cell BK402.out 2).trans rfl
          have hcz14_3 : w4.cell? ⟨gb402, 3, none⟩ = some (.int .u64 a0_3) := (blk_cell BK402.out 3).trans rfl
          have hfz14_0 := blk_frozen BK402.out 0
          have hfz14_1 := blk_frozen BK402.out 1
          have hfz14_2 := blk_frozen BK402.out 2
          have hfz14_3 := blk_frozen BK402.out 3
          go_wp2_with (first | (go_at_call 10; (with_reducible refine (credenzaref20_Right.calls a0_1 a0_2 false _ A9.out).mono ?_); rintro e w' ⟨rfl, ⟨nd, rfl⟩⟩))
          go_meet
          case rel => exact ⟨_, (true), (by first | rfl | (simp; done) | (simp [*]; done)), H', ⟨by first | omega | exact Nat.le_refl _⟩, ⟨by (with_reducible repeat (first | refine blk_drewN ?_ _ | refine blk_drew ?_ | refine blk_alloc ?_ _)); exact BK402.out⟩, ⟨by repeat (first | (with_reducible first | exact HB.out | apply below_alloc | apply pw_below_drewN | apply below_drew1 | refine below_set ?_ GE402.out) | exact HB.out)⟩⟩
  case rest =>
    clear HC3
    try clear c1
    try clear p2
    try clear c5
    try clear c5b0
    try clear c5b1
    try clear c5b2
    try clear c7
    try clear c7b0
    try clear c7b1
    try clear c10
    try clear c11
    try clear c11b0
    try clear hcz12_0
    try clear hcz12_1
    try clear hcz12_2
    try clear hcz12_3
    try clear hcz13_0
    try clear hcz13_1
    try clear hcz13_2
    try clear hcz13_3
    try clear hcz14_0
    try clear hcz14_1
    try clear hcz14_2
    try clear hcz14_3
    try clear hcz6_0
    try clear hcz6_1
    try clear hcz6_2
    try clear hcz6_3
    try clear hcz8_0
    try clear hcz8_1
    try clear hcz8_2
    try clear hcz8_3
    try clear hfz12_0
    try clear hfz12_1
    try clear hfz12_2
    try clear hfz12_3
    try clear hfz13_0
    try clear hfz13_1
    try clear hfz13_2
    try clear hfz13_3
    try clear hfz14_0
    try clear hfz14_1
    try clear hfz14_2
    try clear hfz14_3
    try clear hfz6_0
    try clear hfz6_1
    try clear hfz6_2
    try clear hfz6_3
    try clear hfz8_0
    try clear hfz8_1
    try clear hfz8_2
    try clear hfz8_3
    obtain ⟨kq, x39_2, rfl, HA, HJ2, BK402, HB⟩ := hcut
    cases kq with
    | zero => exact absurd HA.out (by simp [credenzalaw20_PickTops.j0])
    | succ kj2 =>
      have H := HA.out
      clear HA
      simp only [credenzalaw20_PickTops.j0] at H
      by_cases c15 : x39_2 = true
      · subst c15
        have H1 : ((credenzalaw20_awake.f kj2).bind fun t404 => (some t404)) = some r := by rw [if_pos rfl] at H; exact H
        clear H
        have H := H1
        clear H1
        replace H := Option.bind_eq_some_iff.mp H
        obtain ⟨t404, A160, H⟩ := H
        replace H : (some t404) = some r := H
        have A16 := Aside0.mk A160
        clear A160
        obtain rfl := Option.some.inj H
        go_wp2_with (first | ((with_reducible refine gate_callee (f := 8) rfl ?_); refine goesL_ (some 40) rfl rfl Try.func8 (by kernel_rfl) rfl #[] rfl (by (try simp only [List.map_toArray, List.map_cons, List.map_nil]); first | done | rfl | (simp only [List.length_drop, List.length_take]; rfl)) ?_; (with_reducible refine (credenzalaw20_awake.calls kj2  t404 _ A16.out).mono ?_); rintro e w17 ⟨rfl, hb⟩; refine ⟨_, rfl, ?_⟩; have n0_ := Aside0.mk (blk_below (g := gb402) (o := .cells #[.slice A0_0 l0_0.length c0_0, .int .i32 a0_1, .int .i64 a0_2, .int .u64 a0_3] 27 (0, 0)) (by (with_reducible repeat (first | refine blk_drewN ?_ _ | refine blk_drew ?_ | refine blk_alloc ?_ _)); exact BK402.out) hb); have n1_ := Aside0.mk (below_step (by repeat (first | (with_reducible first | exact HB.out | apply below_alloc | apply pw_below_drewN | apply below_drew1 | refine below_set ?_ GE402.out) | exact HB.out)) hb); clear BK402; clear HB; have BK402 := n0_; have HB := n1_; clear n0_ n1_; (try clear hb); (try clear hb2); (try clear hk); (try clear hi)))
        go_ret
        exact ⟨by first | rfl | (simp [errW_none, errW_some] <;> rfl) | (simp [*, errW_none, errW_some] <;> rfl), by repeat (first | (with_reducible first | exact HB.out | apply below_alloc | apply pw_below_drewN | apply below_drew1 | refine below_set ?_ GE402.out) | exact HB.out)⟩
      · replace c15 := Bool.eq_false_iff.mpr c15
        subst c15
        have H1 : ((pick_Pick.f kj2 l0_0 0 a0_2 a0_3 a1).bind fun bt407 => ((pick_Pick.f kj2 l0_0 a0_1 1 a0_3 a1).bind fun bt409 => ((credenzaref03_Top.f kj2 l0_0).bind fun t411 => (if bt407.2 = 0 then (if bt409.2 = 0 then (if bt407.1 = t411 then (if bt409.1 = t411 then ((credenzalaw20_awake.f kj2).bind fun t412 => (some t412)) else (some false)) else (some false)) else (some false)) else (some false))))) = some r := by rw [if_neg (show ¬ (false = true) by decide)] at H; exact H
        clear H
        have H := H1
        clear H1
        replace H := Option.bind_eq_some_iff.mp H
        obtain ⟨⟨t407, t408⟩, A180, H⟩ := H
        replace H : ((pick_Pick.f kj2 l0_0 a0_1 1 a0_3 a1).bind fun bt409 => ((credenzaref03_Top.f kj2 l0_0).bind fun t411 => (if t408 = 0 then (if bt409.2 = 0 then (if t407 = t411 then (if bt409.1 = t411 then ((credenzalaw20_awake.f kj2).bind fun t412 => (some t412)) else (some false)) else (some false)) else (some false)) else (some false)))) = some r := H
        have A18 := Aside0.mk A180
        clear A180
        replace H := Option.bind_eq_some_iff.mp H
        obtain ⟨⟨t409, t410⟩, A190, H⟩ := H
        replace H : ((credenzaref03_Top.f kj2 l0_0).bind fun t411 => (if t408 = 0 then (if t410 = 0 then (if t407 = t411 then (if t409 = t411 then ((credenzalaw20_awake.f kj2).bind fun t412 => (some t412)) else (some false)) else (some false)) else (some false)) else (some false))) = some r := H
        have A19 := Aside0.mk A190
        clear A190
        replace H := Option.bind_eq_some_iff.mp H
        obtain ⟨t411, A200, H⟩ := H
        replace H : (if t408 = 0 then (if t410 = 0 then (if t407 = t411 then (if t409 = t411 then ((credenzalaw20_awake.f kj2).bind fun t412 => (some t412)) else (some false)) else (some false)) else (some false)) else (some false)) = some r := H
        have A20 := Aside0.mk A200
        clear A200
        by_cases c21 : t408 = 0
        · rw [if_pos c21] at H
          have c21b0 : (t408 == 0) = true := beq_iff_eq.mpr c21
          have c21b1 : (t408 != 0) = false := bne_eq_false_iff_eq.mpr c21
          clear c21
          by_cases c22 : t410 = 0
          · rw [if_pos c22] at H
            have c22b0 : (t410 == 0) = true := beq_iff_eq.mpr c22
            have c22b1 : (t410 != 0) = false := bne_eq_false_iff_eq.mpr c22
            clear c22
            by_cases c23 : t407 = t411
            · rw [if_pos c23] at H
              have c23b0 : (t407 == t411) = true := beq_iff_eq.mpr c23
              have c23b1 : (t407 != t411) = false := bne_eq_false_iff_eq.mpr c23
              clear c23
              by_cases c24 : t409 = t411
              · rw [if_pos c24] at H
                have c24b0 : (t409 == t411) = true := beq_iff_eq.mpr c24
                have c24b1 : (t409 != t411) = false := bne_eq_false_iff_eq.mpr c24
                clear c24
                replace H := Option.bind_eq_some_iff.mp H
                obtain ⟨t412, A250, H⟩ := H
                replace H : (some t412) = some r := H
                have A25 := Aside0.mk A250
                clear A250
                obtain rfl := Option.some.inj H
                try go_wp2
                have n0_ := Aside0.mk (blk_drew BK402.out)
                have n1_ := Aside0.mk (below_drew1 HB.out)
                clear BK402
                clear HB
                have BK402 := n0_
                have HB := n1_
                clear n0_ n1_
                refine start_ (n := 8) (S := fun w' => w'.cell? ⟨gb402, 0, none⟩ = some (.slice A0_0 l0_0.length c0_0) ∧ w'.cell? ⟨gb402, 1, none⟩ = some (.int .i32 a0_1) ∧ w'.cell? ⟨gb402, 2, none⟩ = some (.int .i64 a0_2) ∧ w'.cell? ⟨gb402, 3, none⟩ = some (.int .u64 a0_3)) (ds := []) #[false, false, false, false, false, false, false, false] (by kernel_rfl) rfl rfl ⟨(blk_cell BK402.out 0).trans rfl, (blk_cell BK402.out 1).trans rfl, (blk_cell BK402.out 2).trans rfl, (blk_cell BK402.out 3).trans rfl⟩ (fun hHeld => ?_); refine with_tabW credenzalaw20_PickTops.tab3 credenzalaw20_PickTops.bits3 (fun HT_ HW_ => ?_)
                generalize wc.drew = w26 at BK402 HB hHeld ⊢
                refine pure_ (i := 0) (N := some 41) (v := ?_) (a' := ?_) #[true, false, false, false, false, false, false, false] rfl rfl (any_of HT_.out (by kernel_rfl)) (fun _ _ _ h => h) (Or.inl ⟨by rfl, ?_⟩) ?_ ?_
                rotate_left
                · intro w'
                  go_simp
                  with_reducible rfl
                rotate_left
                · simp only [Act.put, List.setIfInBounds_toArray, List.set_cons_zero, List.set_cons_succ, i64_w, i32_w]
                  rfl
                refine pure_ (i := 2) (N := some 43) (v := ?_) (a' := ?_) #[true, false, true, false, false, false, false, false] rfl rfl (any_of HT_.out (by kernel_rfl)) (fun _ _ _ h => h) (Or.inl ⟨by rfl, ?_⟩) ?_ ?_
                rotate_left
                · intro w'
                  go_simp
                  with_reducible rfl
                rotate_left
                · simp only [Act.put, List.setIfInBounds_toArray, List.set_cons_zero, List.set_cons_succ, i64_w, i32_w]
                  rfl
                refine take_ (i := 1) (N := some 42) (v := ?_) (a' := ?_) #[true, true, true, false, false, false, false, false] rfl rfl (take_ofW HT_.out HW_.out (by kernel_rfl)) (fun _ _ _ h => h) (Or.inl ⟨by rfl, ?_⟩) hHeld ?_ ?_
                rotate_left
                · rintro w' ⟨s0, s1, s2, s3⟩
                  go_simp
                  with_reducible rfl
                rotate_left
                · simp only [Act.put, List.setIfInBounds_toArray, List.set_cons_zero, List.set_cons_succ, i64_w, i32_w]
                  rfl
                refine take_ (i := 3) (N := some 44) (v := ?_) (a' := ?_) #[true, true, true, true, false, false, false, false] rfl rfl (take_ofW HT_.out HW_.out (by kernel_rfl)) (fun _ _ _ h => h) (Or.inl ⟨by rfl, ?_⟩) hHeld ?_ ?_
                rotate_left
                · rintro w' ⟨s0, s1, s2, s3⟩
                  go_simp
                  with_reducible rfl
                rotate_left
                · simp only [Act.put, List.setIfInBounds_toArray, List.set_cons_zero, List.set_cons_succ, i64_w, i32_w]
                  rfl
                refine join_ (σ := Nat × Nat) 2 #[true, true, true, true, true, true, false, false] (fun s_ => [(5, .pointer (some ⟨s_.1, 0, none⟩)), (6, .pointer (some ⟨s_.2, 0, none⟩))]) (fun s_ w' => (w'.cell? ⟨gb402, 0, none⟩ = some (.slice A0_0 l0_0.length c0_0) ∧ w'.cell? ⟨gb402, 1, none⟩ = some (.int .i32 a0_1) ∧ w'.cell? ⟨gb402, 2, none⟩ = some (.int .i64 a0_2) ∧ w'.cell? ⟨gb402, 3, none⟩ = some (.int .u64 a0_3)) ∧ (w'.heap[gb402]? = some (.cells #[.slice A0_0 l0_0.length c0_0, .int .i32 a0_1, .int .i64 a0_2, .int .u64 a0_3] 27 (0, 0))) ∧ (w'.heap[s_.1]? = some (.cells #[.int .i32 0, .int .i64 0, .int .u64 0] 25 (0, 0))) ∧ (w'.heap[s_.2]? = some (.cells #[.int .i32 0, .int .i64 0, .int .u64 0] 25 (0, 0))) ∧ (w.heap.size ≤ s_.1) ∧ (w.heap.size ≤ s_.1) ∧ (gb402 ≠ s_.1) ∧ (s_.1 ≠ gb402) ∧ (s_.2 ≠ s_.1) ∧ (s_.1 ≠ s_.2) ∧ (w.heap.size ≤ s_.2) ∧ (w.heap.size ≤ s_.2) ∧ (gb402 ≠ s_.2) ∧ (s_.2 ≠ gb402) ∧ (Below w.heap.size w w')) ?_ ?_
                rotate_left
                · intro hCont
                  refine two_ (i := 4) (j := 5) (Ni := some 5) (Nj := some 6) #[true, true, true, true, true, false, false, false] #[true, true, true, true, false, true, false, false] rfl rfl rfl rfl (two_of HT_.out (by kernel_rfl)) (by decide) (by decide) (fun K hK => ?_) (fun K hK => ?_)
                  · skip
                    refine box_step ?hg (N := 5) ?hd (cs := #[.int .i32 0, .int .i64 0, .int .u64 0]) (t := 25) ?hr ?_; (case hd => rfl); (case hg => rfl); (case hr => first | (go_simp; done) | (go_simp; rfl))
                    intro gb405 hg w27 hbox hb
                    have n0_ := Aside0.mk (blk_below (g := gb402) (o := .cells #[.slice A0_0 l0_0.length c0_0, .int .i32 a0_1, .int .i64 a0_2, .int .u64 a0_3] 27 (0, 0)) (by (with_reducible repeat (first | refine blk_drewN ?_ _ | refine blk_drew ?_ | refine blk_alloc ?_ _)); exact BK402.out) hb)
                    have n1_ := Aside0.mk (below_step (by repeat (first | (with_reducible first | exact HB.out | apply below_alloc | apply pw_below_drewN | apply below_drew1 | refine below_set ?_ GE402.out) | exact HB.out)) hb)
                    have n2_ := Aside0.mk (hbox)
                    have n3_ := Aside0.mk ((by rw [hg]; exact (below_size (by repeat (first | (with_reducible first | exact HB.out | apply below_alloc | apply pw_below_drewN | apply below_drew1 | refine below_set ?_ GE402.out) | exact HB.out))) : w.heap.size ≤ gb405))
                    have n4_ := Aside0.mk ((by rw [hg]; exact (below_size (by repeat (first | (with_reducible first | exact HB.out | apply below_alloc | apply pw_below_drewN | apply below_drew1 | refine below_set ?_ GE402.out) | exact HB.out))) : w.heap.size ≤ gb405))
                    have n5_ := Aside0.mk ((by rw [hg]; exact Nat.ne_of_lt (blk_lt (g := gb402) (o := .cells #[.slice A0_0 l0_0.length c0_0, .int .i32 a0_1, .int .i64 a0_2, .int .u64 a0_3] 27 (0, 0)) (by (with_reducible repeat (first | refine blk_drewN ?_ _ | refine blk_drew ?_ | refine blk_alloc ?_ _)); exact BK402.out)) : gb402 ≠ gb405))
                    have n6_ := Aside0.mk ((by rw [hg]; exact Nat.ne_of_gt (blk_lt (g := gb402) (o := .cells #[.slice A0_0 l0_0.length c0_0, .int .i32 a0_1, .int .i64 a0_2, .int .u64 a0_3] 27 (0, 0)) (by (with_reducible repeat (first | refine blk_drewN ?_ _ | refine blk_drew ?_ | refine blk_alloc ?_ _)); exact BK402.out)) : gb405 ≠ gb402))
                    clear BK402
                    clear HB
                    have BK402 := n0_
                    have HB := n1_
                    have BK405 := n2_
                    have GW405 := n3_
                    have GE405 := n4_
                    have NB402_405 := n5_
                    have NB405_402 := n6_
                    clear n0_ n1_ n2_ n3_ n4_ n5_ n6_
                    clear hb hbox hg
                    refine hK.out _ _ ⟨(blk_cell BK402.out 0).trans rfl, (blk_cell BK402.out 1).trans rfl, (blk_cell BK402.out 2).trans rfl, (blk_cell BK402.out 3).trans rfl⟩ (fun hHeld => ?_)
                    clear hK K
                    refine norm_ (a' := ?_) ?_ ?_
                    rotate_left
                    · show Act.put _ (some 5) _ = _
                      simp only [Act.put, List.setIfInBounds_toArray, List.set_cons_zero, List.set_cons_succ, i64_w, i32_w]
                      rfl
                    refine one_ (i := 5) (N := some 6) #[true, true, true, true, true, true, false, false] rfl rfl (one_of HT_.out (by kernel_rfl)) (by decide) (fun K hK => ?_)
                    refine box_step ?hg (N := 6) ?hd (cs := #[.int .i32 0, .int .i64 0, .int .u64 0]) (t := 25) ?hr ?_; (case hd => rfl); (case hg => rfl); (case hr => first | (go_simp; done) | (go_simp; rfl))
                    intro gb406 hg w28 hbox hb
                    have n0_ := Aside0.mk (blk_below (g := gb402) (o := .cells #[.slice A0_0 l0_0.length c0_0, .int .i32 a0_1, .int .i64 a0_2, .int .u64 a0_3] 27 (0, 0)) (by (with_reducible repeat (first | refine blk_drewN ?_ _ | refine blk_drew ?_ | refine blk_alloc ?_ _)); exact BK402.out) hb)
                    have n1_ := Aside0.mk (blk_below (g := gb405) (o := .cells #[.int .i32 0, .int .i64 0, .int .u64 0] 25 (0, 0)) (by (with_reducible repeat (first | refine blk_drewN ?_ _ | refine blk_drew ?_ | refine blk_alloc ?_ _)); exact BK405.out) hb)
                    have n2_ := Aside0.mk (below_step (by repeat (first | (with_reducible first | exact HB.out | apply below_alloc | apply pw_below_drewN | apply below_drew1 | refine below_set ?_ GE402.out | refine below_set ?_ GE405.out) | exact HB.out)) hb)
                    have n3_ := Aside0.mk (hbox)
                    have n4_ := Aside0.mk ((by rw [hg]; exact (below_size (by repeat (first | (with_reducible first | exact HB.out | apply below_alloc | apply pw_below_drewN | apply below_drew1 | refine below_set ?_ GE402.out | refine below_set ?_ GE405.out) | exact HB.out))) : w.heap.size ≤ gb406))
                    have n5_ := Aside0.mk ((by rw [hg]; exact (below_size (by repeat (first | (with_reducible first | exact HB.out | apply below_alloc | apply pw_below_drewN | apply below_drew1 | refine below_set ?_ GE402.out | refine below_set ?_ GE405.out) | exact HB.out))) : w.heap.size ≤ gb406))
                    have n6_ := Aside0.mk ((by rw [hg]; exact Nat.ne_of_lt (blk_lt (g := gb402) (o := .cells #[.slice A0_0 l0_0.length c0_0, .int .i32 a0_1, .int .i64 a0_2, .int .u64 a0_3] 27 (0, 0)) (by (with_reducible repeat (first | refine blk_drewN ?_ _ | refine blk_drew ?_ | refine blk_alloc ?_ _)); exact BK402.out)) : gb402 ≠ gb406))
                    have n7_ := Aside0.mk ((by rw [hg]; exact Nat.ne_of_gt (blk_lt (g := gb402) (o := .cells #[.slice A0_0 l0_0.length c0_0, .int .i32 a0_1, .int .i64 a0_2, .int .u64 a0_3] 27 (0, 0)) (by (with_reducible repeat (first | refine blk_drewN ?_ _ | refine blk_drew ?_ | refine blk_alloc ?_ _)); exact BK402.out)) : gb406 ≠ gb402))
                    have n8_ := Aside0.mk ((by rw [hg]; exact Nat.ne_of_lt (blk_lt (g := gb405) (o := .cells #[.int .i32 0, .int .i64 0, .int .u64 0] 25 (0, 0)) (by (with_reducible repeat (first | refine blk_drewN ?_ _ | refine blk_drew ?_ | refine blk_alloc ?_ _)); exact BK405.out)) : gb405 ≠ gb406))
                    have n9_ := Aside0.mk ((by rw [hg]; exact Nat.ne_of_gt (blk_lt (g := gb405) (o := .cells #[.int .i32 0, .int .i64 0, .int .u64 0] 25 (0, 0)) (by (with_reducible repeat (first | refine blk_drewN ?_ _ | refine blk_drew ?_ | refine blk_alloc ?_ _)); exact BK405.out)) : gb406 ≠ gb405))
                    clear BK402
                    clear BK405
                    clear HB
                    have BK402 := n0_
                    have BK405 := n1_
                    have HB := n2_
                    have BK406 := n3_
                    have GW406 := n4_
                    have GE406 := n5_
                    have NB402_406 := n6_
                    have NB406_402 := n7_
                    have NB405_406 := n8_
                    have NB406_405 := n9_
                    clear n0_ n1_ n2_ n3_ n4_ n5_ n6_ n7_ n8_ n9_
                    clear hb hbox hg
                    refine hK.out _ _ ⟨(blk_cell BK402.out 0).trans rfl, (blk_cell BK402.out 1).trans rfl, (blk_cell BK402.out 2).trans rfl, (blk_cell BK402.out 3).trans rfl⟩ (fun hHeld => ?_)
                    clear hK K
                    refine norm_ (a' := ?_) ?_ ?_
                    rotate_left
                    · show Act.put _ (some 6) _ = _
                      simp only [Act.put, List.setIfInBounds_toArray, List.set_cons_zero, List.set_cons_succ, i64_w, i32_w]
                      rfl
                    exact norm_ (by simp only [putAll, Act.put, List.setIfInBounds_toArray, List.set_cons_zero, List.set_cons_succ]) (hCont (gb405, gb406) _ ⟨hHeld, (by (with_reducible repeat (first | refine blk_drewN ?_ _ | refine blk_drew ?_ | refine blk_alloc ?_ _)); exact BK402.out), (by (with_reducible repeat (first | refine blk_drewN ?_ _ | refine blk_drew ?_ | refine blk_alloc ?_ _)); exact BK405.out), (by (with_reducible repeat (first | refine blk_drewN ?_ _ | refine blk_drew ?_ | refine blk_alloc ?_ _)); exact BK406.out), GW405.out, GE405.out, NB402_405.out, NB405_402.out, NB406_405.out, NB405_406.out, GW406.out, GE406.out, NB402_406.out, NB406_402.out, (by repeat (first | (with_reducible first | exact HB.out | apply below_alloc | apply pw_below_drewN | apply below_drew1 | refine below_set ?_ GE402.out | refine below_set ?_ GE405.out | refine below_set ?_ GE406.out) | exact HB.out))⟩)
                  · skip
                    refine box_step ?hg (N := 6) ?hd (cs := #[.int .i32 0, .int .i64 0, .int .u64 0]) (t := 25) ?hr ?_; (case hd => rfl); (case hg => rfl); (case hr => first | (go_simp; done) | (go_simp; rfl))
                    intro gb406 hg w27 hbox hb
                    have n0_ := Aside0.mk (blk_below (g := gb402) (o := .cells #[.slice A0_0 l0_0.length c0_0, .int .i32 a0_1, .int .i64 a0_2, .int .u64 a0_3] 27 (0, 0)) (by (with_reducible repeat (first | refine blk_drewN ?_ _ | refine blk_drew ?_ | refine blk_alloc ?_ _)); exact BK402.out) hb)
                    have n1_ := Aside0.mk (below_step (by repeat (first | (with_reducible first | exact HB.out | apply below_alloc | apply pw_below_drewN | apply below_drew1 | refine below_set ?_ GE402.out) | exact HB.out)) hb)
                    have n2_ := Aside0.mk (hbox)
                    have n3_ := Aside0.mk ((by rw [hg]; exact (below_size (by repeat (first | (with_reducible first | exact HB.out | apply below_alloc | apply pw_below_drewN | apply below_drew1 | refine below_set ?_ GE402.out) | exact HB.out))) : w.heap.size ≤ gb406))
                    have n4_ := Aside0.mk ((by rw [hg]; exact (below_size (by repeat (first | (with_reducible first | exact HB.out | apply below_alloc | apply pw_below_drewN | apply below_drew1 | refine below_set ?_ GE402.out) | exact HB.out))) : w.heap.size ≤ gb406))
                    have n5_ := Aside0.mk ((by rw [hg]; exact Nat.ne_of_lt (blk_lt (g := gb402) (o := .cells #[.slice A0_0 l0_0.length c0_0, .int .i32 a0_1, .int .i64 a0_2, .int .u64 a0_3] 27 (0, 0)) (by (with_reducible repeat (first | refine blk_drewN ?_ _ | refine blk_drew ?_ | refine blk_alloc ?_ _)); exact BK402.out)) : gb402 ≠ gb406))
                    have n6_ := Aside0.mk ((by rw [hg]; exact Nat.ne_of_gt (blk_lt (g := gb402) (o := .cells #[.slice A0_0 l0_0.length c0_0, .int .i32 a0_1, .int .i64 a0_2, .int .u64 a0_3] 27 (0, 0)) (by (with_reducible repeat (first | refine blk_drewN ?_ _ | refine blk_drew ?_ | refine blk_alloc ?_ _)); exact BK402.out)) : gb406 ≠ gb402))
                    clear BK402
                    clear HB
                    have BK402 := n0_
                    have HB := n1_
                    have BK406 := n2_
                    have GW406 := n3_
                    have GE406 := n4_
                    have NB402_406 := n5_
                    have NB406_402 := n6_
                    clear n0_ n1_ n2_ n3_ n4_ n5_ n6_
                    clear hb hbox hg
                    refine hK.out _ _ ⟨(blk_cell BK402.out 0).trans rfl, (blk_cell BK402.out 1).trans rfl, (blk_cell BK402.out 2).trans rfl, (blk_cell BK402.out 3).trans rfl⟩ (fun hHeld => ?_)
                    clear hK K
                    refine norm_ (a' := ?_) ?_ ?_
                    rotate_left
                    · show Act.put _ (some 6) _ = _
                      simp only [Act.put, List.setIfInBounds_toArray, List.set_cons_zero, List.set_cons_succ, i64_w, i32_w]
                      rfl
                    refine one_ (i := 4) (N := some 5) #[true, true, true, true, true, true, false, false] rfl rfl (one_of HT_.out (by kernel_rfl)) (by decide) (fun K hK => ?_)
                    refine box_step ?hg (N := 5) ?hd (cs := #[.int .i32 0, .int .i64 0, .int .u64 0]) (t := 25) ?hr ?_; (case hd => rfl); (case hg => rfl); (case hr => first | (go_simp; done) | (go_simp; rfl))
                    intro gb405 hg w28 hbox hb
                    have n0_ := Aside0.mk (blk_below (g := gb402) (o := .cells #[.slice A0_0 l0_0.length c0_0, .int .i32 a0_1, .int .i64 a0_2, .int .u64 a0_3] 27 (0, 0)) (by (with_reducible repeat (first | refine blk_drewN ?_ _ | refine blk_drew ?_ | refine blk_alloc ?_ _)); exact BK402.out) hb)
                    have n1_ := Aside0.mk (blk_below (g := gb406) (o := .cells #[.int .i32 0, .int .i64 0, .int .u64 0] 25 (0, 0)) (by (with_reducible repeat (first | refine blk_drewN ?_ _ | refine blk_drew ?_ | refine blk_alloc ?_ _)); exact BK406.out) hb)
                    have n2_ := Aside0.mk (below_step (by repeat (first | (with_reducible first | exact HB.out | apply below_alloc | apply pw_below_drewN | apply below_drew1 | refine below_set ?_ GE402.out | refine below_set ?_ GE406.out) | exact HB.out)) hb)
                    have n3_ := Aside0.mk (hbox)
                    have n4_ := Aside0.mk ((by rw [hg]; exact (below_size (by repeat (first | (with_reducible first | exact HB.out | apply below_alloc | apply pw_below_drewN | apply below_drew1 | refine below_set ?_ GE402.out | refine below_set ?_ GE406.out) | exact HB.out))) : w.heap.size ≤ gb405))
                    have n5_ := Aside0.mk ((by rw [hg]; exact (below_size (by repeat (first | (with_reducible first | exact HB.out | apply below_alloc | apply pw_below_drewN | apply below_drew1 | refine below_set ?_ GE402.out | refine below_set ?_ GE406.out) | exact HB.out))) : w.heap.size ≤ gb405))
                    have n6_ := Aside0.mk ((by rw [hg]; exact Nat.ne_of_lt (blk_lt (g := gb402) (o := .cells #[.slice A0_0 l0_0.length c0_0, .int .i32 a0_1, .int .i64 a0_2, .int .u64 a0_3] 27 (0, 0)) (by (with_reducible repeat (first | refine blk_drewN ?_ _ | refine blk_drew ?_ | refine blk_alloc ?_ _)); exact BK402.out)) : gb402 ≠ gb405))
                    have n7_ := Aside0.mk ((by rw [hg]; exact Nat.ne_of_gt (blk_lt (g := gb402) (o := .cells #[.slice A0_0 l0_0.length c0_0, .int .i32 a0_1, .int .i64 a0_2, .int .u64 a0_3] 27 (0, 0)) (by (with_reducible repeat (first | refine blk_drewN ?_ _ | refine blk_drew ?_ | refine blk_alloc ?_ _)); exact BK402.out)) : gb405 ≠ gb402))
                    have n8_ := Aside0.mk ((by rw [hg]; exact Nat.ne_of_lt (blk_lt (g := gb406) (o := .cells #[.int .i32 0, .int .i64 0, .int .u64 0] 25 (0, 0)) (by (with_reducible repeat (first | refine blk_drewN ?_ _ | refine blk_drew ?_ | refine blk_alloc ?_ _)); exact BK406.out)) : gb406 ≠ gb405))
                    have n9_ := Aside0.mk ((by rw [hg]; exact Nat.ne_of_gt (blk_lt (g := gb406) (o := .cells #[.int .i32 0, .int .i64 0, .int .u64 0] 25 (0, 0)) (by (with_reducible repeat (first | refine blk_drewN ?_ _ | refine blk_drew ?_ | refine blk_alloc ?_ _)); exact BK406.out)) : gb405 ≠ gb406))
                    clear BK402
                    clear BK406
                    clear HB
                    have BK402 := n0_
                    have BK406 := n1_
                    have HB := n2_
                    have BK405 := n3_
                    have GW405 := n4_
                    have GE405 := n5_
                    have NB402_405 := n6_
                    have NB405_402 := n7_
                    have NB406_405 := n8_
                    have NB405_406 := n9_
                    clear n0_ n1_ n2_ n3_ n4_ n5_ n6_ n7_ n8_ n9_
                    clear hb hbox hg
                    refine hK.out _ _ ⟨(blk_cell BK402.out 0).trans rfl, (blk_cell BK402.out 1).trans rfl, (blk_cell BK402.out 2).trans rfl, (blk_cell BK402.out 3).trans rfl⟩ (fun hHeld => ?_)
                    clear hK K
                    refine norm_ (a' := ?_) ?_ ?_
                    rotate_left
                    · show Act.put _ (some 5) _ = _
                      simp only [Act.put, List.setIfInBounds_toArray, List.set_cons_zero, List.set_cons_succ, i64_w, i32_w]
                      rfl
                    exact norm_ (by simp only [putAll, Act.put, List.setIfInBounds_toArray, List.set_cons_zero, List.set_cons_succ]) (hCont (gb405, gb406) _ ⟨hHeld, (by (with_reducible repeat (first | refine blk_drewN ?_ _ | refine blk_drew ?_ | refine blk_alloc ?_ _)); exact BK402.out), (by (with_reducible repeat (first | refine blk_drewN ?_ _ | refine blk_drew ?_ | refine blk_alloc ?_ _)); exact BK405.out), (by (with_reducible repeat (first | refine blk_drewN ?_ _ | refine blk_drew ?_ | refine blk_alloc ?_ _)); exact BK406.out), GW405.out, GE405.out, NB402_405.out, NB405_402.out, NB406_405.out, NB405_406.out, GW406.out, GE406.out, NB402_406.out, NB406_402.out, (by repeat (first | (with_reducible first | exact HB.out | apply below_alloc | apply pw_below_drewN | apply below_drew1 | refine below_set ?_ GE402.out | refine below_set ?_ GE406.out | refine below_set ?_ GE405.out) | exact HB.out))⟩)
                rintro ⟨gb405, gb406⟩ w29 ⟨hS_, h0_, h1_, h2_, h3_, h4_, h5_, h6_, h7_, h8_, h9_, h10_, h11_, h12_, h13_⟩
                have n0_ : Aside0 (w29.heap[gb402]? = some (.cells #[.slice A0_0 l0_0.length c0_0, .int .i32 a0_1, .int .i64 a0_2, .int .u64 a0_3] 27 (0, 0))) := ⟨h0_⟩
                have n1_ : Aside0 (w29.heap[gb405]? = some (.cells #[.int .i32 0, .int .i64 0, .int .u64 0] 25 (0, 0))) := ⟨h1_⟩
                have n2_ : Aside0 (w29.heap[gb406]? = some (.cells #[.int .i32 0, .int .i64 0, .int .u64 0] 25 (0, 0))) := ⟨h2_⟩
                have n3_ : Aside0 (w.heap.size ≤ gb405) := ⟨h3_⟩
                have n4_ : Aside0 (w.heap.size ≤ gb405) := ⟨h4_⟩
                have n5_ : Aside0 (gb402 ≠ gb405) := ⟨h5_⟩
                have n6_ : Aside0 (gb405 ≠ gb402) := ⟨h6_⟩
                have n7_ : Aside0 (gb406 ≠ gb405) := ⟨h7_⟩
                have n8_ : Aside0 (gb405 ≠ gb406) := ⟨h8_⟩
                have n9_ : Aside0 (w.heap.size ≤ gb406) := ⟨h9_⟩
                have n10_ : Aside0 (w.heap.size ≤ gb406) := ⟨h10_⟩
                have n11_ : Aside0 (gb402 ≠ gb406) := ⟨h11_⟩
                have n12_ : Aside0 (gb406 ≠ gb402) := ⟨h12_⟩
                have n13_ : Aside0 (Below w.heap.size w w29) := ⟨h13_⟩
                clear BK402
                clear HB
                clear h0_ h1_ h2_ h3_ h4_ h5_ h6_ h7_ h8_ h9_ h10_ h11_ h12_ h13_
                have BK402 := n0_
                have BK405 := n1_
                have BK406 := n2_
                have GW405 := n3_
                have GE405 := n4_
                have NB402_405 := n5_
                have NB405_402 := n6_
                have NB406_405 := n7_
                have NB405_406 := n8_
                have GW406 := n9_
                have GE406 := n10_
                have NB402_406 := n11_
                have NB406_402 := n12_
                have HB := n13_
                clear n0_ n1_ n2_ n3_ n4_ n5_ n6_ n7_ n8_ n9_ n10_ n11_ n12_ n13_
                have hHeld : w29.cell? ⟨gb402, 0, none⟩ = some (.slice A0_0 l0_0.length c0_0) ∧ w29.cell? ⟨gb402, 1, none⟩ = some (.int .i32 a0_1) ∧ w29.cell? ⟨gb402, 2, none⟩ = some (.int .i64 a0_2) ∧ w29.cell? ⟨gb402, 3, none⟩ = some (.int .u64 a0_3) := hS_
                refine norm_ (a' := ?_) ?_ ?_
                rotate_left
                · simp only [putAll, Act.put, List.setIfInBounds_toArray, List.set_cons_zero, List.set_cons_succ]
                  rfl
                refine one_ (i := 6) (N := none) #[true, true, true, true, true, true, true, false] rfl rfl (one_of HT_.out (by kernel_rfl)) (by decide) (fun K hK => ?_)
                have hs30 : w29.cell? ⟨gb405, 0, none⟩ = some (.int .i32 0) := (blk_cell BK405.out 0).trans rfl
                have hfs30 := blk_frozen BK405.out 0
                have hns30_0 := NB402_405.out
                have hns30_2 := NB406_405.out
                have hms30_0 := NB405_402.out
                have hms30_2 := NB405_406.out
                have hs31 : w29.cell? ⟨gb405, 1, none⟩ = some (.int .i64 0) := (blk_cell BK405.out 1).trans rfl
                have hfs31 := blk_frozen BK405.out 1
                have hns31_0 := NB402_405.out
                have hns31_2 := NB406_405.out
                have hms31_0 := NB405_402.out
                have hms31_2 := NB405_406.out
                have hs32 : w29.cell? ⟨gb405, 2, none⟩ = some (.int .u64 0) := (blk_cell BK405.out 2).trans rfl
                have hfs32 := blk_frozen BK405.out 2
                have hns32_0 := NB402_405.out
                have hns32_2 := NB406_405.out
                have hms32_0 := NB405_402.out
                have hms32_2 := NB405_406.out
                refine skip_ (w1 := ?_) (by rfl) rfl ?_ ?_
                rotate_left
                · go_simp
                  rfl
                refine hK.out _ _ ⟨((cell_far (p := ⟨gb405, _, none⟩) NB402_405.out _).trans (((cell_far (p := ⟨gb405, _, none⟩) NB402_405.out _).trans (((cell_far (p := ⟨gb405, _, none⟩) NB402_405.out _).trans (hHeld.1)))))), ((cell_far (p := ⟨gb405, _, none⟩) NB402_405.out _).trans (((cell_far (p := ⟨gb405, _, none⟩) NB402_405.out _).trans (((cell_far (p := ⟨gb405, _, none⟩) NB402_405.out _).trans (hHeld.2.1)))))), ((cell_far (p := ⟨gb405, _, none⟩) NB402_405.out _).trans (((cell_far (p := ⟨gb405, _, none⟩) NB402_405.out _).trans (((cell_far (p := ⟨gb405, _, none⟩) NB402_405.out _).trans (hHeld.2.2.1)))))), ((cell_far (p := ⟨gb405, _, none⟩) NB402_405.out _).trans (((cell_far (p := ⟨gb405, _, none⟩) NB402_405.out _).trans (((cell_far (p := ⟨gb405, _, none⟩) NB402_405.out _).trans (hHeld.2.2.2))))))⟩ (fun hHeld => ?_)
                clear hK K
                refine one_ (i := 7) (N := none) #[true, true, true, true, true, true, true, true] rfl rfl (one_of HT_.out (by kernel_rfl)) (by decide) (fun K hK => ?_)
                have hs33 : w29.cell? ⟨gb406, 0, none⟩ = some (.int .i32 0) := (blk_cell BK406.out 0).trans rfl
                have hfs33 := blk_frozen BK406.out 0
                have hns33_0 := NB402_406.out
                have hns33_1 := NB405_406.out
                have hms33_0 := NB406_402.out
                have hms33_1 := NB406_405.out
                have hs34 : w29.cell? ⟨gb406, 1, none⟩ = some (.int .i64 0) := (blk_cell BK406.out 1).trans rfl
                have hfs34 := blk_frozen BK406.out 1
                have hns34_0 := NB402_406.out
                have hns34_1 := NB405_406.out
                have hms34_0 := NB406_402.out
                have hms34_1 := NB406_405.out
                have hs35 : w29.cell? ⟨gb406, 2, none⟩ = some (.int .u64 0) := (blk_cell BK406.out 2).trans rfl
                have hfs35 := blk_frozen BK406.out 2
                have hns35_0 := NB402_406.out
                have hns35_1 := NB405_406.out
                have hms35_0 := NB406_402.out
                have hms35_1 := NB406_405.out
                refine skip_ (w1 := ?_) (by rfl) rfl ?_ ?_
                rotate_left
                · go_simp
                  rfl
                refine hK.out _ _ ⟨((cell_far (p := ⟨gb406, _, none⟩) NB402_406.out _).trans (((cell_far (p := ⟨gb406, _, none⟩) NB402_406.out _).trans (((cell_far (p := ⟨gb406, _, none⟩) NB402_406.out _).trans (hHeld.1)))))), ((cell_far (p := ⟨gb406, _, none⟩) NB402_406.out _).trans (((cell_far (p := ⟨gb406, _, none⟩) NB402_406.out _).trans (((cell_far (p := ⟨gb406, _, none⟩) NB402_406.out _).trans (hHeld.2.1)))))), ((cell_far (p := ⟨gb406, _, none⟩) NB402_406.out _).trans (((cell_far (p := ⟨gb406, _, none⟩) NB402_406.out _).trans (((cell_far (p := ⟨gb406, _, none⟩) NB402_406.out _).trans (hHeld.2.2.1)))))), ((cell_far (p := ⟨gb406, _, none⟩) NB402_406.out _).trans (((cell_far (p := ⟨gb406, _, none⟩) NB402_406.out _).trans (((cell_far (p := ⟨gb406, _, none⟩) NB402_406.out _).trans (hHeld.2.2.2))))))⟩ (fun hHeld => ?_)
                clear hK K
                refine done_ (done_of HT_.out (by kernel_rfl)) ?_
                have hnb36 := NB405_402.out
                have hnc36 := NB402_405.out
                have hnb37 := NB405_406.out
                have hnc37 := NB406_405.out
                have hcz38_0 : w29.cell? ⟨gb405, 0, none⟩ = some (.int .i32 0) := (blk_cell BK405.out 0).trans rfl
                have hcz38_1 : w29.cell? ⟨gb405, 1, none⟩ = some (.int .i64 0) := (blk_cell BK405.out 1).trans rfl
                have hcz38_2 : w29.cell? ⟨gb405, 2, none⟩ = some (.int .u64 0) := (blk_cell BK405.out 2).trans rfl
                have hfz38_0 := blk_frozen BK405.out 0
                have hfz38_1 := blk_frozen BK405.out 1
                have hfz38_2 := blk_frozen BK405.out 2
                have hnb39 := NB406_402.out
                have hnc39 := NB402_406.out
                have hcz40_0 : w29.cell? ⟨gb406, 0, none⟩ = some (.int .i32 0) := (blk_cell BK406.out 0).trans rfl
                have hcz40_1 : w29.cell? ⟨gb406, 1, none⟩ = some (.int .i64 0) := (blk_cell BK406.out 1).trans rfl
                have hcz40_2 : w29.cell? ⟨gb406, 2, none⟩ = some (.int .u64 0) := (blk_cell BK406.out 2).trans rfl
                have hfz40_0 := blk_frozen BK406.out 0
                have hfz40_1 := blk_frozen BK406.out 1
                have hfz40_2 := blk_frozen BK406.out 2
                have hcz41_0 : w29.cell? ⟨gb402, 0, none⟩ = some (.slice A0_0 l0_0.length c0_0) := (blk_cell BK402.out 0).trans rfl
                have hcz41_1 : w29.cell? ⟨gb402, 1, none⟩ = some (.int .i32 a0_1) := (blk_cell BK402.out 1).trans rfl
                have hcz41_2 : w29.cell? ⟨gb402, 2, none⟩ = some (.int .i64 a0_2) := (blk_cell BK402.out 2).trans rfl
                have hcz41_3 : w29.cell? ⟨gb402, 3, none⟩ = some (.int .u64 a0_3) := (blk_cell BK402.out 3).trans rfl
                have hfz41_0 := blk_frozen BK402.out 0
                have hfz41_1 := blk_frozen BK402.out 1
                have hfz41_2 := blk_frozen BK402.out 2
                have hfz41_3 := blk_frozen BK402.out 3
                try go_wp2_with (first | ((with_reducible refine gate_callee (f := 9) rfl ?_); refine goesL_ (some 52) rfl rfl Try.func9 (by kernel_rfl) rfl #[.slice A0_0 l0_0.length c0_0, .agg #[.int .i32 0, .int .i64 a0_2, .int .u64 a0_3], .int .i64 a1] rfl (by (try simp only [List.map_toArray, List.map_cons, List.map_nil]); first | done | rfl | (simp only [List.length_drop, List.length_take]; rfl)) ?_; (with_reducible refine (pick_Pick.calls kj2 _ _ l0_0 0 a0_2 a0_3 a1 t407 t408 _ ?side1 ?side2 A18.out).mono ?_); (case side1 => exact Kd.C_below HR0_0.out (by repeat (first | (with_reducible first | exact HB.out | apply below_alloc | apply pw_below_drewN | apply below_drew1 | refine below_set ?_ GE402.out | refine below_set ?_ GE405.out | refine below_set ?_ GE406.out) | exact HB.out))); (case side2 => exact HC0_0.out); rintro e w42 ⟨rfl, hb⟩; refine ⟨_, rfl, ?_⟩; have n0_ := Aside0.mk (blk_below (g := gb402) (o := .cells #[.slice A0_0 l0_0.length c0_0, .int .i32 a0_1, .int .i64 a0_2, .int .u64 a0_3] 27 (0, 0)) (by (with_reducible repeat (first | refine blk_drewN ?_ _ | refine blk_drew ?_ | refine blk_alloc ?_ _)); refine blk_far ?_ NB402_406.out _; (with_reducible repeat (first | refine blk_drewN ?_ _ | refine blk_drew ?_ | refine blk_alloc ?_ _)); refine blk_far ?_ NB402_405.out _; (with_reducible repeat (first | refine blk_drewN ?_ _ | refine blk_drew ?_ | refine blk_alloc ?_ _)); refine blk_far ?_ NB402_406.out _; (with_reducible repeat (first | refine blk_drewN ?_ _ | refine blk_drew ?_ | refine blk_alloc ?_ _)); refine blk_far ?_ NB402_406.out _; (with_reducible repeat (first | refine blk_drewN ?_ _ | refine blk_drew ?_ | refine blk_alloc ?_ _)); refine blk_far ?_ NB402_406.out _; (with_reducible repeat (first | refine blk_drewN ?_ _ | refine blk_drew ?_ | refine blk_alloc ?_ _)); refine blk_far ?_ NB402_405.out _; (with_reducible repeat (first | refine blk_drewN ?_ _ | refine blk_drew ?_ | refine blk_alloc ?_ _)); refine blk_far ?_ NB402_405.out _; (with_reducible repeat (first | refine blk_drewN ?_ _ | refine blk_drew ?_ | refine blk_alloc ?_ _)); refine blk_far ?_ NB402_405.out _; (with_reducible repeat (first | refine blk_drewN ?_ _ | refine blk_drew ?_ | refine blk_alloc ?_ _)); exact BK402.out) hb); have n1_ := Aside0.mk (blk_below (g := gb405) (o := .cells #[.int .i32 0, .int .i64 a0_2, .int .u64 a0_3] 25 (0, 0)) (by (with_reducible repeat (first | refine blk_drewN ?_ _ | refine blk_drew ?_ | refine blk_alloc ?_ _)); refine blk_far ?_ NB405_406.out _; (with_reducible repeat (first | refine blk_drewN ?_ _ | refine blk_drew ?_ | refine blk_alloc ?_ _)); refine blk_put (cs := #[.int .i32 a0_1, .int .i64 a0_2, .int .u64 a0_3]) ?_ 0 _ rfl; (with_reducible repeat (first | refine blk_drewN ?_ _ | refine blk_drew ?_ | refine blk_alloc ?_ _)); refine blk_far ?_ NB405_406.out _; (with_reducible repeat (first | refine blk_drewN ?_ _ | refine blk_drew ?_ | refine blk_alloc ?_ _)); refine blk_far ?_ NB405_406.out _; (with_reducible repeat (first | refine blk_drewN ?_ _ | refine blk_drew ?_ | refine blk_alloc ?_ _)); refine blk_far ?_ NB405_406.out _; (with_reducible repeat (first | refine blk_drewN ?_ _ | refine blk_drew ?_ | refine blk_alloc ?_ _)); refine blk_put (cs := #[.int .i32 a0_1, .int .i64 a0_2, .int .u64 0]) ?_ 2 _ rfl; (with_reducible repeat (first | refine blk_drewN ?_ _ | refine blk_drew ?_ | refine blk_alloc ?_ _)); refine blk_put (cs := #[.int .i32 a0_1, .int .i64 0, .int .u64 0]) ?_ 1 _ rfl; (with_reducible repeat (first | refine blk_drewN ?_ _ | refine blk_drew ?_ | refine blk_alloc ?_ _)); refine blk_put (cs := #[.int .i32 0, .int .i64 0, .int .u64 0]) ?_ 0 _ rfl; (with_reducible repeat (first | refine blk_drewN ?_ _ | refine blk_drew ?_ | refine blk_alloc ?_ _)); exact BK405.out) hb); have n2_ := Aside0.mk (blk_below (g := gb406) (o := .cells #[.int .i32 a0_1, .int .i64 1, .int .u64 a0_3] 25 (0, 0)) (by (with_reducible repeat (first | refine blk_drewN ?_ _ | refine blk_drew ?_ | refine blk_alloc ?_ _)); refine blk_put (cs := #[.int .i32 a0_1, .int .i64 a0_2, .int .u64 a0_3]) ?_ 1 _ rfl; (with_reducible repeat (first | refine blk_drewN ?_ _ | refine blk_drew ?_ | refine blk_alloc ?_ _)); refine blk_far ?_ NB406_405.out _; (with_reducible repeat (first | refine blk_drewN ?_ _ | refine blk_drew ?_ | refine blk_alloc ?_ _)); refine blk_put (cs := #[.int .i32 a0_1, .int .i64 a0_2, .int .u64 0]) ?_ 2 _ rfl; (with_reducible repeat (first | refine blk_drewN ?_ _ | refine blk_drew ?_ | refine blk_alloc ?_ _)); refine blk_put (cs := #[.int .i32 a0_1, .int .i64 0, .int .u64 0]) ?_ 1 _ rfl; (with_reducible repeat (first | refine blk_drewN ?_ _ | refine blk_drew ?_ | refine blk_alloc ?_ _)); refine blk_put (cs := #[.int .i32 0, .int .i64 0, .int .u64 0]) ?_ 0 _ rfl; (with_reducible repeat (first | refine blk_drewN ?_ _ | refine blk_drew ?_ | refine blk_alloc ?_ _)); refine blk_far ?_ NB406_405.out _; (with_reducible repeat (first | refine blk_drewN ?_ _ | refine blk_drew ?_ | refine blk_alloc ?_ _)); refine blk_far ?_ NB406_405.out _; (with_reducible repeat (first | refine blk_drewN ?_ _ | refine blk_drew ?_ | refine blk_alloc ?_ _)); refine blk_far ?_ NB406_405.out _; (with_reducible repeat (first | refine blk_drewN ?_ _ | refine blk_drew ?_ | refine blk_alloc ?_ _)); exact BK406.out) hb); have n3_ := Aside0.mk (below_step (by repeat (first | (with_reducible first | exact HB.out | apply below_alloc | apply pw_below_drewN | apply below_drew1 | refine below_set ?_ GE402.out | refine below_set ?_ GE405.out | refine below_set ?_ GE406.out) | exact HB.out)) hb); clear BK402; clear BK405; clear BK406; clear HB; have BK402 := n0_; have BK405 := n1_; have BK406 := n2_; have HB := n3_; clear n0_ n1_ n2_ n3_; (try clear hb); (try clear hb2); (try clear hk); (try clear hi); have hcz43_0 : w42.cell? ⟨gb402, 0, none⟩ = some (.slice A0_0 l0_0.length c0_0) := (blk_cell BK402.out 0).trans rfl; have hcz43_1 : w42.cell? ⟨gb402, 1, none⟩ = some (.int .i32 a0_1) := (blk_cell BK402.out 1).trans rfl; have hcz43_2 : w42.cell? ⟨gb402, 2, none⟩ = some (.int .i64 a0_2) := (blk_cell BK402.out 2).trans rfl; have hcz43_3 : w42.cell? ⟨gb402, 3, none⟩ = some (.int .u64 a0_3) := (blk_cell BK402.out 3).trans rfl; have hfz43_0 := blk_frozen BK402.out 0; have hfz43_1 := blk_frozen BK402.out 1; have hfz43_2 := blk_frozen BK402.out 2; have hfz43_3 := blk_frozen BK402.out 3; have hcz44_0 : w42.cell? ⟨gb406, 0, none⟩ = some (.int .i32 a0_1) := (blk_cell BK406.out 0).trans rfl; have hcz44_1 : w42.cell? ⟨gb406, 1, none⟩ = some (.int .i64 1) := (blk_cell BK406.out 1).trans rfl; have hcz44_2 : w42.cell? ⟨gb406, 2, none⟩ = some (.int .u64 a0_3) := (blk_cell BK406.out 2).trans rfl; have hfz44_0 := blk_frozen BK406.out 0; have hfz44_1 := blk_frozen BK406.out 1; have hfz44_2 := blk_frozen BK406.out 2) | ((with_reducible refine gate_callee (f := 9) rfl ?_); refine goesL_ (some 60) rfl rfl Try.func9 (by kernel_rfl) rfl #[.slice A0_0 l0_0.length c0_0, .agg #[.int .i32 a0_1, .int .i64 1, .int .u64 a0_3], .int .i64 a1] rfl (by (try simp only [List.map_toArray, List.map_cons, List.map_nil]); first | done | rfl | (simp only [List.length_drop, List.length_take]; rfl)) ?_; (with_reducible refine (pick_Pick.calls kj2 _ _ l0_0 a0_1 1 a0_3 a1 t409 t410 _ ?side1 ?side2 A19.out).mono ?_); (case side1 => repeat (first | exact (Kd.C_below HR0_0.out HB.out) | (with_reducible refine Kd.C_alloc ?_ _) | (with_reducible refine Kd.C_drewN ?_ _) | (with_reducible refine Kd.C_drew ?_))); (case side2 => exact HC0_0.out); rintro e w45 ⟨rfl, hb⟩; refine ⟨_, rfl, ?_⟩; have n0_ := Aside0.mk (blk_below (g := gb402) (o := .cells #[.slice A0_0 l0_0.length c0_0, .int .i32 a0_1, .int .i64 a0_2, .int .u64 a0_3] 27 (0, 0)) (by (with_reducible repeat (first | refine blk_drewN ?_ _ | refine blk_drew ?_ | refine blk_alloc ?_ _)); exact BK402.out) hb); have n1_ := Aside0.mk (blk_below (g := gb405) (o := .cells #[.int .i32 0, .int .i64 a0_2, .int .u64 a0_3] 25 (0, 0)) (by (with_reducible repeat (first | refine blk_drewN ?_ _ | refine blk_drew ?_ | refine blk_alloc ?_ _)); exact BK405.out) hb); have n2_ := Aside0.mk (blk_below (g := gb406) (o := .cells #[.int .i32 a0_1, .int .i64 1, .int .u64 a0_3] 25 (0, 0)) (by (with_reducible repeat (first | refine blk_drewN ?_ _ | refine blk_drew ?_ | refine blk_alloc ?_ _)); exact BK406.out) hb); have n3_ := Aside0.mk (below_step (by repeat (first | (with_reducible first | exact HB.out | apply below_alloc | apply pw_below_drewN | apply below_drew1 | refine below_set ?_ GE402.out | refine below_set ?_ GE405.out | refine below_set ?_ GE406.out) | exact HB.out)) hb); clear BK402; clear BK405; clear BK406; clear HB; have BK402 := n0_; have BK405 := n1_; have BK406 := n2_; have HB := n3_; clear n0_ n1_ n2_ n3_; (try clear hb); (try clear hb2); (try clear hk); (try clear hi); have hcz46_0 : w45.cell? ⟨gb402, 0, none⟩ = some (.slice A0_0 l0_0.length c0_0) := (blk_cell BK402.out 0).trans rfl; have hcz46_1 : w45.cell? ⟨gb402, 1, none⟩ = some (.int .i32 a0_1) := (blk_cell BK402.out 1).trans rfl; have hcz46_2 : w45.cell? ⟨gb402, 2, none⟩ = some (.int .i64 a0_2) := (blk_cell BK402.out 2).trans rfl; have hcz46_3 : w45.cell? ⟨gb402, 3, none⟩ = some (.int .u64 a0_3) := (blk_cell BK402.out 3).trans rfl; have hfz46_0 := blk_frozen BK402.out 0; have hfz46_1 := blk_frozen BK402.out 1; have hfz46_2 := blk_frozen BK402.out 2; have hfz46_3 := blk_frozen BK402.out 3) | ((with_reducible refine gate_callee (f := 17) rfl ?_); refine goesL_ (some 65) rfl rfl Try.func17 (by kernel_rfl) rfl #[.slice A0_0 l0_0.length c0_0] rfl (by (try simp only [List.map_toArray, List.map_cons, List.map_nil]); first | done | rfl | (simp only [List.length_drop, List.length_take]; rfl)) ?_; (with_reducible refine (credenzaref03_Top.calls kj2 _ _ l0_0 t411 _ ?side1 ?side2 A20.out).mono ?_); (case side1 => repeat (first | exact (Kd.C_below HR0_0.out HB.out) | (with_reducible refine Kd.C_alloc ?_ _) | (with_reducible refine Kd.C_drewN ?_ _) | (with_reducible refine Kd.C_drew ?_))); (case side2 => exact HC0_0.out); rintro e w' ⟨rfl, ⟨nd, rfl⟩⟩; refine ⟨_, rfl, ?_⟩) | (go_at_call 8; (with_reducible refine (credenzalaw20_awake.calls kj2  t412 _ A25.out).mono ?_); rintro e w47 ⟨rfl, hb⟩; have n0_ := Aside0.mk (blk_below (g := gb402) (o := .cells #[.slice A0_0 l0_0.length c0_0, .int .i32 a0_1, .int .i64 a0_2, .int .u64 a0_3] 27 (0, 0)) (by (with_reducible repeat (first | refine blk_drewN ?_ _ | refine blk_drew ?_ | refine blk_alloc ?_ _)); exact BK402.out) hb); have n1_ := Aside0.mk (blk_below (g := gb405) (o := .cells #[.int .i32 0, .int .i64 a0_2, .int .u64 a0_3] 25 (0, 0)) (by (with_reducible repeat (first | refine blk_drewN ?_ _ | refine blk_drew ?_ | refine blk_alloc ?_ _)); exact BK405.out) hb); have n2_ := Aside0.mk (blk_below (g := gb406) (o := .cells #[.int .i32 a0_1, .int .i64 1, .int .u64 a0_3] 25 (0, 0)) (by (with_reducible repeat (first | refine blk_drewN ?_ _ | refine blk_drew ?_ | refine blk_alloc ?_ _)); exact BK406.out) hb); have n3_ := Aside0.mk (below_step (by repeat (first | (with_reducible first | exact HB.out | apply below_alloc | apply pw_below_drewN | apply below_drew1 | refine below_set ?_ GE402.out | refine below_set ?_ GE405.out | refine below_set ?_ GE406.out) | exact HB.out)) hb); clear BK402; clear BK405; clear BK406; clear HB; have BK402 := n0_; have BK405 := n1_; have BK406 := n2_; have HB := n3_; clear n0_ n1_ n2_ n3_; (try clear hb); (try clear hb2); (try clear hk); (try clear hi)))
                go_ret
                exact ⟨by first | rfl | (simp [errW_none, errW_some] <;> rfl) | (simp [*, errW_none, errW_some] <;> rfl), by repeat (first | (with_reducible first | exact HB.out | apply below_alloc | apply pw_below_drewN | apply below_drew1 | refine below_set ?_ GE402.out | refine below_set ?_ GE405.out | refine below_set ?_ GE406.out) | exact HB.out)⟩
              · rw [if_neg c24] at H
                have c24b0 : (t409 == t411) = false := beq_eq_false_iff_ne.mpr c24
                have c24b1 : (t409 != t411) = true := bne_iff_ne.mpr c24
                obtain rfl := Option.some.inj H
                try go_wp2
                have n0_ := Aside0.mk (blk_drew BK402.out)
                have n1_ := Aside0.mk (below_drew1 HB.out)
                clear BK402
                clear HB
                have BK402 := n0_
                have HB := n1_
                clear n0_ n1_
                refine start_ (n := 8) (S := fun w' => w'.cell? ⟨gb402, 0, none⟩ = some (.slice A0_0 l0_0.length c0_0) ∧ w'.cell? ⟨gb402, 1, none⟩ = some (.int .i32 a0_1) ∧ w'.cell? ⟨gb402, 2, none⟩ = some (.int .i64 a0_2) ∧ w'.cell? ⟨gb402, 3, none⟩ = some (.int .u64 a0_3)) (ds := []) #[false, false, false, false, false, false, false, false] (by kernel_rfl) rfl rfl ⟨(blk_cell BK402.out 0).trans rfl, (blk_cell BK402.out 1).trans rfl, (blk_cell BK402.out 2).trans rfl, (blk_cell BK402.out 3).trans rfl⟩ (fun hHeld => ?_); refine with_tabW credenzalaw20_PickTops.tab3 credenzalaw20_PickTops.bits3 (fun HT_ HW_ => ?_)
                generalize wc.drew = w48 at BK402 HB hHeld ⊢
                refine pure_ (i := 0) (N := some 41) (v := ?_) (a' := ?_) #[true, false, false, false, false, false, false, false] rfl rfl (any_of HT_.out (by kernel_rfl)) (fun _ _ _ h => h) (Or.inl ⟨by rfl, ?_⟩) ?_ ?_
                rotate_left
                · intro w'
                  go_simp
                  with_reducible rfl
                rotate_left
                · simp only [Act.put, List.setIfInBounds_toArray, List.set_cons_zero, List.set_cons_succ, i64_w, i32_w]
                  rfl
                refine pure_ (i := 2) (N := some 43) (v := ?_) (a' := ?_) #[true, false, true, false, false, false, false, false] rfl rfl (any_of HT_.out (by kernel_rfl)) (fun _ _ _ h => h) (Or.inl ⟨by rfl, ?_⟩) ?_ ?_
                rotate_left
                · intro w'
                  go_simp
                  with_reducible rfl
                rotate_left
                · simp only [Act.put, List.setIfInBounds_toArray, List.set_cons_zero, List.set_cons_succ, i64_w, i32_w]
                  rfl
                refine take_ (i := 1) (N := some 42) (v := ?_) (a' := ?_) #[true, true, true, false, false, false, false, false] rfl rfl (take_ofW HT_.out HW_.out (by kernel_rfl)) (fun _ _ _ h => h) (Or.inl ⟨by rfl, ?_⟩) hHeld ?_ ?_
                rotate_left
                · rintro w' ⟨s0, s1, s2, s3⟩
                  go_simp
                  with_reducible rfl
                rotate_left
                · simp only [Act.put, List.setIfInBounds_toArray, List.set_cons_zero, List.set_cons_succ, i64_w, i32_w]
                  rfl
                refine take_ (i := 3) (N := some 44) (v := ?_) (a' := ?_) #[true, true, true, true, false, false, false, false] rfl rfl (take_ofW HT_.out HW_.out (by kernel_rfl)) (fun _ _ _ h => h) (Or.inl ⟨by rfl, ?_⟩) hHeld ?_ ?_
                rotate_left
                · rintro w' ⟨s0, s1, s2, s3⟩
                  go_simp
                  with_reducible rfl
                rotate_left
                · simp only [Act.put, List.setIfInBounds_toArray, List.set_cons_zero, List.set_cons_succ, i64_w, i32_w]
                  rfl
                refine join_ (σ := Nat × Nat) 2 #[true, true, true, true, true, true, false, false] (fun s_ => [(5, .pointer (some ⟨s_.1, 0, none⟩)), (6, .pointer (some ⟨s_.2, 0, none⟩))]) (fun s_ w' => (w'.cell? ⟨gb402, 0, none⟩ = some (.slice A0_0 l0_0.length c0_0) ∧ w'.cell? ⟨gb402, 1, none⟩ = some (.int .i32 a0_1) ∧ w'.cell? ⟨gb402, 2, none⟩ = some (.int .i64 a0_2) ∧ w'.cell? ⟨gb402, 3, none⟩ = some (.int .u64 a0_3)) ∧ (w'.heap[gb402]? = some (.cells #[.slice A0_0 l0_0.length c0_0, .int .i32 a0_1, .int .i64 a0_2, .int .u64 a0_3] 27 (0, 0))) ∧ (w'.heap[s_.1]? = some (.cells #[.int .i32 0, .int .i64 0, .int .u64 0] 25 (0, 0))) ∧ (w'.heap[s_.2]? = some (.cells #[.int .i32 0, .int .i64 0, .int .u64 0] 25 (0, 0))) ∧ (w.heap.size ≤ s_.1) ∧ (w.heap.size ≤ s_.1) ∧ (gb402 ≠ s_.1) ∧ (s_.1 ≠ gb402) ∧ (s_.2 ≠ s_.1) ∧ (s_.1 ≠ s_.2) ∧ (w.heap.size ≤ s_.2) ∧ (w.heap.size ≤ s_.2) ∧ (gb402 ≠ s_.2) ∧ (s_.2 ≠ gb402) ∧ (Below w.heap.size w w')) ?_ ?_
                rotate_left
                · intro hCont
                  refine two_ (i := 4) (j := 5) (Ni := some 5) (Nj := some 6) #[true, true, true, true, true, false, false, false] #[true, true, true, true, false, true, false, false] rfl rfl rfl rfl (two_of HT_.out (by kernel_rfl)) (by decide) (by decide) (fun K hK => ?_) (fun K hK => ?_)
                  · skip
                    refine box_step ?hg (N := 5) ?hd (cs := #[.int .i32 0, .int .i64 0, .int .u64 0]) (t := 25) ?hr ?_; (case hd => rfl); (case hg => rfl); (case hr => first | (go_simp; done) | (go_simp; rfl))
                    intro gb405 hg w49 hbox hb
                    have n0_ := Aside0.mk (blk_below (g := gb402) (o := .cells #[.slice A0_0 l0_0.length c0_0, .int .i32 a0_1, .int .i64 a0_2, .int .u64 a0_3] 27 (0, 0)) (by (with_reducible repeat (first | refine blk_drewN ?_ _ | refine blk_drew ?_ | refine blk_alloc ?_ _)); exact BK402.out) hb)
                    have n1_ := Aside0.mk (below_step (by repeat (first | (with_reducible first | exact HB.out | apply below_alloc | apply pw_below_drewN | apply below_drew1 | refine below_set ?_ GE402.out) | exact HB.out)) hb)
                    have n2_ := Aside0.mk (hbox)
                    have n3_ := Aside0.mk ((by rw [hg]; exact (below_size (by repeat (first | (with_reducible first | exact HB.out | apply below_alloc | apply pw_below_drewN | apply below_drew1 | refine below_set ?_ GE402.out) | exact HB.out))) : w.heap.size ≤ gb405))
                    have n4_ := Aside0.mk ((by rw [hg]; exact (below_size (by repeat (first | (with_reducible first | exact HB.out | apply below_alloc | apply pw_below_drewN | apply below_drew1 | refine below_set ?_ GE402.out) | exact HB.out))) : w.heap.size ≤ gb405))
                    have n5_ := Aside0.mk ((by rw [hg]; exact Nat.ne_of_lt (blk_lt (g := gb402) (o := .cells #[.slice A0_0 l0_0.length c0_0, .int .i32 a0_1, .int .i64 a0_2, .int .u64 a0_3] 27 (0, 0)) (by (with_reducible repeat (first | refine blk_drewN ?_ _ | refine blk_drew ?_ | refine blk_alloc ?_ _)); exact BK402.out)) : gb402 ≠ gb405))
                    have n6_ := Aside0.mk ((by rw [hg]; exact Nat.ne_of_gt (blk_lt (g := gb402) (o := .cells #[.slice A0_0 l0_0.length c0_0, .int .i32 a0_1, .int .i64 a0_2, .int .u64 a0_3] 27 (0, 0)) (by (with_reducible repeat (first | refine blk_drewN ?_ _ | refine blk_drew ?_ | refine blk_alloc ?_ _)); exact BK402.out)) : gb405 ≠ gb402))
                    clear BK402
                    clear HB
                    have BK402 := n0_
                    have HB := n1_
                    have BK405 := n2_
                    have GW405 := n3_
                    have GE405 := n4_
                    have NB402_405 := n5_
                    have NB405_402 := n6_
                    clear n0_ n1_ n2_ n3_ n4_ n5_ n6_
                    clear hb hbox hg
                    refine hK.out _ _ ⟨(blk_cell BK402.out 0).trans rfl, (blk_cell BK402.out 1).trans rfl, (blk_cell BK402.out 2).trans rfl, (blk_cell BK402.out 3).trans rfl⟩ (fun hHeld => ?_)
                    clear hK K
                    refine norm_ (a' := ?_) ?_ ?_
                    rotate_left
                    · show Act.put _ (some 5) _ = _
                      simp only [Act.put, List.setIfInBounds_toArray, List.set_cons_zero, List.set_cons_succ, i64_w, i32_w]
                      rfl
                    refine one_ (i := 5) (N := some 6) #[true, true, true, true, true, true, false, false] rfl rfl (one_of HT_.out (by kernel_rfl)) (by decide) (fun K hK => ?_)
                    refine box_step ?hg (N := 6) ?hd (cs := #[.int .i32 0, .int .i64 0, .int .u64 0]) (t := 25) ?hr ?_; (case hd => rfl); (case hg => rfl); (case hr => first | (go_simp; done) | (go_simp; rfl))
                    intro gb406 hg w50 hbox hb
                    have n0_ := Aside0.mk (blk_below (g := gb402) (o := .cells #[.slice A0_0 l0_0.length c0_0, .int .i32 a0_1, .int .i64 a0_2, .int .u64 a0_3] 27 (0, 0)) (by (with_reducible repeat (first | refine blk_drewN ?_ _ | refine blk_drew ?_ | refine blk_alloc ?_ _)); exact BK402.out) hb)
                    have n1_ := Aside0.mk (blk_below (g := gb405) (o := .cells #[.int .i32 0, .int .i64 0, .int .u64 0] 25 (0, 0)) (by (with_reducible repeat (first | refine blk_drewN ?_ _ | refine blk_drew ?_ | refine blk_alloc ?_ _)); exact BK405.out) hb)
                    have n2_ := Aside0.mk (below_step (by repeat (first | (with_reducible first | exact HB.out | apply below_alloc | apply pw_below_drewN | apply below_drew1 | refine below_set ?_ GE402.out | refine below_set ?_ GE405.out) | exact HB.out)) hb)
                    have n3_ := Aside0.mk (hbox)
                    have n4_ := Aside0.mk ((by rw [hg]; exact (below_size (by repeat (first | (with_reducible first | exact HB.out | apply below_alloc | apply pw_below_drewN | apply below_drew1 | refine below_set ?_ GE402.out | refine below_set ?_ GE405.out) | exact HB.out))) : w.heap.size ≤ gb406))
                    have n5_ := Aside0.mk ((by rw [hg]; exact (below_size (by repeat (first | (with_reducible first | exact HB.out | apply below_alloc | apply pw_below_drewN | apply below_drew1 | refine below_set ?_ GE402.out | refine below_set ?_ GE405.out) | exact HB.out))) : w.heap.size ≤ gb406))
                    have n6_ := Aside0.mk ((by rw [hg]; exact Nat.ne_of_lt (blk_lt (g := gb402) (o := .cells #[.slice A0_0 l0_0.length c0_0, .int .i32 a0_1, .int .i64 a0_2, .int .u64 a0_3] 27 (0, 0)) (by (with_reducible repeat (first | refine blk_drewN ?_ _ | refine blk_drew ?_ | refine blk_alloc ?_ _)); exact BK402.out)) : gb402 ≠ gb406))
                    have n7_ := Aside0.mk ((by rw [hg]; exact Nat.ne_of_gt (blk_lt (g := gb402) (o := .cells #[.slice A0_0 l0_0.length c0_0, .int .i32 a0_1, .int .i64 a0_2, .int .u64 a0_3] 27 (0, 0)) (by (with_reducible repeat (first | refine blk_drewN ?_ _ | refine blk_drew ?_ | refine blk_alloc ?_ _)); exact BK402.out)) : gb406 ≠ gb402))
                    have n8_ := Aside0.mk ((by rw [hg]; exact Nat.ne_of_lt (blk_lt (g := gb405) (o := .cells #[.int .i32 0, .int .i64 0, .int .u64 0] 25 (0, 0)) (by (with_reducible repeat (first | refine blk_drewN ?_ _ | refine blk_drew ?_ | refine blk_alloc ?_ _)); exact BK405.out)) : gb405 ≠ gb406))
                    have n9_ := Aside0.mk ((by rw [hg]; exact Nat.ne_of_gt (blk_lt (g := gb405) (o := .cells #[.int .i32 0, .int .i64 0, .int .u64 0] 25 (0, 0)) (by (with_reducible repeat (first | refine blk_drewN ?_ _ | refine blk_drew ?_ | refine blk_alloc ?_ _)); exact BK405.out)) : gb406 ≠ gb405))
                    clear BK402
                    clear BK405
                    clear HB
                    have BK402 := n0_
                    have BK405 := n1_
                    have HB := n2_
                    have BK406 := n3_
                    have GW406 := n4_
                    have GE406 := n5_
                    have NB402_406 := n6_
                    have NB406_402 := n7_
                    have NB405_406 := n8_
                    have NB406_405 := n9_
                    clear n0_ n1_ n2_ n3_ n4_ n5_ n6_ n7_ n8_ n9_
                    clear hb hbox hg
                    refine hK.out _ _ ⟨(blk_cell BK402.out 0).trans rfl, (blk_cell BK402.out 1).trans rfl, (blk_cell BK402.out 2).trans rfl, (blk_cell BK402.out 3).trans rfl⟩ (fun hHeld => ?_)
                    clear hK K
                    refine norm_ (a' := ?_) ?_ ?_
                    rotate_left
                    · show Act.put _ (some 6) _ = _
                      simp only [Act.put, List.setIfInBounds_toArray, List.set_cons_zero, List.set_cons_succ, i64_w, i32_w]
                      rfl
                    exact norm_ (by simp only [putAll, Act.put, List.setIfInBounds_toArray, List.set_cons_zero, List.set_cons_succ]) (hCont (gb405, gb406) _ ⟨hHeld, (by (with_reducible repeat (first | refine blk_drewN ?_ _ | refine blk_drew ?_ | refine blk_alloc ?_ _)); exact BK402.out), (by (with_reducible repeat (first | refine blk_drewN ?_ _ | refine blk_drew ?_ | refine blk_alloc ?_ _)); exact BK405.out), (by (with_reducible repeat (first | refine blk_drewN ?_ _ | refine blk_drew ?_ | refine blk_alloc ?_ _)); exact BK406.out), GW405.out, GE405.out, NB402_405.out, NB405_402.out, NB406_405.out, NB405_406.out, GW406.out, GE406.out, NB402_406.out, NB406_402.out, (by repeat (first | (with_reducible first | exact HB.out | apply below_alloc | apply pw_below_drewN | apply below_drew1 | refine below_set ?_ GE402.out | refine below_set ?_ GE405.out | refine below_set ?_ GE406.out) | exact HB.out))⟩)
                  · skip
                    refine box_step ?hg (N := 6) ?hd (cs := #[.int .i32 0, .int .i64 0, .int .u64 0]) (t := 25) ?hr ?_; (case hd => rfl); (case hg => rfl); (case hr => first | (go_simp; done) | (go_simp; rfl))
                    intro gb406 hg w49 hbox hb
                    have n0_ := Aside0.mk (blk_below (g := gb402) (o := .cells #[.slice A0_0 l0_0.length c0_0, .int .i32 a0_1, .int .i64 a0_2, .int .u64 a0_3] 27 (0, 0)) (by (with_reducible repeat (first | refine blk_drewN ?_ _ | refine blk_drew ?_ | refine blk_alloc ?_ _)); exact BK402.out) hb)
                    have n1_ := Aside0.mk (below_step (by repeat (first | (with_reducible first | exact HB.out | apply below_alloc | apply pw_below_drewN | apply below_drew1 | refine below_set ?_ GE402.out) | exact HB.out)) hb)
                    have n2_ := Aside0.mk (hbox)
                    have n3_ := Aside0.mk ((by rw [hg]; exact (below_size (by repeat (first | (with_reducible first | exact HB.out | apply below_alloc | apply pw_below_drewN | apply below_drew1 | refine below_set ?_ GE402.out) | exact HB.out))) : w.heap.size ≤ gb406))
                    have n4_ := Aside0.mk ((by rw [hg]; exact (below_size (by repeat (first | (with_reducible first | exact HB.out | apply below_alloc | apply pw_below_drewN | apply below_drew1 | refine below_set ?_ GE402.out) | exact HB.out))) : w.heap.size ≤ gb406))
                    have n5_ := Aside0.mk ((by rw [hg]; exact Nat.ne_of_lt (blk_lt (g := gb402) (o := .cells #[.slice A0_0 l0_0.length c0_0, .int .i32 a0_1, .int .i64 a0_2, .int .u64 a0_3] 27 (0, 0)) (by (with_reducible repeat (first | refine blk_drewN ?_ _ | refine blk_drew ?_ | refine blk_alloc ?_ _)); exact BK402.out)) : gb402 ≠ gb406))
                    have n6_ := Aside0.mk ((by rw [hg]; exact Nat.ne_of_gt (blk_lt (g := gb402) (o := .cells #[.slice A0_0 l0_0.length c0_0, .int .i32 a0_1, .int .i64 a0_2, .int .u64 a0_3] 27 (0, 0)) (by (with_reducible repeat (first | refine blk_drewN ?_ _ | refine blk_drew ?_ | refine blk_alloc ?_ _)); exact BK402.out)) : gb406 ≠ gb402))
                    clear BK402
                    clear HB
                    have BK402 := n0_
                    have HB := n1_
                    have BK406 := n2_
                    have GW406 := n3_
                    have GE406 := n4_
                    have NB402_406 := n5_
                    have NB406_402 := n6_
                    clear n0_ n1_ n2_ n3_ n4_ n5_ n6_
                    clear hb hbox hg
                    refine hK.out _ _ ⟨(blk_cell BK402.out 0).trans rfl, (blk_cell BK402.out 1).trans rfl, (blk_cell BK402.out 2).trans rfl, (blk_cell BK402.out 3).trans rfl⟩ (fun hHeld => ?_)
                    clear hK K
                    refine norm_ (a' := ?_) ?_ ?_
                    rotate_left
                    · show Act.put _ (some 6) _ = _
                      simp only [Act.put, List.setIfInBounds_toArray, List.set_cons_zero, List.set_cons_succ, i64_w, i32_w]
                      rfl
                    refine one_ (i := 4) (N := some 5) #[true, true, true, true, true, true, false, false] rfl rfl (one_of HT_.out (by kernel_rfl)) (by decide) (fun K hK => ?_)
                    refine box_step ?hg (N := 5) ?hd (cs := #[.int .i32 0, .int .i64 0, .int .u64 0]) (t := 25) ?hr ?_; (case hd => rfl); (case hg => rfl); (case hr => first | (go_simp; done) | (go_simp; rfl))
                    intro gb405 hg w50 hbox hb
                    have n0_ := Aside0.mk (blk_below (g := gb402) (o := .cells #[.slice A0_0 l0_0.length c0_0, .int .i32 a0_1, .int .i64 a0_2, .int .u64 a0_3] 27 (0, 0)) (by (with_reducible repeat (first | refine blk_drewN ?_ _ | refine blk_drew ?_ | refine blk_alloc ?_ _)); exact BK402.out) hb)
                    have n1_ := Aside0.mk (blk_below (g := gb406) (o := .cells #[.int .i32 0, .int .i64 0, .int .u64 0] 25 (0, 0)) (by (with_reducible repeat (first | refine blk_drewN ?_ _ | refine blk_drew ?_ | refine blk_alloc ?_ _)); exact BK406.out) hb)
                    have n2_ := Aside0.mk (below_step (by repeat (first | (with_reducible first | exact HB.out | apply below_alloc | apply pw_below_drewN | apply below_drew1 | refine below_set ?_ GE402.out | refine below_set ?_ GE406.out) | exact HB.out)) hb)
                    have n3_ := Aside0.mk (hbox)
                    have n4_ := Aside0.mk ((by rw [hg]; exact (below_size (by repeat (first | (with_reducible first | exact HB.out | apply below_alloc | apply pw_below_drewN | apply below_drew1 | refine below_set ?_ GE402.out | refine below_set ?_ GE406.out) | exact HB.out))) : w.heap.size ≤ gb405))
                    have n5_ := Aside0.mk ((by rw [hg]; exact (below_size (by repeat (first | (with_reducible first | exact HB.out | apply below_alloc | apply pw_below_drewN | apply below_drew1 | refine below_set ?_ GE402.out | refine below_set ?_ GE406.out) | exact HB.out))) : w.heap.size ≤ gb405))
                    have n6_ := Aside0.mk ((by rw [hg]; exact Nat.ne_of_lt (blk_lt (g := gb402) (o := .cells #[.slice A0_0 l0_0.length c0_0, .int .i32 a0_1, .int .i64 a0_2, .int .u64 a0_3] 27 (0, 0)) (by (with_reducible repeat (first | refine blk_drewN ?_ _ | refine blk_drew ?_ | refine blk_alloc ?_ _)); exact BK402.out)) : gb402 ≠ gb405))
                    have n7_ := Aside0.mk ((by rw [hg]; exact Nat.ne_of_gt (blk_lt (g := gb402) (o := .cells #[.slice A0_0 l0_0.length c0_0, .int .i32 a0_1, .int .i64 a0_2, .int .u64 a0_3] 27 (0, 0)) (by (with_reducible repeat (first | refine blk_drewN ?_ _ | refine blk_drew ?_ | refine blk_alloc ?_ _)); exact BK402.out)) : gb405 ≠ gb402))
                    have n8_ := Aside0.mk ((by rw [hg]; exact Nat.ne_of_lt (blk_lt (g := gb406) (o := .cells #[.int .i32 0, .int .i64 0, .int .u64 0] 25 (0, 0)) (by (with_reducible repeat (first | refine blk_drewN ?_ _ | refine blk_drew ?_ | refine blk_alloc ?_ _)); exact BK406.out)) : gb406 ≠ gb405))
                    have n9_ := Aside0.mk ((by rw [hg]; exact Nat.ne_of_gt (blk_lt (g := gb406) (o := .cells #[.int .i32 0, .int .i64 0, .int .u64 0] 25 (0, 0)) (by (with_reducible repeat (first | refine blk_drewN ?_ _ | refine blk_drew ?_ | refine blk_alloc ?_ _)); exact BK406.out)) : gb405 ≠ gb406))
                    clear BK402
                    clear BK406
                    clear HB
                    have BK402 := n0_
                    have BK406 := n1_
                    have HB := n2_
                    have BK405 := n3_
                    have GW405 := n4_
                    have GE405 := n5_
                    have NB402_405 := n6_
                    have NB405_402 := n7_
                    have NB406_405 := n8_
                    have NB405_406 := n9_
                    clear n0_ n1_ n2_ n3_ n4_ n5_ n6_ n7_ n8_ n9_
                    clear hb hbox hg
                    refine hK.out _ _ ⟨(blk_cell BK402.out 0).trans rfl, (blk_cell BK402.out 1).trans rfl, (blk_cell BK402.out 2).trans rfl, (blk_cell BK402.out 3).trans rfl⟩ (fun hHeld => ?_)
                    clear hK K
                    refine norm_ (a' := ?_) ?_ ?_
                    rotate_left
                    · show Act.put _ (some 5) _ = _
                      simp only [Act.put, List.setIfInBounds_toArray, List.set_cons_zero, List.set_cons_succ, i64_w, i32_w]
                      rfl
                    exact norm_ (by simp only [putAll, Act.put, List.setIfInBounds_toArray, List.set_cons_zero, List.set_cons_succ]) (hCont (gb405, gb406) _ ⟨hHeld, (by (with_reducible repeat (first | refine blk_drewN ?_ _ | refine blk_drew ?_ | refine blk_alloc ?_ _)); exact BK402.out), (by (with_reducible repeat (first | refine blk_drewN ?_ _ | refine blk_drew ?_ | refine blk_alloc ?_ _)); exact BK405.out), (by (with_reducible repeat (first | refine blk_drewN ?_ _ | refine blk_drew ?_ | refine blk_alloc ?_ _)); exact BK406.out), GW405.out, GE405.out, NB402_405.out, NB405_402.out, NB406_405.out, NB405_406.out, GW406.out, GE406.out, NB402_406.out, NB406_402.out, (by repeat (first | (with_reducible first | exact HB.out | apply below_alloc | apply pw_below_drewN | apply below_drew1 | refine below_set ?_ GE402.out | refine below_set ?_ GE406.out | refine below_set ?_ GE405.out) | exact HB.out))⟩)
                rintro ⟨gb405, gb406⟩ w51 ⟨hS_, h0_, h1_, h2_, h3_, h4_, h5_, h6_, h7_, h8_, h9_, h10_, h11_, h12_, h13_⟩
                have n0_ : Aside0 (w51.heap[gb402]? = some (.cells #[.slice A0_0 l0_0.length c0_0, .int .i32 a0_1, .int .i64 a0_2, .int .u64 a0_3] 27 (0, 0))) := ⟨h0_⟩
                have n1_ : Aside0 (w51.heap[gb405]? = some (.cells #[.int .i32 0, .int .i64 0, .int .u64 0] 25 (0, 0))) := ⟨h1_⟩
                have n2_ : Aside0 (w51.heap[gb406]? = some (.cells #[.int .i32 0, .int .i64 0, .int .u64 0] 25 (0, 0))) := ⟨h2_⟩
                have n3_ : Aside0 (w.heap.size ≤ gb405) := ⟨h3_⟩
                have n4_ : Aside0 (w.heap.size ≤ gb405) := ⟨h4_⟩
                have n5_ : Aside0 (gb402 ≠ gb405) := ⟨h5_⟩
                have n6_ : Aside0 (gb405 ≠ gb402) := ⟨h6_⟩
                have n7_ : Aside0 (gb406 ≠ gb405) := ⟨h7_⟩
                have n8_ : Aside0 (gb405 ≠ gb406) := ⟨h8_⟩
                have n9_ : Aside0 (w.heap.size ≤ gb406) := ⟨h9_⟩
                have n10_ : Aside0 (w.heap.size ≤ gb406) := ⟨h10_⟩
                have n11_ : Aside0 (gb402 ≠ gb406) := ⟨h11_⟩
                have n12_ : Aside0 (gb406 ≠ gb402) := ⟨h12_⟩
                have n13_ : Aside0 (Below w.heap.size w w51) := ⟨h13_⟩
                clear BK402
                clear HB
                clear h0_ h1_ h2_ h3_ h4_ h5_ h6_ h7_ h8_ h9_ h10_ h11_ h12_ h13_
                have BK402 := n0_
                have BK405 := n1_
                have BK406 := n2_
                have GW405 := n3_
                have GE405 := n4_
                have NB402_405 := n5_
                have NB405_402 := n6_
                have NB406_405 := n7_
                have NB405_406 := n8_
                have GW406 := n9_
                have GE406 := n10_
                have NB402_406 := n11_
                have NB406_402 := n12_
                have HB := n13_
                clear n0_ n1_ n2_ n3_ n4_ n5_ n6_ n7_ n8_ n9_ n10_ n11_ n12_ n13_
                have hHeld : w51.cell? ⟨gb402, 0, none⟩ = some (.slice A0_0 l0_0.length c0_0) ∧ w51.cell? ⟨gb402, 1, none⟩ = some (.int .i32 a0_1) ∧ w51.cell? ⟨gb402, 2, none⟩ = some (.int .i64 a0_2) ∧ w51.cell? ⟨gb402, 3, none⟩ = some (.int .u64 a0_3) := hS_
                refine norm_ (a' := ?_) ?_ ?_
                rotate_left
                · simp only [putAll, Act.put, List.setIfInBounds_toArray, List.set_cons_zero, List.set_cons_succ]
                  rfl
                refine one_ (i := 6) (N := none) #[true, true, true, true, true, true, true, false] rfl rfl (one_of HT_.out (by kernel_rfl)) (by decide) (fun K hK => ?_)
                have hs52 : w51.cell? ⟨gb405, 0, none⟩ = some (.int .i32 0) := (blk_cell BK405.out 0).trans rfl
                have hfs52 := blk_frozen BK405.out 0
                have hns52_0 := NB402_405.out
                have hns52_2 := NB406_405.out
                have hms52_0 := NB405_402.out
                have hms52_2 := NB405_406.out
                have hs53 : w51.cell? ⟨gb405, 1, none⟩ = some (.int .i64 0) := (blk_cell BK405.out 1).trans rfl
                have hfs53 := blk_frozen BK405.out 1
                have hns53_0 := NB402_405.out
                have hns53_2 := NB406_405.out
                have hms53_0 := NB405_402.out
                have hms53_2 := NB405_406.out
                have hs54 : w51.cell? ⟨gb405, 2, none⟩ = some (.int .u64 0) := (blk_cell BK405.out 2).trans rfl
                have hfs54 := blk_frozen BK405.out 2
                have hns54_0 := NB402_405.out
                have hns54_2 := NB406_405.out
                have hms54_0 := NB405_402.out
                have hms54_2 := NB405_406.out
                refine skip_ (w1 := ?_) (by rfl) rfl ?_ ?_
                rotate_left
                · go_simp
                  rfl
                refine hK.out _ _ ⟨((cell_far (p := ⟨gb405, _, none⟩) NB402_405.out _).trans (((cell_far (p := ⟨gb405, _, none⟩) NB402_405.out _).trans (((cell_far (p := ⟨gb405, _, none⟩) NB402_405.out _).trans (hHeld.1)))))), ((cell_far (p := ⟨gb405, _, none⟩) NB402_405.out _).trans (((cell_far (p := ⟨gb405, _, none⟩) NB402_405.out _).trans (((cell_far (p := ⟨gb405, _, none⟩) NB402_405.out _).trans (hHeld.2.1)))))), ((cell_far (p := ⟨gb405, _, none⟩) NB402_405.out _).trans (((cell_far (p := ⟨gb405, _, none⟩) NB402_405.out _).trans (((cell_far (p := ⟨gb405, _, none⟩) NB402_405.out _).trans (hHeld.2.2.1)))))), ((cell_far (p := ⟨gb405, _, none⟩) NB402_405.out _).trans (((cell_far (p := ⟨gb405, _, none⟩) NB402_405.out _).trans (((cell_far (p := ⟨gb405, _, none⟩) NB402_405.out _).trans (hHeld.2.2.2))))))⟩ (fun hHeld => ?_)
                clear hK K
                refine one_ (i := 7) (N := none) #[true, true, true, true, true, true, true, true] rfl rfl (one_of HT_.out (by kernel_rfl)) (by decide) (fun K hK => ?_)
                have hs55 : w51.cell? ⟨gb406, 0, none⟩ = some (.int .i32 0) := (blk_cell BK406.out 0).trans rfl
                have hfs55 := blk_frozen BK406.out 0
                have hns55_0 := NB402_406.out
                have hns55_1 := NB405_406.out
                have hms55_0 := NB406_402.out
                have hms55_1 := NB406_405.out
                have hs56 : w51.cell? ⟨gb406, 1, none⟩ = some (.int .i64 0) := (blk_cell BK406.out 1).trans rfl
                have hfs56 := blk_frozen BK406.out 1
                have hns56_0 := NB402_406.out
                have hns56_1 := NB405_406.out
                have hms56_0 := NB406_402.out
                have hms56_1 := NB406_405.out
                have hs57 : w51.cell? ⟨gb406, 2, none⟩ = some (.int .u64 0) := (blk_cell BK406.out 2).trans rfl
                have hfs57 := blk_frozen BK406.out 2
                have hns57_0 := NB402_406.out
                have hns57_1 := NB405_406.out
                have hms57_0 := NB406_402.out
                have hms57_1 := NB406_405.out
                refine skip_ (w1 := ?_) (by rfl) rfl ?_ ?_
                rotate_left
                · go_simp
                  rfl
                refine hK.out _ _ ⟨((cell_far (p := ⟨gb406, _, none⟩) NB402_406.out _).trans (((cell_far (p := ⟨gb406, _, none⟩) NB402_406.out _).trans (((cell_far (p := ⟨gb406, _, none⟩) NB402_406.out _).trans (hHeld.1)))))), ((cell_far (p := ⟨gb406, _, none⟩) NB402_406.out _).trans (((cell_far (p := ⟨gb406, _, none⟩) NB402_406.out _).trans (((cell_far (p := ⟨gb406, _, none⟩) NB402_406.out _).trans (hHeld.2.1)))))), ((cell_far (p := ⟨gb406, _, none⟩) NB402_406.out _).trans (((cell_far (p := ⟨gb406, _, none⟩) NB402_406.out _).trans (((cell_far (p := ⟨gb406, _, none⟩) NB402_406.out _).trans (hHeld.2.2.1)))))), ((cell_far (p := ⟨gb406, _, none⟩) NB402_406.out _).trans (((cell_far (p := ⟨gb406, _, none⟩) NB402_406.out _).trans (((cell_far (p := ⟨gb406, _, none⟩) NB402_406.out _).trans (hHeld.2.2.2))))))⟩ (fun hHeld => ?_)
                clear hK K
                refine done_ (done_of HT_.out (by kernel_rfl)) ?_
                have hnb58 := NB405_402.out
                have hnc58 := NB402_405.out
                have hnb59 := NB405_406.out
                have hnc59 := NB406_405.out
                have hcz60_0 : w51.cell? ⟨gb405, 0, none⟩ = some (.int .i32 0) := (blk_cell BK405.out 0).trans rfl
                have hcz60_1 : w51.cell? ⟨gb405, 1, none⟩ = some (.int .i64 0) := (blk_cell BK405.out 1).trans rfl
                have hcz60_2 : w51.cell? ⟨gb405, 2, none⟩ = some (.int .u64 0) := (blk_cell BK405.out 2).trans rfl
                have hfz60_0 := blk_frozen BK405.out 0
                have hfz60_1 := blk_frozen BK405.out 1
                have hfz60_2 := blk_frozen BK405.out 2
                have hnb61 := NB406_402.out
                have hnc61 := NB402_406.out
                have hcz62_0 : w51.cell? ⟨gb406, 0, none⟩ = some (.int .i32 0) := (blk_cell BK406.out 0).trans rfl
                have hcz62_1 : w51.cell? ⟨gb406, 1, none⟩ = some (.int .i64 0) := (blk_cell BK406.out 1).trans rfl
                have hcz62_2 : w51.cell? ⟨gb406, 2, none⟩ = some (.int .u64 0) := (blk_cell BK406.out 2).trans rfl
                have hfz62_0 := blk_frozen BK406.out 0
                have hfz62_1 := blk_frozen BK406.out 1
                have hfz62_2 := blk_frozen BK406.out 2
                have hcz63_0 : w51.cell? ⟨gb402, 0, none⟩ = some (.slice A0_0 l0_0.length c0_0) := (blk_cell BK402.out 0).trans rfl
                have hcz63_1 : w51.cell? ⟨gb402, 1, none⟩ = some (.int .i32 a0_1) := (blk_cell BK402.out 1).trans rfl
                have hcz63_2 : w51.cell? ⟨gb402, 2, none⟩ = some (.int .i64 a0_2) := (blk_cell BK402.out 2).trans rfl
                have hcz63_3 : w51.cell? ⟨gb402, 3, none⟩ = some (.int .u64 a0_3) := (blk_cell BK402.out 3).trans rfl
                have hfz63_0 := blk_frozen BK402.out 0
                have hfz63_1 := blk_frozen BK402.out 1
                have hfz63_2 := blk_frozen BK402.out 2
                have hfz63_3 := blk_frozen BK402.out 3
                try go_wp2_with (first | ((with_reducible refine gate_callee (f := 9) rfl ?_); refine goesL_ (some 52) rfl rfl Try.func9 (by kernel_rfl) rfl #[.slice A0_0 l0_0.length c0_0, .agg #[.int .i32 0, .int .i64 a0_2, .int .u64 a0_3], .int .i64 a1] rfl (by (try simp only [List.map_toArray, List.map_cons, List.map_nil]); first | done | rfl | (simp only [List.length_drop, List.length_take]; rfl)) ?_; (with_reducible refine (pick_Pick.calls kj2 _ _ l0_0 0 a0_2 a0_3 a1 t407 t408 _ ?side1 ?side2 A18.out).mono ?_); (case side1 => exact Kd.C_below HR0_0.out (by repeat (first | (with_reducible first | exact HB.out | apply below_alloc | apply pw_below_drewN | apply below_drew1 | refine below_set ?_ GE402.out | refine below_set ?_ GE405.out | refine below_set ?_ GE406.out) | exact HB.out))); (case side2 => exact HC0_0.out); rintro e w64 ⟨rfl, hb⟩; refine ⟨_, rfl, ?_⟩; have n0_ := Aside0.mk (blk_below (g := gb402) (o := .cells #[.slice A0_0 l0_0.length c0_0, .int .i32 a0_1, .int .i64 a0_2, .int .u64 a0_3] 27 (0, 0)) (by (with_reducible repeat (first | refine blk_drewN ?_ _ | refine blk_drew ?_ | refine blk_alloc ?_ _)); refine blk_far ?_ NB402_406.out _; (with_reducible repeat (first | refine blk_drewN ?_ _ | refine blk_drew ?_ | refine blk_alloc ?_ _)); refine blk_far ?_ NB402_405.out _; (with_reducible repeat (first | refine blk_drewN ?_ _ | refine blk_drew ?_ | refine blk_alloc ?_ _)); refine blk_far ?_ NB402_406.out _; (with_reducible repeat (first | refine blk_drewN ?_ _ | refine blk_drew ?_ | refine blk_alloc ?_ _)); refine blk_far ?_ NB402_406.out _; (with_reducible repeat (first | refine blk_drewN ?_ _ | refine blk_drew ?_ | refine blk_alloc ?_ _)); refine blk_far ?_ NB402_406.out _; (with_reducible repeat (first | refine blk_drewN ?_ _ | refine blk_drew ?_ | refine blk_alloc ?_ _)); refine blk_far ?_ NB402_405.out _; (with_reducible repeat (first | refine blk_drewN ?_ _ | refine blk_drew ?_ | refine blk_alloc ?_ _)); refine blk_far ?_ NB402_405.out _; (with_reducible repeat (first | refine blk_drewN ?_ _ | refine blk_drew ?_ | refine blk_alloc ?_ _)); refine blk_far ?_ NB402_405.out _; (with_reducible repeat (first | refine blk_drewN ?_ _ | refine blk_drew ?_ | refine blk_alloc ?_ _)); exact BK402.out) hb); have n1_ := Aside0.mk (blk_below (g := gb405) (o := .cells #[.int .i32 0, .int .i64 a0_2, .int .u64 a0_3] 25 (0, 0)) (by (with_reducible repeat (first | refine blk_drewN ?_ _ | refine blk_drew ?_ | refine blk_alloc ?_ _)); refine blk_far ?_ NB405_406.out _; (with_reducible repeat (first | refine blk_drewN ?_ _ | refine blk_drew ?_ | refine blk_alloc ?_ _)); refine blk_put (cs := #[.int .i32 a0_1, .int .i64 a0_2, .int .u64 a0_3]) ?_ 0 _ rfl; (with_reducible repeat (first | refine blk_drewN ?_ _ | refine blk_drew ?_ | refine blk_alloc ?_ _)); refine blk_far ?_ NB405_406.out _; (with_reducible repeat (first | refine blk_drewN ?_ _ | refine blk_drew ?_ | refine blk_alloc ?_ _)); refine blk_far ?_ NB405_406.out _; (with_reducible repeat (first | refine blk_drewN ?_ _ | refine blk_drew ?_ | refine blk_alloc ?_ _)); refine blk_far ?_ NB405_406.out _; (with_reducible repeat (first | refine blk_drewN ?_ _ | refine blk_drew ?_ | refine blk_alloc ?_ _)); refine blk_put (cs := #[.int .i32 a0_1, .int .i64 a0_2, .int .u64 0]) ?_ 2 _ rfl; (with_reducible repeat (first | refine blk_drewN ?_ _ | refine blk_drew ?_ | refine blk_alloc ?_ _)); refine blk_put (cs := #[.int .i32 a0_1, .int .i64 0, .int .u64 0]) ?_ 1 _ rfl; (with_reducible repeat (first | refine blk_drewN ?_ _ | refine blk_drew ?_ | refine blk_alloc ?_ _)); refine blk_put (cs := #[.int .i32 0, .int .i64 0, .int .u64 0]) ?_ 0 _ rfl; (with_reducible repeat (first | refine blk_drewN ?_ _ | refine blk_drew ?_ | refine blk_alloc ?_ _)); exact BK405.out) hb); have n2_ := Aside0.mk (blk_below (g := gb406) (o := .cells #[.int .i32 a0_1, .int .i64 1, .int .u64 a0_3] 25 (0, 0)) (by (with_reducible repeat (first | refine blk_drewN ?_ _ | refine blk_drew ?_ | refine blk_alloc ?_ _)); refine blk_put (cs := #[.int .i32 a0_1, .int .i64 a0_2, .int .u64 a0_3]) ?_ 1 _ rfl; (with_reducible repeat (first | refine blk_drewN ?_ _ | refine blk_drew ?_ | refine blk_alloc ?_ _)); refine blk_far ?_ NB406_405.out _; (with_reducible repeat (first | refine blk_drewN ?_ _ | refine blk_drew ?_ | refine blk_alloc ?_ _)); refine blk_put (cs := #[.int .i32 a0_1, .int .i64 a0_2, .int .u64 0]) ?_ 2 _ rfl; (with_reducible repeat (first | refine blk_drewN ?_ _ | refine blk_drew ?_ | refine blk_alloc ?_ _)); refine blk_put (cs := #[.int .i32 a0_1, .int .i64 0, .int .u64 0]) ?_ 1 _ rfl; (with_reducible repeat (first | refine blk_drewN ?_ _ | refine blk_drew ?_ | refine blk_alloc ?_ _)); refine blk_put (cs := #[.int .i32 0, .int .i64 0, .int .u64 0]) ?_ 0 _ rfl; (with_reducible repeat (first | refine blk_drewN ?_ _ | refine blk_drew ?_ | refine blk_alloc ?_ _)); refine blk_far ?_ NB406_405.out _; (with_reducible repeat (first | refine blk_drewN ?_ _ | refine blk_drew ?_ | refine blk_alloc ?_ _)); refine blk_far ?_ NB406_405.out _; (with_reducible repeat (first | refine blk_drewN ?_ _ | refine blk_drew ?_ | refine blk_alloc ?_ _)); refine blk_far ?_ NB406_405.out _; (with_reducible repeat (first | refine blk_drewN ?_ _ | refine blk_drew ?_ | refine blk_alloc ?_ _)); exact BK406.out) hb); have n3_ := Aside0.mk (below_step (by repeat (first | (with_reducible first | exact HB.out | apply below_alloc | apply pw_below_drewN | apply below_drew1 | refine below_set ?_ GE402.out | refine below_set ?_ GE405.out | refine below_set ?_ GE406.out) | exact HB.out)) hb); clear BK402; clear BK405; clear BK406; clear HB; have BK402 := n0_; have BK405 := n1_; have BK406 := n2_; have HB := n3_; clear n0_ n1_ n2_ n3_; (try clear hb); (try clear hb2); (try clear hk); (try clear hi); have hcz65_0 : w64.cell? ⟨gb402, 0, none⟩ = some (.slice A0_0 l0_0.length c0_0) := (blk_cell BK402.out 0).trans rfl; have hcz65_1 : w64.cell? ⟨gb402, 1, none⟩ = some (.int .i32 a0_1) := (blk_cell BK402.out 1).trans rfl; have hcz65_2 : w64.cell? ⟨gb402, 2, none⟩ = some (.int .i64 a0_2) := (blk_cell BK402.out 2).trans rfl; have hcz65_3 : w64.cell? ⟨gb402, 3, none⟩ = some (.int .u64 a0_3) := (blk_cell BK402.out 3).trans rfl; have hfz65_0 := blk_frozen BK402.out 0; have hfz65_1 := blk_frozen BK402.out 1; have hfz65_2 := blk_frozen BK402.out 2; have hfz65_3 := blk_frozen BK402.out 3; have hcz66_0 : w64.cell? ⟨gb406, 0, none⟩ = some (.int .i32 a0_1) := (blk_cell BK406.out 0).trans rfl; have hcz66_1 : w64.cell? ⟨gb406, 1, none⟩ = some (.int .i64 1) := (blk_cell BK406.out 1).trans rfl; have hcz66_2 : w64.cell? ⟨gb406, 2, none⟩ = some (.int .u64 a0_3) := (blk_cell BK406.out 2).trans rfl; have hfz66_0 := blk_frozen BK406.out 0; have hfz66_1 := blk_frozen BK406.out 1; have hfz66_2 := blk_frozen BK406.out 2) | ((with_reducible refine gate_callee (f := 9) rfl ?_); refine goesL_ (some 60) rfl rfl Try.func9 (by kernel_rfl) rfl #[.slice A0_0 l0_0.length c0_0, .agg #[.int .i32 a0_1, .int .i64 1, .int .u64 a0_3], .int .i64 a1] rfl (by (try simp only [List.map_toArray, List.map_cons, List.map_nil]); first | done | rfl | (simp only [List.length_drop, List.length_take]; rfl)) ?_; (with_reducible refine (pick_Pick.calls kj2 _ _ l0_0 a0_1 1 a0_3 a1 t409 t410 _ ?side1 ?side2 A19.out).mono ?_); (case side1 => repeat (first | exact (Kd.C_below HR0_0.out HB.out) | (with_reducible refine Kd.C_alloc ?_ _) | (with_reducible refine Kd.C_drewN ?_ _) | (with_reducible refine Kd.C_drew ?_))); (case side2 => exact HC0_0.out); rintro e w67 ⟨rfl, hb⟩; refine ⟨_, rfl, ?_⟩; have n0_ := Aside0.mk (blk_below (g := gb402) (o := .cells #[.slice A0_0 l0_0.length c0_0, .int .i32 a0_1, .int .i64 a0_2, .int .u64 a0_3] 27 (0, 0)) (by (with_reducible repeat (first | refine blk_drewN ?_ _ | refine blk_drew ?_ | refine blk_alloc ?_ _)); exact BK402.out) hb); have n1_ := Aside0.mk (blk_below (g := gb405) (o := .cells #[.int .i32 0, .int .i64 a0_2, .int .u64 a0_3] 25 (0, 0)) (by (with_reducible repeat (first | refine blk_drewN ?_ _ | refine blk_drew ?_ | refine blk_alloc ?_ _)); exact BK405.out) hb); have n2_ := Aside0.mk (blk_below (g := gb406) (o := .cells #[.int .i32 a0_1, .int .i64 1, .int .u64 a0_3] 25 (0, 0)) (by (with_reducible repeat (first | refine blk_drewN ?_ _ | refine blk_drew ?_ | refine blk_alloc ?_ _)); exact BK406.out) hb); have n3_ := Aside0.mk (below_step (by repeat (first | (with_reducible first | exact HB.out | apply below_alloc | apply pw_below_drewN | apply below_drew1 | refine below_set ?_ GE402.out | refine below_set ?_ GE405.out | refine below_set ?_ GE406.out) | exact HB.out)) hb); clear BK402; clear BK405; clear BK406; clear HB; have BK402 := n0_; have BK405 := n1_; have BK406 := n2_; have HB := n3_; clear n0_ n1_ n2_ n3_; (try clear hb); (try clear hb2); (try clear hk); (try clear hi); have hcz68_0 : w67.cell? ⟨gb402, 0, none⟩ = some (.slice A0_0 l0_0.length c0_0) := (blk_cell BK402.out 0).trans rfl; have hcz68_1 : w67.cell? ⟨gb402, 1, none⟩ = some (.int .i32 a0_1) := (blk_cell BK402.out 1).trans rfl; have hcz68_2 : w67.cell? ⟨gb402, 2, none⟩ = some (.int .i64 a0_2) := (blk_cell BK402.out 2).trans rfl; have hcz68_3 : w67.cell? ⟨gb402, 3, none⟩ = some (.int .u64 a0_3) := (blk_cell BK402.out 3).trans rfl; have hfz68_0 := blk_frozen BK402.out 0; have hfz68_1 := blk_frozen BK402.out 1; have hfz68_2 := blk_frozen BK402.out 2; have hfz68_3 := blk_frozen BK402.out 3) | ((with_reducible refine gate_callee (f := 17) rfl ?_); refine goesL_ (some 65) rfl rfl Try.func17 (by kernel_rfl) rfl #[.slice A0_0 l0_0.length c0_0] rfl (by (try simp only [List.map_toArray, List.map_cons, List.map_nil]); first | done | rfl | (simp only [List.length_drop, List.length_take]; rfl)) ?_; (with_reducible refine (credenzaref03_Top.calls kj2 _ _ l0_0 t411 _ ?side1 ?side2 A20.out).mono ?_); (case side1 => repeat (first | exact (Kd.C_below HR0_0.out HB.out) | (with_reducible refine Kd.C_alloc ?_ _) | (with_reducible refine Kd.C_drewN ?_ _) | (with_reducible refine Kd.C_drew ?_))); (case side2 => exact HC0_0.out); rintro e w' ⟨rfl, ⟨nd, rfl⟩⟩; refine ⟨_, rfl, ?_⟩))
                go_ret
                exact ⟨by first | rfl | (simp [errW_none, errW_some] <;> rfl) | (simp [*, errW_none, errW_some] <;> rfl), by repeat (first | (with_reducible first | exact HB.out | apply below_alloc | apply pw_below_drewN | apply below_drew1 | refine below_set ?_ GE402.out | refine below_set ?_ GE405.out | refine below_set ?_ GE406.out) | exact HB.out)⟩
            · rw [if_neg c23] at H
              have c23b0 : (t407 == t411) = false := beq_eq_false_iff_ne.mpr c23
              have c23b1 : (t407 != t411) = true := bne_iff_ne.mpr c23
              obtain rfl := Option.some.inj H
              try go_wp2
              have n0_ := Aside0.mk (blk_drew BK402.out)
              have n1_ := Aside0.mk (below_drew1 HB.out)
              clear BK402
              clear HB
              have BK402 := n0_
              have HB := n1_
              clear n0_ n1_
              refine start_ (n := 8) (S := fun w' => w'.cell? ⟨gb402, 0, none⟩ = some (.slice A0_0 l0_0.length c0_0) ∧ w'.cell? ⟨gb402, 1, none⟩ = some (.int .i32 a0_1) ∧ w'.cell? ⟨gb402, 2, none⟩ = some (.int .i64 a0_2) ∧ w'.cell? ⟨gb402, 3, none⟩ = some (.int .u64 a0_3)) (ds := []) #[false, false, false, false, false, false, false, false] (by kernel_rfl) rfl rfl ⟨(blk_cell BK402.out 0).trans rfl, (blk_cell BK402.out 1).trans rfl, (blk_cell BK402.out 2).trans rfl, (blk_cell BK402.out 3).trans rfl⟩ (fun hHeld => ?_); refine with_tabW credenzalaw20_PickTops.tab3 credenzalaw20_PickTops.bits3 (fun HT_ HW_ => ?_)
              generalize wc.drew = w69 at BK402 HB hHeld ⊢
              refine pure_ (i := 0) (N := some 41) (v := ?_) (a' := ?_) #[true, false, false, false, false, false, false, false] rfl rfl (any_of HT_.out (by kernel_rfl)) (fun _ _ _ h => h) (Or.inl ⟨by rfl, ?_⟩) ?_ ?_
              rotate_left
              · intro w'
                go_simp
                with_reducible rfl
              rotate_left
              · simp only [Act.put, List.setIfInBounds_toArray, List.set_cons_zero, List.set_cons_succ, i64_w, i32_w]
                rfl
              refine pure_ (i := 2) (N := some 43) (v := ?_) (a' := ?_) #[true, false, true, false, false, false, false, false] rfl rfl (any_of HT_.out (by kernel_rfl)) (fun _ _ _ h => h) (Or.inl ⟨by rfl, ?_⟩) ?_ ?_
              rotate_left
              · intro w'
                go_simp
                with_reducible rfl
              rotate_left
              · simp only [Act.put, List.setIfInBounds_toArray, List.set_cons_zero, List.set_cons_succ, i64_w, i32_w]
                rfl
              refine take_ (i := 1) (N := some 42) (v := ?_) (a' := ?_) #[true, true, true, false, false, false, false, false] rfl rfl (take_ofW HT_.out HW_.out (by kernel_rfl)) (fun _ _ _ h => h) (Or.inl ⟨by rfl, ?_⟩) hHeld ?_ ?_
              rotate_left
              · rintro w' ⟨s0, s1, s2, s3⟩
                go_simp
                with_reducible rfl
              rotate_left
              · simp only [Act.put, List.setIfInBounds_toArray, List.set_cons_zero, List.set_cons_succ, i64_w, i32_w]
                rfl
              refine take_ (i := 3) (N := some 44) (v := ?_) (a' := ?_) #[true, true, true, true, false, false, false, false] rfl rfl (take_ofW HT_.out HW_.out (by kernel_rfl)) (fun _ _ _ h => h) (Or.inl ⟨by rfl, ?_⟩) hHeld ?_ ?_
              rotate_left
              · rintro w' ⟨s0, s1, s2, s3⟩
                go_simp
                with_reducible rfl
              rotate_left
              · simp only [Act.put, List.setIfInBounds_toArray, List.set_cons_zero, List.set_cons_succ, i64_w, i32_w]
                rfl
              refine join_ (σ := Nat × Nat) 2 #[true, true, true, true, true, true, false, false] (fun s_ => [(5, .pointer (some ⟨s_.1, 0, none⟩)), (6, .pointer (some ⟨s_.2, 0, none⟩))]) (fun s_ w' => (w'.cell? ⟨gb402, 0, none⟩ = some (.slice A0_0 l0_0.length c0_0) ∧ w'.cell? ⟨gb402, 1, none⟩ = some (.int .i32 a0_1) ∧ w'.cell? ⟨gb402, 2, none⟩ = some (.int .i64 a0_2) ∧ w'.cell? ⟨gb402, 3, none⟩ = some (.int .u64 a0_3)) ∧ (w'.heap[gb402]? = some (.cells #[.slice A0_0 l0_0.length c0_0, .int .i32 a0_1, .int .i64 a0_2, .int .u64 a0_3] 27 (0, 0))) ∧ (w'.heap[s_.1]? = some (.cells #[.int .i32 0, .int .i64 0, .int .u64 0] 25 (0, 0))) ∧ (w'.heap[s_.2]? = some (.cells #[.int .i32 0, .int .i64 0, .int .u64 0] 25 (0, 0))) ∧ (w.heap.size ≤ s_.1) ∧ (w.heap.size ≤ s_.1) ∧ (gb402 ≠ s_.1) ∧ (s_.1 ≠ gb402) ∧ (s_.2 ≠ s_.1) ∧ (s_.1 ≠ s_.2) ∧ (w.heap.size ≤ s_.2) ∧ (w.heap.size ≤ s_.2) ∧ (gb402 ≠ s_.2) ∧ (s_.2 ≠ gb402) ∧ (Below w.heap.size w w')) ?_ ?_
              rotate_left
              · intro hCont
                refine two_ (i := 4) (j := 5) (Ni := some 5) (Nj := some 6) #[true, true, true, true, true, false, false, false] #[true, true, true, true, false, true, false, false] rfl rfl rfl rfl (two_of HT_.out (by kernel_rfl)) (by decide) (by decide) (fun K hK => ?_) (fun K hK => ?_)
                · skip
                  refine box_step ?hg (N := 5) ?hd (cs := #[.int .i32 0, .int .i64 0, .int .u64 0]) (t := 25) ?hr ?_; (case hd => rfl); (case hg => rfl); (case hr => first | (go_simp; done) | (go_simp; rfl))
                  intro gb405 hg w70 hbox hb
                  have n0_ := Aside0.mk (blk_below (g := gb402) (o := .cells #[.slice A0_0 l0_0.length c0_0, .int .i32 a0_1, .int .i64 a0_2, .int .u64 a0_3] 27 (0, 0)) (by (with_reducible repeat (first | refine blk_drewN ?_ _ | refine blk_drew ?_ | refine blk_alloc ?_ _)); exact BK402.out) hb)
                  have n1_ := Aside0.mk (below_step (by repeat (first | (with_reducible first | exact HB.out | apply below_alloc | apply pw_below_drewN | apply below_drew1 | refine below_set ?_ GE402.out) | exact HB.out)) hb)
                  have n2_ := Aside0.mk (hbox)
                  have n3_ := Aside0.mk ((by rw [hg]; exact (below_size (by repeat (first | (with_reducible first | exact HB.out | apply below_alloc | apply pw_below_drewN | apply below_drew1 | refine below_set ?_ GE402.out) | exact HB.out))) : w.heap.size ≤ gb405))
                  have n4_ := Aside0.mk ((by rw [hg]; exact (below_size (by repeat (first | (with_reducible first | exact HB.out | apply below_alloc | apply pw_below_drewN | apply below_drew1 | refine below_set ?_ GE402.out) | exact HB.out))) : w.heap.size ≤ gb405))
                  have n5_ := Aside0.mk ((by rw [hg]; exact Nat.ne_of_lt (blk_lt (g := gb402) (o := .cells #[.slice A0_0 l0_0.length c0_0, .int .i32 a0_1, .int .i64 a0_2, .int .u64 a0_3] 27 (0, 0)) (by (with_reducible repeat (first | refine blk_drewN ?_ _ | refine blk_drew ?_ | refine blk_alloc ?_ _)); exact BK402.out)) : gb402 ≠ gb405))
                  have n6_ := Aside0.mk ((by rw [hg]; exact Nat.ne_of_gt (blk_lt (g := gb402) (o := .cells #[.slice A0_0 l0_0.length c0_0, .int .i32 a0_1, .int .i64 a0_2, .int .u64 a0_3] 27 (0, 0)) (by (with_reducible repeat (first | refine blk_drewN ?_ _ | refine blk_drew ?_ | refine blk_alloc ?_ _)); exact BK402.out)) : gb405 ≠ gb402))
                  clear BK402
                  clear HB
                  have BK402 := n0_
                  have HB := n1_
                  have BK405 := n2_
                  have GW405 := n3_
                  have GE405 := n4_
                  have NB402_405 := n5_
                  have NB405_402 := n6_
                  clear n0_ n1_ n2_ n3_ n4_ n5_ n6_
                  clear hb hbox hg
                  refine hK.out _ _ ⟨(blk_cell BK402.out 0).trans rfl, (blk_cell BK402.out 1).trans rfl, (blk_cell BK402.out 2).trans rfl, (blk_cell BK402.out 3).trans rfl⟩ (fun hHeld => ?_)
                  clear hK K
                  refine norm_ (a' := ?_) ?_ ?_
                  rotate_left
                  · show Act.put _ (some 5) _ = _
                    simp only [Act.put, List.setIfInBounds_toArray, List.set_cons_zero, List.set_cons_succ, i64_w, i32_w]
                    rfl
                  refine one_ (i := 5) (N := some 6) #[true, true, true, true, true, true, false, false] rfl rfl (one_of HT_.out (by kernel_rfl)) (by decide) (fun K hK => ?_)
                  refine box_step ?hg (N := 6) ?hd (cs := #[.int .i32 0, .int .i64 0, .int .u64 0]) (t := 25) ?hr ?_; (case hd => rfl); (case hg => rfl); (case hr => first | (go_simp; done) | (go_simp; rfl))
                  intro gb406 hg w71 hbox hb
                  have n0_ := Aside0.mk (blk_below (g := gb402) (o := .cells #[.slice A0_0 l0_0.length c0_0, .int .i32 a0_1, .int .i64 a0_2, .int .u64 a0_3] 27 (0, 0)) (by (with_reducible repeat (first | refine blk_drewN ?_ _ | refine blk_drew ?_ | refine blk_alloc ?_ _)); exact BK402.out) hb)
                  have n1_ := Aside0.mk (blk_below (g := gb405) (o := .cells #[.int .i32 0, .int .i64 0, .int .u64 0] 25 (0, 0)) (by (with_reducible repeat (first | refine blk_drewN ?_ _ | refine blk_drew ?_ | refine blk_alloc ?_ _)); exact BK405.out) hb)
                  have n2_ := Aside0.mk (below_step (by repeat (first | (with_reducible first | exact HB.out | apply below_alloc | apply pw_below_drewN | apply below_drew1 | refine below_set ?_ GE402.out | refine below_set ?_ GE405.out) | exact HB.out)) hb)
                  have n3_ := Aside0.mk (hbox)
                  have n4_ := Aside0.mk ((by rw [hg]; exact (below_size (by repeat (first | (with_reducible first | exact HB.out | apply below_alloc | apply pw_below_drewN | apply below_drew1 | refine below_set ?_ GE402.out | refine below_set ?_ GE405.out) | exact HB.out))) : w.heap.size ≤ gb406))
                  have n5_ := Aside0.mk ((by rw [hg]; exact (below_size (by repeat (first | (with_reducible first | exact HB.out | apply below_alloc | apply pw_below_drewN | apply below_drew1 | refine below_set ?_ GE402.out | refine below_set ?_ GE405.out) | exact HB.out))) : w.heap.size ≤ gb406))
                  have n6_ := Aside0.mk ((by rw [hg]; exact Nat.ne_of_lt (blk_lt (g := gb402) (o := .cells #[.slice A0_0 l0_0.length c0_0, .int .i32 a0_1, .int .i64 a0_2, .int .u64 a0_3] 27 (0, 0)) (by (with_reducible repeat (first | refine blk_drewN ?_ _ | refine blk_drew ?_ | refine blk_alloc ?_ _)); exact BK402.out)) : gb402 ≠ gb406))
                  have n7_ := Aside0.mk ((by rw [hg]; exact Nat.ne_of_gt (blk_lt (g := gb402) (o := .cells #[.slice A0_0 l0_0.length c0_0, .int .i32 a0_1, .int .i64 a0_2, .int .u64 a0_3] 27 (0, 0)) (by (with_reducible repeat (first | refine blk_drewN ?_ _ | refine blk_drew ?_ | refine blk_alloc ?_ _)); exact BK402.out)) : gb406 ≠ gb402))
                  have n8_ := Aside0.mk ((by rw [hg]; exact Nat.ne_of_lt (blk_lt (g := gb405) (o := .cells #[.int .i32 0, .int .i64 0, .int .u64 0] 25 (0, 0)) (by (with_reducible repeat (first | refine blk_drewN ?_ _ | refine blk_drew ?_ | refine blk_alloc ?_ _)); exact BK405.out)) : gb405 ≠ gb406))
                  have n9_ := Aside0.mk ((by rw [hg]; exact Nat.ne_of_gt (blk_lt (g := gb405) (o := .cells #[.int .i32 0, .int .i64 0, .int .u64 0] 25 (0, 0)) (by (with_reducible repeat (first | refine blk_drewN ?_ _ | refine blk_drew ?_ | refine blk_alloc ?_ _)); exact BK405.out)) : gb406 ≠ gb405))
                  clear BK402
                  clear BK405
                  clear HB
                  have BK402 := n0_
                  have BK405 := n1_
                  have HB := n2_
                  have BK406 := n3_
                  have GW406 := n4_
                  have GE406 := n5_
                  have NB402_406 := n6_
                  have NB406_402 := n7_
                  have NB405_406 := n8_
                  have NB406_405 := n9_
                  clear n0_ n1_ n2_ n3_ n4_ n5_ n6_ n7_ n8_ n9_
                  clear hb hbox hg
                  refine hK.out _ _ ⟨(blk_cell BK402.out 0).trans rfl, (blk_cell BK402.out 1).trans rfl, (blk_cell BK402.out 2).trans rfl, (blk_cell BK402.out 3).trans rfl⟩ (fun hHeld => ?_)
                  clear hK K
                  refine norm_ (a' := ?_) ?_ ?_
                  rotate_left
                  · show Act.put _ (some 6) _ = _
                    simp only [Act.put, List.setIfInBounds_toArray, List.set_cons_zero, List.set_cons_succ, i64_w, i32_w]
                    rfl
                  exact norm_ (by simp only [putAll, Act.put, List.setIfInBounds_toArray, List.set_cons_zero, List.set_cons_succ]) (hCont (gb405, gb406) _ ⟨hHeld, (by (with_reducible repeat (first | refine blk_drewN ?_ _ | refine blk_drew ?_ | refine blk_alloc ?_ _)); exact BK402.out), (by (with_reducible repeat (first | refine blk_drewN ?_ _ | refine blk_drew ?_ | refine blk_alloc ?_ _)); exact BK405.out), (by (with_reducible repeat (first | refine blk_drewN ?_ _ | refine blk_drew ?_ | refine blk_alloc ?_ _)); exact BK406.out), GW405.out, GE405.out, NB402_405.out, NB405_402.out, NB406_405.out, NB405_406.out, GW406.out, GE406.out, NB402_406.out, NB406_402.out, (by repeat (first | (with_reducible first | exact HB.out | apply below_alloc | apply pw_below_drewN | apply below_drew1 | refine below_set ?_ GE402.out | refine below_set ?_ GE405.out | refine below_set ?_ GE406.out) | exact HB.out))⟩)
                · skip
                  refine box_step ?hg (N := 6) ?hd (cs := #[.int .i32 0, .int .i64 0, .int .u64 0]) (t := 25) ?hr ?_; (case hd => rfl); (case hg => rfl); (case hr => first | (go_simp; done) | (go_simp; rfl))
                  intro gb406 hg w70 hbox hb
                  have n0_ := Aside0.mk (blk_below (g := gb402) (o := .cells #[.slice A0_0 l0_0.length c0_0, .int .i32 a0_1, .int .i64 a0_2, .int .u64 a0_3] 27 (0, 0)) (by (with_reducible repeat (first | refine blk_drewN ?_ _ | refine blk_drew ?_ | refine blk_alloc ?_ _)); exact BK402.out) hb)
                  have n1_ := Aside0.mk (below_step (by repeat (first | (with_reducible first | exact HB.out | apply below_alloc | apply pw_below_drewN | apply below_drew1 | refine below_set ?_ GE402.out) | exact HB.out)) hb)
                  have n2_ := Aside0.mk (hbox)
                  have n3_ := Aside0.mk ((by rw [hg]; exact (below_size (by repeat (first | (with_reducible first | exact HB.out | apply below_alloc | apply pw_below_drewN | apply below_drew1 | refine below_set ?_ GE402.out) | exact HB.out))) : w.heap.size ≤ gb406))
                  have n4_ := Aside0.mk ((by rw [hg]; exact (below_size (by repeat (first | (with_reducible first | exact HB.out | apply below_alloc | apply pw_below_drewN | apply below_drew1 | refine below_set ?_ GE402.out) | exact HB.out))) : w.heap.size ≤ gb406))
                  have n5_ := Aside0.mk ((by rw [hg]; exact Nat.ne_of_lt (blk_lt (g := gb402) (o := .cells #[.slice A0_0 l0_0.length c0_0, .int .i32 a0_1, .int .i64 a0_2, .int .u64 a0_3] 27 (0, 0)) (by (with_reducible repeat (first | refine blk_drewN ?_ _ | refine blk_drew ?_ | refine blk_alloc ?_ _)); exact BK402.out)) : gb402 ≠ gb406))
                  have n6_ := Aside0.mk ((by rw [hg]; exact Nat.ne_of_gt (blk_lt (g := gb402) (o := .cells #[.slice A0_0 l0_0.length c0_0, .int .i32 a0_1, .int .i64 a0_2, .int .u64 a0_3] 27 (0, 0)) (by (with_reducible repeat (first | refine blk_drewN ?_ _ | refine blk_drew ?_ | refine blk_alloc ?_ _)); exact BK402.out)) : gb406 ≠ gb402))
                  clear BK402
                  clear HB
                  have BK402 := n0_
                  have HB := n1_
                  have BK406 := n2_
                  have GW406 := n3_
                  have GE406 := n4_
                  have NB402_406 := n5_
                  have NB406_402 := n6_
                  clear n0_ n1_ n2_ n3_ n4_ n5_ n6_
                  clear hb hbox hg
                  refine hK.out _ _ ⟨(blk_cell BK402.out 0).trans rfl, (blk_cell BK402.out 1).trans rfl, (blk_cell BK402.out 2).trans rfl, (blk_cell BK402.out 3).trans rfl⟩ (fun hHeld => ?_)
                  clear hK K
                  refine norm_ (a' := ?_) ?_ ?_
                  rotate_left
                  · show Act.put _ (some 6) _ = _
                    simp only [Act.put, List.setIfInBounds_toArray, List.set_cons_zero, List.set_cons_succ, i64_w, i32_w]
                    rfl
                  refine one_ (i := 4) (N := some 5) #[true, true, true, true, true, true, false, false] rfl rfl (one_of HT_.out (by kernel_rfl)) (by decide) (fun K hK => ?_)
                  refine box_step ?hg (N := 5) ?hd (cs := #[.int .i32 0, .int .i64 0, .int .u64 0]) (t := 25) ?hr ?_; (case hd => rfl); (case hg => rfl); (case hr => first | (go_simp; done) | (go_simp; rfl))
                  intro gb405 hg w71 hbox hb
                  have n0_ := Aside0.mk (blk_below (g := gb402) (o := .cells #[.slice A0_0 l0_0.length c0_0, .int .i32 a0_1, .int .i64 a0_2, .int .u64 a0_3] 27 (0, 0)) (by (with_reducible repeat (first | refine blk_drewN ?_ _ | refine blk_drew ?_ | refine blk_alloc ?_ _)); exact BK402.out) hb)
                  have n1_ := Aside0.mk (blk_below (g := gb406) (o := .cells #[.int .i32 0, .int .i64 0, .int .u64 0] 25 (0, 0)) (by (with_reducible repeat (first | refine blk_drewN ?_ _ | refine blk_drew ?_ | refine blk_alloc ?_ _)); exact BK406.out) hb)
                  have n2_ := Aside0.mk (below_step (by repeat (first | (with_reducible first | exact HB.out | apply below_alloc | apply pw_below_drewN | apply below_drew1 | refine below_set ?_ GE402.out | refine below_set ?_ GE406.out) | exact HB.out)) hb)
                  have n3_ := Aside0.mk (hbox)
                  have n4_ := Aside0.mk ((by rw [hg]; exact (below_size (by repeat (first | (with_reducible first | exact HB.out | apply below_alloc | apply pw_below_drewN | apply below_drew1 | refine below_set ?_ GE402.out | refine below_set ?_ GE406.out) | exact HB.out))) : w.heap.size ≤ gb405))
                  have n5_ := Aside0.mk ((by rw [hg]; exact (below_size (by repeat (first | (with_reducible first | exact HB.out | apply below_alloc | apply pw_below_drewN | apply below_drew1 | refine below_set ?_ GE402.out | refine below_set ?_ GE406.out) | exact HB.out))) : w.heap.size ≤ gb405))
                  have n6_ := Aside0.mk ((by rw [hg]; exact Nat.ne_of_lt (blk_lt (g := gb402) (o := .cells #[.slice A0_0 l0_0.length c0_0, .int .i32 a0_1, .int .i64 a0_2, .int .u64 a0_3] 27 (0, 0)) (by (with_reducible repeat (first | refine blk_drewN ?_ _ | refine blk_drew ?_ | refine blk_alloc ?_ _)); exact BK402.out)) : gb402 ≠ gb405))
                  have n7_ := Aside0.mk ((by rw [hg]; exact Nat.ne_of_gt (blk_lt (g := gb402) (o := .cells #[.slice A0_0 l0_0.length c0_0, .int .i32 a0_1, .int .i64 a0_2, .int .u64 a0_3] 27 (0, 0)) (by (with_reducible repeat (first | refine blk_drewN ?_ _ | refine blk_drew ?_ | refine blk_alloc ?_ _)); exact BK402.out)) : gb405 ≠ gb402))
                  have n8_ := Aside0.mk ((by rw [hg]; exact Nat.ne_of_lt (blk_lt (g := gb406) (o := .cells #[.int .i32 0, .int .i64 0, .int .u64 0] 25 (0, 0)) (by (with_reducible repeat (first | refine blk_drewN ?_ _ | refine blk_drew ?_ | refine blk_alloc ?_ _)); exact BK406.out)) : gb406 ≠ gb405))
                  have n9_ := Aside0.mk ((by rw [hg]; exact Nat.ne_of_gt (blk_lt (g := gb406) (o := .cells #[.int .i32 0, .int .i64 0, .int .u64 0] 25 (0, 0)) (by (with_reducible repeat (first | refine blk_drewN ?_ _ | refine blk_drew ?_ | refine blk_alloc ?_ _)); exact BK406.out)) : gb405 ≠ gb406))
                  clear BK402
                  clear BK406
                  clear HB
                  have BK402 := n0_
                  have BK406 := n1_
                  have HB := n2_
                  have BK405 := n3_
                  have GW405 := n4_
                  have GE405 := n5_
                  have NB402_405 := n6_
                  have NB405_402 := n7_
                  have NB406_405 := n8_
                  have NB405_406 := n9_
                  clear n0_ n1_ n2_ n3_ n4_ n5_ n6_ n7_ n8_ n9_
                  clear hb hbox hg
                  refine hK.out _ _ ⟨(blk_cell BK402.out 0).trans rfl, (blk_cell BK402.out 1).trans rfl, (blk_cell BK402.out 2).trans rfl, (blk_cell BK402.out 3).trans rfl⟩ (fun hHeld => ?_)
                  clear hK K
                  refine norm_ (a' := ?_) ?_ ?_
                  rotate_left
                  · show Act.put _ (some 5) _ = _
                    simp only [Act.put, List.setIfInBounds_toArray, List.set_cons_zero, List.set_cons_succ, i64_w, i32_w]
                    rfl
                  exact norm_ (by simp only [putAll, Act.put, List.setIfInBounds_toArray, List.set_cons_zero, List.set_cons_succ]) (hCont (gb405, gb406) _ ⟨hHeld, (by (with_reducible repeat (first | refine blk_drewN ?_ _ | refine blk_drew ?_ | refine blk_alloc ?_ _)); exact BK402.out), (by (with_reducible repeat (first | refine blk_drewN ?_ _ | refine blk_drew ?_ | refine blk_alloc ?_ _)); exact BK405.out), (by (with_reducible repeat (first | refine blk_drewN ?_ _ | refine blk_drew ?_ | refine blk_alloc ?_ _)); exact BK406.out), GW405.out, GE405.out, NB402_405.out, NB405_402.out, NB406_405.out, NB405_406.out, GW406.out, GE406.out, NB402_406.out, NB406_402.out, (by repeat (first | (with_reducible first | exact HB.out | apply below_alloc | apply pw_below_drewN | apply below_drew1 | refine below_set ?_ GE402.out | refine below_set ?_ GE406.out | refine below_set ?_ GE405.out) | exact HB.out))⟩)
              rintro ⟨gb405, gb406⟩ w72 ⟨hS_, h0_, h1_, h2_, h3_, h4_, h5_, h6_, h7_, h8_, h9_, h10_, h11_, h12_, h13_⟩
              have n0_ : Aside0 (w72.heap[gb402]? = some (.cells #[.slice A0_0 l0_0.length c0_0, .int .i32 a0_1, .int .i64 a0_2, .int .u64 a0_3] 27 (0, 0))) := ⟨h0_⟩
              have n1_ : Aside0 (w72.heap[gb405]? = some (.cells #[.int .i32 0, .int .i64 0, .int .u64 0] 25 (0, 0))) := ⟨h1_⟩
              have n2_ : Aside0 (w72.heap[gb406]? = some (.cells #[.int .i32 0, .int .i64 0, .int .u64 0] 25 (0, 0))) := ⟨h2_⟩
              have n3_ : Aside0 (w.heap.size ≤ gb405) := ⟨h3_⟩
              have n4_ : Aside0 (w.heap.size ≤ gb405) := ⟨h4_⟩
              have n5_ : Aside0 (gb402 ≠ gb405) := ⟨h5_⟩
              have n6_ : Aside0 (gb405 ≠ gb402) := ⟨h6_⟩
              have n7_ : Aside0 (gb406 ≠ gb405) := ⟨h7_⟩
              have n8_ : Aside0 (gb405 ≠ gb406) := ⟨h8_⟩
              have n9_ : Aside0 (w.heap.size ≤ gb406) := ⟨h9_⟩
              have n10_ : Aside0 (w.heap.size ≤ gb406) := ⟨h10_⟩
              have n11_ : Aside0 (gb402 ≠ gb406) := ⟨h11_⟩
              have n12_ : Aside0 (gb406 ≠ gb402) := ⟨h12_⟩
              have n13_ : Aside0 (Below w.heap.size w w72) := ⟨h13_⟩
              clear BK402
              clear HB
              clear h0_ h1_ h2_ h3_ h4_ h5_ h6_ h7_ h8_ h9_ h10_ h11_ h12_ h13_
              have BK402 := n0_
              have BK405 := n1_
              have BK406 := n2_
              have GW405 := n3_
              have GE405 := n4_
              have NB402_405 := n5_
              have NB405_402 := n6_
              have NB406_405 := n7_
              have NB405_406 := n8_
              have GW406 := n9_
              have GE406 := n10_
              have NB402_406 := n11_
              have NB406_402 := n12_
              have HB := n13_
              clear n0_ n1_ n2_ n3_ n4_ n5_ n6_ n7_ n8_ n9_ n10_ n11_ n12_ n13_
              have hHeld : w72.cell? ⟨gb402, 0, none⟩ = some (.slice A0_0 l0_0.length c0_0) ∧ w72.cell? ⟨gb402, 1, none⟩ = some (.int .i32 a0_1) ∧ w72.cell? ⟨gb402, 2, none⟩ = some (.int .i64 a0_2) ∧ w72.cell? ⟨gb402, 3, none⟩ = some (.int .u64 a0_3) := hS_
              refine norm_ (a' := ?_) ?_ ?_
              rotate_left
              · simp only [putAll, Act.put, List.setIfInBounds_toArray, List.set_cons_zero, List.set_cons_succ]
                rfl
              refine one_ (i := 6) (N := none) #[true, true, true, true, true, true, true, false] rfl rfl (one_of HT_.out (by kernel_rfl)) (by decide) (fun K hK => ?_)
              have hs73 : w72.cell? ⟨gb405, 0, none⟩ = some (.int .i32 0) := (blk_cell BK405.out 0).trans rfl
              have hfs73 := blk_frozen BK405.out 0
              have hns73_0 := NB402_405.out
              have hns73_2 := NB406_405.out
              have hms73_0 := NB405_402.out
              have hms73_2 := NB405_406.out
              have hs74 : w72.cell? ⟨gb405, 1, none⟩ = some (.int .i64 0) := (blk_cell BK405.out 1).trans rfl
              have hfs74 := blk_frozen BK405.out 1
              have hns74_0 := NB402_405.out
              have hns74_2 := NB406_405.out
              have hms74_0 := NB405_402.out
              have hms74_2 := NB405_406.out
              have hs75 : w72.cell? ⟨gb405, 2, none⟩ = some (.int .u64 0) := (blk_cell BK405.out 2).trans rfl
              have hfs75 := blk_frozen BK405.out 2
              have hns75_0 := NB402_405.out
              have hns75_2 := NB406_405.out
              have hms75_0 := NB405_402.out
              have hms75_2 := NB405_406.out
              refine skip_ (w1 := ?_) (by rfl) rfl ?_ ?_
              rotate_left
              · go_simp
                rfl
              refine hK.out _ _ ⟨((cell_far (p := ⟨gb405, _, none⟩) NB402_405.out _).trans (((cell_far (p := ⟨gb405, _, none⟩) NB402_405.out _).trans (((cell_far (p := ⟨gb405, _, none⟩) NB402_405.out _).trans (hHeld.1)))))), ((cell_far (p := ⟨gb405, _, none⟩) NB402_405.out _).trans (((cell_far (p := ⟨gb405, _, none⟩) NB402_405.out _).trans (((cell_far (p := ⟨gb405, _, none⟩) NB402_405.out _).trans (hHeld.2.1)))))), ((cell_far (p := ⟨gb405, _, none⟩) NB402_405.out _).trans (((cell_far (p := ⟨gb405, _, none⟩) NB402_405.out _).trans (((cell_far (p := ⟨gb405, _, none⟩) NB402_405.out _).trans (hHeld.2.2.1)))))), ((cell_far (p := ⟨gb405, _, none⟩) NB402_405.out _).trans (((cell_far (p := ⟨gb405, _, none⟩) NB402_405.out _).trans (((cell_far (p := ⟨gb405, _, none⟩) NB402_405.out _).trans (hHeld.2.2.2))))))⟩ (fun hHeld => ?_)
              clear hK K
              refine one_ (i := 7) (N := none) #[true, true, true, true, true, true, true, true] rfl rfl (one_of HT_.out (by kernel_rfl)) (by decide) (fun K hK => ?_)
              have hs76 : w72.cell? ⟨gb406, 0, none⟩ = some (.int .i32 0) := (blk_cell BK406.out 0).trans rfl
              have hfs76 := blk_frozen BK406.out 0
              have hns76_0 := NB402_406.out
              have hns76_1 := NB405_406.out
              have hms76_0 := NB406_402.out
              have hms76_1 := NB406_405.out
              have hs77 : w72.cell? ⟨gb406, 1, none⟩ = some (.int .i64 0) := (blk_cell BK406.out 1).trans rfl
              have hfs77 := blk_frozen BK406.out 1
              have hns77_0 := NB402_406.out
              have hns77_1 := NB405_406.out
              have hms77_0 := NB406_402.out
              have hms77_1 := NB406_405.out
              have hs78 : w72.cell? ⟨gb406, 2, none⟩ = some (.int .u64 0) := (blk_cell BK406.out 2).trans rfl
              have hfs78 := blk_frozen BK406.out 2
              have hns78_0 := NB402_406.out
              have hns78_1 := NB405_406.out
              have hms78_0 := NB406_402.out
              have hms78_1 := NB406_405.out
              refine skip_ (w1 := ?_) (by rfl) rfl ?_ ?_
              rotate_left
              · go_simp
                rfl
              refine hK.out _ _ ⟨((cell_far (p := ⟨gb406, _, none⟩) NB402_406.out _).trans (((cell_far (p := ⟨gb406, _, none⟩) NB402_406.out _).trans (((cell_far (p := ⟨gb406, _, none⟩) NB402_406.out _).trans (hHeld.1)))))), ((cell_far (p := ⟨gb406, _, none⟩) NB402_406.out _).trans (((cell_far (p := ⟨gb406, _, none⟩) NB402_406.out _).trans (((cell_far (p := ⟨gb406, _, none⟩) NB402_406.out _).trans (hHeld.2.1)))))), ((cell_far (p := ⟨gb406, _, none⟩) NB402_406.out _).trans (((cell_far (p := ⟨gb406, _, none⟩) NB402_406.out _).trans (((cell_far (p := ⟨gb406, _, none⟩) NB402_406.out _).trans (hHeld.2.2.1)))))), ((cell_far (p := ⟨gb406, _, none⟩) NB402_406.out _).trans (((cell_far (p := ⟨gb406, _, none⟩) NB402_406.out _).trans (((cell_far (p := ⟨gb406, _, none⟩) NB402_406.out _).trans (hHeld.2.2.2))))))⟩ (fun hHeld => ?_)
              clear hK K
              refine done_ (done_of HT_.out (by kernel_rfl)) ?_
              have hnb79 := NB405_402.out
              have hnc79 := NB402_405.out
              have hnb80 := NB405_406.out
              have hnc80 := NB406_405.out
              have hcz81_0 : w72.cell? ⟨gb405, 0, none⟩ = some (.int .i32 0) := (blk_cell BK405.out 0).trans rfl
              have hcz81_1 : w72.cell? ⟨gb405, 1, none⟩ = some (.int .i64 0) := (blk_cell BK405.out 1).trans rfl
              have hcz81_2 : w72.cell? ⟨gb405, 2, none⟩ = some (.int .u64 0) := (blk_cell BK405.out 2).trans rfl
              have hfz81_0 := blk_frozen BK405.out 0
              have hfz81_1 := blk_frozen BK405.out 1
              have hfz81_2 := blk_frozen BK405.out 2
              have hnb82 := NB406_402.out
              have hnc82 := NB402_406.out
              have hcz83_0 : w72.cell? ⟨gb406, 0, none⟩ = some (.int .i32 0) := (blk_cell BK406.out 0).trans rfl
              have hcz83_1 : w72.cell? ⟨gb406, 1, none⟩ = some (.int .i64 0) := (blk_cell BK406.out 1).trans rfl
              have hcz83_2 : w72.cell? ⟨gb406, 2, none⟩ = some (.int .u64 0) := (blk_cell BK406.out 2).trans rfl
              have hfz83_0 := blk_frozen BK406.out 0
              have hfz83_1 := blk_frozen BK406.out 1
              have hfz83_2 := blk_frozen BK406.out 2
              have hcz84_0 : w72.cell? ⟨gb402, 0, none⟩ = some (.slice A0_0 l0_0.length c0_0) := (blk_cell BK402.out 0).trans rfl
              have hcz84_1 : w72.cell? ⟨gb402, 1, none⟩ = some (.int .i32 a0_1) := (blk_cell BK402.out 1).trans rfl
              have hcz84_2 : w72.cell? ⟨gb402, 2, none⟩ = some (.int .i64 a0_2) := (blk_cell BK402.out 2).trans rfl
              have hcz84_3 : w72.cell? ⟨gb402, 3, none⟩ = some (.int .u64 a0_3) := (blk_cell BK402.out 3).trans rfl
              have hfz84_0 := blk_frozen BK402.out 0
              have hfz84_1 := blk_frozen BK402.out 1
              have hfz84_2 := blk_frozen BK402.out 2
              have hfz84_3 := blk_frozen BK402.out 3
              try go_wp2_with (first | ((with_reducible refine gate_callee (f := 9) rfl ?_); refine goesL_ (some 52) rfl rfl Try.func9 (by kernel_rfl) rfl #[.slice A0_0 l0_0.length c0_0, .agg #[.int .i32 0, .int .i64 a0_2, .int .u64 a0_3], .int .i64 a1] rfl (by (try simp only [List.map_toArray, List.map_cons, List.map_nil]); first | done | rfl | (simp only [List.length_drop, List.length_take]; rfl)) ?_; (with_reducible refine (pick_Pick.calls kj2 _ _ l0_0 0 a0_2 a0_3 a1 t407 t408 _ ?side1 ?side2 A18.out).mono ?_); (case side1 => exact Kd.C_below HR0_0.out (by repeat (first | (with_reducible first | exact HB.out | apply below_alloc | apply pw_below_drewN | apply below_drew1 | refine below_set ?_ GE402.out | refine below_set ?_ GE405.out | refine below_set ?_ GE406.out) | exact HB.out))); (case side2 => exact HC0_0.out); rintro e w85 ⟨rfl, hb⟩; refine ⟨_, rfl, ?_⟩; have n0_ := Aside0.mk (blk_below (g := gb402) (o := .cells #[.slice A0_0 l0_0.length c0_0, .int .i32 a0_1, .int .i64 a0_2, .int .u64 a0_3] 27 (0, 0)) (by (with_reducible repeat (first | refine blk_drewN ?_ _ | refine blk_drew ?_ | refine blk_alloc ?_ _)); refine blk_far ?_ NB402_406.out _; (with_reducible repeat (first | refine blk_drewN ?_ _ | refine blk_drew ?_ | refine blk_alloc ?_ _)); refine blk_far ?_ NB402_405.out _; (with_reducible repeat (first | refine blk_drewN ?_ _ | refine blk_drew ?_ | refine blk_alloc ?_ _)); refine blk_far ?_ NB402_406.out _; (with_reducible repeat (first | refine blk_drewN ?_ _ | refine blk_drew ?_ | refine blk_alloc ?_ _)); refine blk_far ?_ NB402_406.out _; (with_reducible repeat (first | refine blk_drewN ?_ _ | refine blk_drew ?_ | refine blk_alloc ?_ _)); refine blk_far ?_ NB402_406.out _; (with_reducible repeat (first | refine blk_drewN ?_ _ | refine blk_drew ?_ | refine blk_alloc ?_ _)); refine blk_far ?_ NB402_405.out _; (with_reducible repeat (first | refine blk_drewN ?_ _ | refine blk_drew ?_ | refine blk_alloc ?_ _)); refine blk_far ?_ NB402_405.out _; (with_reducible repeat (first | refine blk_drewN ?_ _ | refine blk_drew ?_ | refine blk_alloc ?_ _)); refine blk_far ?_ NB402_405.out _; (with_reducible repeat (first | refine blk_drewN ?_ _ | refine blk_drew ?_ | refine blk_alloc ?_ _)); exact BK402.out) hb); have n1_ := Aside0.mk (blk_below (g := gb405) (o := .cells #[.int .i32 0, .int .i64 a0_2, .int .u64 a0_3] 25 (0, 0)) (by (with_reducible repeat (first | refine blk_drewN ?_ _ | refine blk_drew ?_ | refine blk_alloc ?_ _)); refine blk_far ?_ NB405_406.out _; (with_reducible repeat (first | refine blk_drewN ?_ _ | refine blk_drew ?_ | refine blk_alloc ?_ _)); refine blk_put (cs := #[.int .i32 a0_1, .int .i64 a0_2, .int .u64 a0_3]) ?_ 0 _ rfl; (with_reducible repeat (first | refine blk_drewN ?_ _ | refine blk_drew ?_ | refine blk_alloc ?_ _)); refine blk_far ?_ NB405_406.out _; (with_reducible repeat (first | refine blk_drewN ?_ _ | refine blk_drew ?_ | refine blk_alloc ?_ _)); refine blk_far ?_ NB405_406.out _; (with_reducible repeat (first | refine blk_drewN ?_ _ | refine blk_drew ?_ | refine blk_alloc ?_ _)); refine blk_far ?_ NB405_406.out _; (with_reducible repeat (first | refine blk_drewN ?_ _ | refine blk_drew ?_ | refine blk_alloc ?_ _)); refine blk_put (cs := #[.int .i32 a0_1, .int .i64 a0_2, .int .u64 0]) ?_ 2 _ rfl; (with_reducible repeat (first | refine blk_drewN ?_ _ | refine blk_drew ?_ | refine blk_alloc ?_ _)); refine blk_put (cs := #[.int .i32 a0_1, .int .i64 0, .int .u64 0]) ?_ 1 _ rfl; (with_reducible repeat (first | refine blk_drewN ?_ _ | refine blk_drew ?_ | refine blk_alloc ?_ _)); refine blk_put (cs := #[.int .i32 0, .int .i64 0, .int .u64 0]) ?_ 0 _ rfl; (with_reducible repeat (first | refine blk_drewN ?_ _ | refine blk_drew ?_ | refine blk_alloc ?_ _)); exact BK405.out) hb); have n2_ := Aside0.mk (blk_below (g := gb406) (o := .cells #[.int .i32 a0_1, .int .i64 1, .int .u64 a0_3] 25 (0, 0)) (by (with_reducible repeat (first | refine blk_drewN ?_ _ | refine blk_drew ?_ | refine blk_alloc ?_ _)); refine blk_put (cs := #[.int .i32 a0_1, .int .i64 a0_2, .int .u64 a0_3]) ?_ 1 _ rfl; (with_reducible repeat (first | refine blk_drewN ?_ _ | refine blk_drew ?_ | refine blk_alloc ?_ _)); refine blk_far ?_ NB406_405.out _; (with_reducible repeat (first | refine blk_drewN ?_ _ | refine blk_drew ?_ | refine blk_alloc ?_ _)); refine blk_put (cs := #[.int .i32 a0_1, .int .i64 a0_2, .int .u64 0]) ?_ 2 _ rfl; (with_reducible repeat (first | refine blk_drewN ?_ _ | refine blk_drew ?_ | refine blk_alloc ?_ _)); refine blk_put (cs := #[.int .i32 a0_1, .int .i64 0, .int .u64 0]) ?_ 1 _ rfl; (with_reducible repeat (first | refine blk_drewN ?_ _ | refine blk_drew ?_ | refine blk_alloc ?_ _)); refine blk_put (cs := #[.int .i32 0, .int .i64 0, .int .u64 0]) ?_ 0 _ rfl; (with_reducible repeat (first | refine blk_drewN ?_ _ | refine blk_drew ?_ | refine blk_alloc ?_ _)); refine blk_far ?_ NB406_405.out _; (with_reducible repeat (first | refine blk_drewN ?_ _ | refine blk_drew ?_ | refine blk_alloc ?_ _)); refine blk_far ?_ NB406_405.out _; (with_reducible repeat (first | refine blk_drewN ?_ _ | refine blk_drew ?_ | refine blk_alloc ?_ _)); refine blk_far ?_ NB406_405.out _; (with_reducible repeat (first | refine blk_drewN ?_ _ | refine blk_drew ?_ | refine blk_alloc ?_ _)); exact BK406.out) hb); have n3_ := Aside0.mk (below_step (by repeat (first | (with_reducible first | exact HB.out | apply below_alloc | apply pw_below_drewN | apply below_drew1 | refine below_set ?_ GE402.out | refine below_set ?_ GE405.out | refine below_set ?_ GE406.out) | exact HB.out)) hb); clear BK402; clear BK405; clear BK406; clear HB; have BK402 := n0_; have BK405 := n1_; have BK406 := n2_; have HB := n3_; clear n0_ n1_ n2_ n3_; (try clear hb); (try clear hb2); (try clear hk); (try clear hi); have hcz86_0 : w85.cell? ⟨gb402, 0, none⟩ = some (.slice A0_0 l0_0.length c0_0) := (blk_cell BK402.out 0).trans rfl; have hcz86_1 : w85.cell? ⟨gb402, 1, none⟩ = some (.int .i32 a0_1) := (blk_cell BK402.out 1).trans rfl; have hcz86_2 : w85.cell? ⟨gb402, 2, none⟩ = some (.int .i64 a0_2) := (blk_cell BK402.out 2).trans rfl; have hcz86_3 : w85.cell? ⟨gb402, 3, none⟩ = some (.int .u64 a0_3) := (blk_cell BK402.out 3).trans rfl; have hfz86_0 := blk_frozen BK402.out 0; have hfz86_1 := blk_frozen BK402.out 1; have hfz86_2 := blk_frozen BK402.out 2; have hfz86_3 := blk_frozen BK402.out 3; have hcz87_0 : w85.cell? ⟨gb406, 0, none⟩ = some (.int .i32 a0_1) := (blk_cell BK406.out 0).trans rfl; have hcz87_1 : w85.cell? ⟨gb406, 1, none⟩ = some (.int .i64 1) := (blk_cell BK406.out 1).trans rfl; have hcz87_2 : w85.cell? ⟨gb406, 2, none⟩ = some (.int .u64 a0_3) := (blk_cell BK406.out 2).trans rfl; have hfz87_0 := blk_frozen BK406.out 0; have hfz87_1 := blk_frozen BK406.out 1; have hfz87_2 := blk_frozen BK406.out 2) | ((with_reducible refine gate_callee (f := 9) rfl ?_); refine goesL_ (some 60) rfl rfl Try.func9 (by kernel_rfl) rfl #[.slice A0_0 l0_0.length c0_0, .agg #[.int .i32 a0_1, .int .i64 1, .int .u64 a0_3], .int .i64 a1] rfl (by (try simp only [List.map_toArray, List.map_cons, List.map_nil]); first | done | rfl | (simp only [List.length_drop, List.length_take]; rfl)) ?_; (with_reducible refine (pick_Pick.calls kj2 _ _ l0_0 a0_1 1 a0_3 a1 t409 t410 _ ?side1 ?side2 A19.out).mono ?_); (case side1 => repeat (first | exact (Kd.C_below HR0_0.out HB.out) | (with_reducible refine Kd.C_alloc ?_ _) | (with_reducible refine Kd.C_drewN ?_ _) | (with_reducible refine Kd.C_drew ?_))); (case side2 => exact HC0_0.out); rintro e w88 ⟨rfl, hb⟩; refine ⟨_, rfl, ?_⟩; have n0_ := Aside0.mk (blk_below (g := gb402) (o := .cells #[.slice A0_0 l0_0.length c0_0, .int .i32 a0_1, .int .i64 a0_2, .int .u64 a0_3] 27 (0, 0)) (by (with_reducible repeat (first | refine blk_drewN ?_ _ | refine blk_drew ?_ | refine blk_alloc ?_ _)); exact BK402.out) hb); have n1_ := Aside0.mk (blk_below (g := gb405) (o := .cells #[.int .i32 0, .int .i64 a0_2, .int .u64 a0_3] 25 (0, 0)) (by (with_reducible repeat (first | refine blk_drewN ?_ _ | refine blk_drew ?_ | refine blk_alloc ?_ _)); exact BK405.out) hb); have n2_ := Aside0.mk (blk_below (g := gb406) (o := .cells #[.int .i32 a0_1, .int .i64 1, .int .u64 a0_3] 25 (0, 0)) (by (with_reducible repeat (first | refine blk_drewN ?_ _ | refine blk_drew ?_ | refine blk_alloc ?_ _)); exact BK406.out) hb); have n3_ := Aside0.mk (below_step (by repeat (first | (with_reducible first | exact HB.out | apply below_alloc | apply pw_below_drewN | apply below_drew1 | refine below_set ?_ GE402.out | refine below_set ?_ GE405.out | refine below_set ?_ GE406.out) | exact HB.out)) hb); clear BK402; clear BK405; clear BK406; clear HB; have BK402 := n0_; have BK405 := n1_; have BK406 := n2_; have HB := n3_; clear n0_ n1_ n2_ n3_; (try clear hb); (try clear hb2); (try clear hk); (try clear hi); have hcz89_0 : w88.cell? ⟨gb402, 0, none⟩ = some (.slice A0_0 l0_0.length c0_0) := (blk_cell BK402.out 0).trans rfl; have hcz89_1 : w88.cell? ⟨gb402, 1, none⟩ = some (.int .i32 a0_1) := (blk_cell BK402.out 1).trans rfl; have hcz89_2 : w88.cell? ⟨gb402, 2, none⟩ = some (.int .i64 a0_2) := (blk_cell BK402.out 2).trans rfl; have hcz89_3 : w88.cell? ⟨gb402, 3, none⟩ = some (.int .u64 a0_3) := (blk_cell BK402.out 3).trans rfl; have hfz89_0 := blk_frozen BK402.out 0; have hfz89_1 := blk_frozen BK402.out 1; have hfz89_2 := blk_frozen BK402.out 2; have hfz89_3 := blk_frozen BK402.out 3) | ((with_reducible refine gate_callee (f := 17) rfl ?_); refine goesL_ (some 65) rfl rfl Try.func17 (by kernel_rfl) rfl #[.slice A0_0 l0_0.length c0_0] rfl (by (try simp only [List.map_toArray, List.map_cons, List.map_nil]); first | done | rfl | (simp only [List.length_drop, List.length_take]; rfl)) ?_; (with_reducible refine (credenzaref03_Top.calls kj2 _ _ l0_0 t411 _ ?side1 ?side2 A20.out).mono ?_); (case side1 => repeat (first | exact (Kd.C_below HR0_0.out HB.out) | (with_reducible refine Kd.C_alloc ?_ _) | (with_reducible refine Kd.C_drewN ?_ _) | (with_reducible refine Kd.C_drew ?_))); (case side2 => exact HC0_0.out); rintro e w' ⟨rfl, ⟨nd, rfl⟩⟩; refine ⟨_, rfl, ?_⟩))
              go_ret
              exact ⟨by first | rfl | (simp [errW_none, errW_some] <;> rfl) | (simp [*, errW_none, errW_some] <;> rfl), by repeat (first | (with_reducible first | exact HB.out | apply below_alloc | apply pw_below_drewN | apply below_drew1 | refine below_set ?_ GE402.out | refine below_set ?_ GE405.out | refine below_set ?_ GE406.out) | exact HB.out)⟩
          · rw [if_neg c22] at H
            have c22b0 : (t410 == 0) = false := beq_eq_false_iff_ne.mpr c22
            have c22b1 : (t410 != 0) = true := bne_iff_ne.mpr c22
            obtain rfl := Option.some.inj H
            try go_wp2
            have n0_ := Aside0.mk (blk_drew BK402.out)
            have n1_ := Aside0.mk (below_drew1 HB.out)
            clear BK402
            clear HB
            have BK402 := n0_
            have HB := n1_
            clear n0_ n1_
            refine start_ (n := 8) (S := fun w' => w'.cell? ⟨gb402, 0, none⟩ = some (.slice A0_0 l0_0.length c0_0) ∧ w'.cell? ⟨gb402, 1, none⟩ = some (.int .i32 a0_1) ∧ w'.cell? ⟨gb402, 2, none⟩ = some (.int .i64 a0_2) ∧ w'.cell? ⟨gb402, 3, none⟩ = some (.int .u64 a0_3)) (ds := []) #[false, false, false, false, false, false, false, false] (by kernel_rfl) rfl rfl ⟨(blk_cell BK402.out 0).trans rfl, (blk_cell BK402.out 1).trans rfl, (blk_cell BK402.out 2).trans rfl, (blk_cell BK402.out 3).trans rfl⟩ (fun hHeld => ?_); refine with_tabW credenzalaw20_PickTops.tab3 credenzalaw20_PickTops.bits3 (fun HT_ HW_ => ?_)
            generalize wc.drew = w90 at BK402 HB hHeld ⊢
            refine pure_ (i := 0) (N := some 41) (v := ?_) (a' := ?_) #[true, false, false, false, false, false, false, false] rfl rfl (any_of HT_.out (by kernel_rfl)) (fun _ _ _ h => h) (Or.inl ⟨by rfl, ?_⟩) ?_ ?_
            rotate_left
            · intro w'
              go_simp
              with_reducible rfl
            rotate_left
            · simp only [Act.put, List.setIfInBounds_toArray, List.set_cons_zero, List.set_cons_succ, i64_w, i32_w]
              rfl
            refine pure_ (i := 2) (N := some 43) (v := ?_) (a' := ?_) #[true, false, true, false, false, false, false, false] rfl rfl (any_of HT_.out (by kernel_rfl)) (fun _ _ _ h => h) (Or.inl ⟨by rfl, ?_⟩) ?_ ?_
            rotate_left
            · intro w'
              go_simp
              with_reducible rfl
            rotate_left
            · simp only [Act.put, List.setIfInBounds_toArray, List.set_cons_zero, List.set_cons_succ, i64_w, i32_w]
              rfl
            refine take_ (i := 1) (N := some 42) (v := ?_) (a' := ?_) #[true, true, true, false, false, false, false, false] rfl rfl (take_ofW HT_.out HW_.out (by kernel_rfl)) (fun _ _ _ h => h) (Or.inl ⟨by rfl, ?_⟩) hHeld ?_ ?_
            rotate_left
            · rintro w' ⟨s0, s1, s2, s3⟩
              go_simp
              with_reducible rfl
            rotate_left
            · simp only [Act.put, List.setIfInBounds_toArray, List.set_cons_zero, List.set_cons_succ, i64_w, i32_w]
              rfl
            refine take_ (i := 3) (N := some 44) (v := ?_) (a' := ?_) #[true, true, true, true, false, false, false, false] rfl rfl (take_ofW HT_.out HW_.out (by kernel_rfl)) (fun _ _ _ h => h) (Or.inl ⟨by rfl, ?_⟩) hHeld ?_ ?_
            rotate_left
            · rintro w' ⟨s0, s1, s2, s3⟩
              go_simp
              with_reducible rfl
            rotate_left
            · simp only [Act.put, List.setIfInBounds_toArray, List.set_cons_zero, List.set_cons_succ, i64_w, i32_w]
              rfl
            refine join_ (σ := Nat × Nat) 2 #[true, true, true, true, true, true, false, false] (fun s_ => [(5, .pointer (some ⟨s_.1, 0, none⟩)), (6, .pointer (some ⟨s_.2, 0, none⟩))]) (fun s_ w' => (w'.cell? ⟨gb402, 0, none⟩ = some (.slice A0_0 l0_0.length c0_0) ∧ w'.cell? ⟨gb402, 1, none⟩ = some (.int .i32 a0_1) ∧ w'.cell? ⟨gb402, 2, none⟩ = some (.int .i64 a0_2) ∧ w'.cell? ⟨gb402, 3, none⟩ = some (.int .u64 a0_3)) ∧ (w'.heap[gb402]? = some (.cells #[.slice A0_0 l0_0.length c0_0, .int .i32 a0_1, .int .i64 a0_2, .int .u64 a0_3] 27 (0, 0))) ∧ (w'.heap[s_.1]? = some (.cells #[.int .i32 0, .int .i64 0, .int .u64 0] 25 (0, 0))) ∧ (w'.heap[s_.2]? = some (.cells #[.int .i32 0, .int .i64 0, .int .u64 0] 25 (0, 0))) ∧ (w.heap.size ≤ s_.1) ∧ (w.heap.size ≤ s_.1) ∧ (gb402 ≠ s_.1) ∧ (s_.1 ≠ gb402) ∧ (s_.2 ≠ s_.1) ∧ (s_.1 ≠ s_.2) ∧ (w.heap.size ≤ s_.2) ∧ (w.heap.size ≤ s_.2) ∧ (gb402 ≠ s_.2) ∧ (s_.2 ≠ gb402) ∧ (Below w.heap.size w w')) ?_ ?_
            rotate_left
            · intro hCont
              refine two_ (i := 4) (j := 5) (Ni := some 5) (Nj := some 6) #[true, true, true, true, true, false, false, false] #[true, true, true, true, false, true, false, false] rfl rfl rfl rfl (two_of HT_.out (by kernel_rfl)) (by decide) (by decide) (fun K hK => ?_) (fun K hK => ?_)
              · skip
                refine box_step ?hg (N := 5) ?hd (cs := #[.int .i32 0, .int .i64 0, .int .u64 0]) (t := 25) ?hr ?_; (case hd => rfl); (case hg => rfl); (case hr => first | (go_simp; done) | (go_simp; rfl))
                intro gb405 hg w91 hbox hb
                have n0_ := Aside0.mk (blk_below (g := gb402) (o := .cells #[.slice A0_0 l0_0.length c0_0, .int .i32 a0_1, .int .i64 a0_2, .int .u64 a0_3] 27 (0, 0)) (by (with_reducible repeat (first | refine blk_drewN ?_ _ | refine blk_drew ?_ | refine blk_alloc ?_ _)); exact BK402.out) hb)
                have n1_ := Aside0.mk (below_step (by repeat (first | (with_reducible first | exact HB.out | apply below_alloc | apply pw_below_drewN | apply below_drew1 | refine below_set ?_ GE402.out) | exact HB.out)) hb)
                have n2_ := Aside0.mk (hbox)
                have n3_ := Aside0.mk ((by rw [hg]; exact (below_size (by repeat (first | (with_reducible first | exact HB.out | apply below_alloc | apply pw_below_drewN | apply below_drew1 | refine below_set ?_ GE402.out) | exact HB.out))) : w.heap.size ≤ gb405))
                have n4_ := Aside0.mk ((by rw [hg]; exact (below_size (by repeat (first | (with_reducible first | exact HB.out | apply below_alloc | apply pw_below_drewN | apply below_drew1 | refine below_set ?_ GE402.out) | exact HB.out))) : w.heap.size ≤ gb405))
                have n5_ := Aside0.mk ((by rw [hg]; exact Nat.ne_of_lt (blk_lt (g := gb402) (o := .cells #[.slice A0_0 l0_0.length c0_0, .int .i32 a0_1, .int .i64 a0_2, .int .u64 a0_3] 27 (0, 0)) (by (with_reducible repeat (first | refine blk_drewN ?_ _ | refine blk_drew ?_ | refine blk_alloc ?_ _)); exact BK402.out)) : gb402 ≠ gb405))
                have n6_ := Aside0.mk ((by rw [hg]; exact Nat.ne_of_gt (blk_lt (g := gb402) (o := .cells #[.slice A0_0 l0_0.length c0_0, .int .i32 a0_1, .int .i64 a0_2, .int .u64 a0_3] 27 (0, 0)) (by (with_reducible repeat (first | refine blk_drewN ?_ _ | refine blk_drew ?_ | refine blk_alloc ?_ _)); exact BK402.out)) : gb405 ≠ gb402))
                clear BK402
                clear HB
                have BK402 := n0_
                have HB := n1_
                have BK405 := n2_
                have GW405 := n3_
                have GE405 := n4_
                have NB402_405 := n5_
                have NB405_402 := n6_
                clear n0_ n1_ n2_ n3_ n4_ n5_ n6_
                clear hb hbox hg
                refine hK.out _ _ ⟨(blk_cell BK402.out 0).trans rfl, (blk_cell BK402.out 1).trans rfl, (blk_cell BK402.out 2).trans rfl, (blk_cell BK402.out 3).trans rfl⟩ (fun hHeld => ?_)
                clear hK K
                refine norm_ (a' := ?_) ?_ ?_
                rotate_left
                · show Act.put _ (some 5) _ = _
                  simp only [Act.put, List.setIfInBounds_toArray, List.set_cons_zero, List.set_cons_succ, i64_w, i32_w]
                  rfl
                refine one_ (i := 5) (N := some 6) #[true, true, true, true, true, true, false, false] rfl rfl (one_of HT_.out (by kernel_rfl)) (by decide) (fun K hK => ?_)
                refine box_step ?hg (N := 6) ?hd (cs := #[.int .i32 0, .int .i64 0, .int .u64 0]) (t := 25) ?hr ?_; (case hd => rfl); (case hg => rfl); (case hr => first | (go_simp; done) | (go_simp; rfl))
                intro gb406 hg w92 hbox hb
                have n0_ := Aside0.mk (blk_below (g := gb402) (o := .cells #[.slice A0_0 l0_0.length c0_0, .int .i32 a0_1, .int .i64 a0_2, .int .u64 a0_3] 27 (0, 0)) (by (with_reducible repeat (first | refine blk_drewN ?_ _ | refine blk_drew ?_ | refine blk_alloc ?_ _)); exact BK402.out) hb)
                have n1_ := Aside0.mk (blk_below (g := gb405) (o := .cells #[.int .i32 0, .int .i64 0, .int .u64 0] 25 (0, 0)) (by (with_reducible repeat (first | refine blk_drewN ?_ _ | refine blk_drew ?_ | refine blk_alloc ?_ _)); exact BK405.out) hb)
                have n2_ := Aside0.mk (below_step (by repeat (first | (with_reducible first | exact HB.out | apply below_alloc | apply pw_below_drewN | apply below_drew1 | refine below_set ?_ GE402.out | refine below_set ?_ GE405.out) | exact HB.out)) hb)
                have n3_ := Aside0.mk (hbox)
                have n4_ := Aside0.mk ((by rw [hg]; exact (below_size (by repeat (first | (with_reducible first | exact HB.out | apply below_alloc | apply pw_below_drewN | apply below_drew1 | refine below_set ?_ GE402.out | refine below_set ?_ GE405.out) | exact HB.out))) : w.heap.size ≤ gb406))
                have n5_ := Aside0.mk ((by rw [hg]; exact (below_size (by repeat (first | (with_reducible first | exact HB.out | apply below_alloc | apply pw_below_drewN | apply below_drew1 | refine below_set ?_ GE402.out | refine below_set ?_ GE405.out) | exact HB.out))) : w.heap.size ≤ gb406))
                have n6_ := Aside0.mk ((by rw [hg]; exact Nat.ne_of_lt (blk_lt (g := gb402) (o := .cells #[.slice A0_0 l0_0.length c0_0, .int .i32 a0_1, .int .i64 a0_2, .int .u64 a0_3] 27 (0, 0)) (by (with_reducible repeat (first | refine blk_drewN ?_ _ | refine blk_drew ?_ | refine blk_alloc ?_ _)); exact BK402.out)) : gb402 ≠ gb406))
                have n7_ := Aside0.mk ((by rw [hg]; exact Nat.ne_of_gt (blk_lt (g := gb402) (o := .cells #[.slice A0_0 l0_0.length c0_0, .int .i32 a0_1, .int .i64 a0_2, .int .u64 a0_3] 27 (0, 0)) (by (with_reducible repeat (first | refine blk_drewN ?_ _ | refine blk_drew ?_ | refine blk_alloc ?_ _)); exact BK402.out)) : gb406 ≠ gb402))
                have n8_ := Aside0.mk ((by rw [hg]; exact Nat.ne_of_lt (blk_lt (g := gb405) (o := .cells #[.int .i32 0, .int .i64 0, .int .u64 0] 25 (0, 0)) (by (with_reducible repeat (first | refine blk_drewN ?_ _ | refine blk_drew ?_ | refine blk_alloc ?_ _)); exact BK405.out)) : gb405 ≠ gb406))
                have n9_ := Aside0.mk ((by rw [hg]; exact Nat.ne_of_gt (blk_lt (g := gb405) (o := .cells #[.int .i32 0, .int .i64 0, .int .u64 0] 25 (0, 0)) (by (with_reducible repeat (first | refine blk_drewN ?_ _ | refine blk_drew ?_ | refine blk_alloc ?_ _)); exact BK405.out)) : gb406 ≠ gb405))
                clear BK402
                clear BK405
                clear HB
                have BK402 := n0_
                have BK405 := n1_
                have HB := n2_
                have BK406 := n3_
                have GW406 := n4_
                have GE406 := n5_
                have NB402_406 := n6_
                have NB406_402 := n7_
                have NB405_406 := n8_
                have NB406_405 := n9_
                clear n0_ n1_ n2_ n3_ n4_ n5_ n6_ n7_ n8_ n9_
                clear hb hbox hg
                refine hK.out _ _ ⟨(blk_cell BK402.out 0).trans rfl, (blk_cell BK402.out 1).trans rfl, (blk_cell BK402.out 2).trans rfl, (blk_cell BK402.out 3).trans rfl⟩ (fun hHeld => ?_)
                clear hK K
                refine norm_ (a' := ?_) ?_ ?_
                rotate_left
                · show Act.put _ (some 6) _ = _
                  simp only [Act.put, List.setIfInBounds_toArray, List.set_cons_zero, List.set_cons_succ, i64_w, i32_w]
                  rfl
                exact norm_ (by simp only [putAll, Act.put, List.setIfInBounds_toArray, List.set_cons_zero, List.set_cons_succ]) (hCont (gb405, gb406) _ ⟨hHeld, (by (with_reducible repeat (first | refine blk_drewN ?_ _ | refine blk_drew ?_ | refine blk_alloc ?_ _)); exact BK402.out), (by (with_reducible repeat (first | refine blk_drewN ?_ _ | refine blk_drew ?_ | refine blk_alloc ?_ _)); exact BK405.out), (by (with_reducible repeat (first | refine blk_drewN ?_ _ | refine blk_drew ?_ | refine blk_alloc ?_ _)); exact BK406.out), GW405.out, GE405.out, NB402_405.out, NB405_402.out, NB406_405.out, NB405_406.out, GW406.out, GE406.out, NB402_406.out, NB406_402.out, (by repeat (first | (with_reducible first | exact HB.out | apply below_alloc | apply pw_below_drewN | apply below_drew1 | refine below_set ?_ GE402.out | refine below_set ?_ GE405.out | refine below_set ?_ GE406.out) | exact HB.out))⟩)
              · skip
                refine box_step ?hg (N := 6) ?hd (cs := #[.int .i32 0, .int .i64 0, .int .u64 0]) (t := 25) ?hr ?_; (case hd => rfl); (case hg => rfl); (case hr => first | (go_simp; done) | (go_simp; rfl))
                intro gb406 hg w91 hbox hb
                have n0_ := Aside0.mk (blk_below (g := gb402) (o := .cells #[.slice A0_0 l0_0.length c0_0, .int .i32 a0_1, .int .i64 a0_2, .int .u64 a0_3] 27 (0, 0)) (by (with_reducible repeat (first | refine blk_drewN ?_ _ | refine blk_drew ?_ | refine blk_alloc ?_ _)); exact BK402.out) hb)
                have n1_ := Aside0.mk (below_step (by repeat (first | (with_reducible first | exact HB.out | apply below_alloc | apply pw_below_drewN | apply below_drew1 | refine below_set ?_ GE402.out) | exact HB.out)) hb)
                have n2_ := Aside0.mk (hbox)
                have n3_ := Aside0.mk ((by rw [hg]; exact (below_size (by repeat (first | (with_reducible first | exact HB.out | apply below_alloc | apply pw_below_drewN | apply below_drew1 | refine below_set ?_ GE402.out) | exact HB.out))) : w.heap.size ≤ gb406))
                have n4_ := Aside0.mk ((by rw [hg]; exact (below_size (by repeat (first | (with_reducible first | exact HB.out | apply below_alloc | apply pw_below_drewN | apply below_drew1 | refine below_set ?_ GE402.out) | exact HB.out))) : w.heap.size ≤ gb406))
                have n5_ := Aside0.mk ((by rw [hg]; exact Nat.ne_of_lt (blk_lt (g := gb402) (o := .cells #[.slice A0_0 l0_0.length c0_0, .int .i32 a0_1, .int .i64 a0_2, .int .u64 a0_3] 27 (0, 0)) (by (with_reducible repeat (first | refine blk_drewN ?_ _ | refine blk_drew ?_ | refine blk_alloc ?_ _)); exact BK402.out)) : gb402 ≠ gb406))
                have n6_ := Aside0.mk ((by rw [hg]; exact Nat.ne_of_gt (blk_lt (g := gb402) (o := .cells #[.slice A0_0 l0_0.length c0_0, .int .i32 a0_1, .int .i64 a0_2, .int .u64 a0_3] 27 (0, 0)) (by (with_reducible repeat (first | refine blk_drewN ?_ _ | refine blk_drew ?_ | refine blk_alloc ?_ _)); exact BK402.out)) : gb406 ≠ gb402))
                clear BK402
                clear HB
                have BK402 := n0_
                have HB := n1_
                have BK406 := n2_
                have GW406 := n3_
                have GE406 := n4_
                have NB402_406 := n5_
                have NB406_402 := n6_
                clear n0_ n1_ n2_ n3_ n4_ n5_ n6_
                clear hb hbox hg
                refine hK.out _ _ ⟨(blk_cell BK402.out 0).trans rfl, (blk_cell BK402.out 1).trans rfl, (blk_cell BK402.out 2).trans rfl, (blk_cell BK402.out 3).trans rfl⟩ (fun hHeld => ?_)
                clear hK K
                refine norm_ (a' := ?_) ?_ ?_
                rotate_left
                · show Act.put _ (some 6) _ = _
                  simp only [Act.put, List.setIfInBounds_toArray, List.set_cons_zero, List.set_cons_succ, i64_w, i32_w]
                  rfl
                refine one_ (i := 4) (N := some 5) #[true, true, true, true, true, true, false, false] rfl rfl (one_of HT_.out (by kernel_rfl)) (by decide) (fun K hK => ?_)
                refine box_step ?hg (N := 5) ?hd (cs := #[.int .i32 0, .int .i64 0, .int .u64 0]) (t := 25) ?hr ?_; (case hd => rfl); (case hg => rfl); (case hr => first | (go_simp; done) | (go_simp; rfl))
                intro gb405 hg w92 hbox hb
                have n0_ := Aside0.mk (blk_below (g := gb402) (o := .cells #[.slice A0_0 l0_0.length c0_0, .int .i32 a0_1, .int .i64 a0_2, .int .u64 a0_3] 27 (0, 0)) (by (with_reducible repeat (first | refine blk_drewN ?_ _ | refine blk_drew ?_ | refine blk_alloc ?_ _)); exact BK402.out) hb)
                have n1_ := Aside0.mk (blk_below (g := gb406) (o := .cells #[.int .i32 0, .int .i64 0, .int .u64 0] 25 (0, 0)) (by (with_reducible repeat (first | refine blk_drewN ?_ _ | refine blk_drew ?_ | refine blk_alloc ?_ _)); exact BK406.out) hb)
                have n2_ := Aside0.mk (below_step (by repeat (first | (with_reducible first | exact HB.out | apply below_alloc | apply pw_below_drewN | apply below_drew1 | refine below_set ?_ GE402.out | refine below_set ?_ GE406.out) | exact HB.out)) hb)
                have n3_ := Aside0.mk (hbox)
                have n4_ := Aside0.mk ((by rw [hg]; exact (below_size (by repeat (first | (with_reducible first | exact HB.out | apply below_alloc | apply pw_below_drewN | apply below_drew1 | refine below_set ?_ GE402.out | refine below_set ?_ GE406.out) | exact HB.out))) : w.heap.size ≤ gb405))
                have n5_ := Aside0.mk ((by rw [hg]; exact (below_size (by repeat (first | (with_reducible first | exact HB.out | apply below_alloc | apply pw_below_drewN | apply below_drew1 | refine below_set ?_ GE402.out | refine below_set ?_ GE406.out) | exact HB.out))) : w.heap.size ≤ gb405))
                have n6_ := Aside0.mk ((by rw [hg]; exact Nat.ne_of_lt (blk_lt (g := gb402) (o := .cells #[.slice A0_0 l0_0.length c0_0, .int .i32 a0_1, .int .i64 a0_2, .int .u64 a0_3] 27 (0, 0)) (by (with_reducible repeat (first | refine blk_drewN ?_ _ | refine blk_drew ?_ | refine blk_alloc ?_ _)); exact BK402.out)) : gb402 ≠ gb405))
                have n7_ := Aside0.mk ((by rw [hg]; exact Nat.ne_of_gt (blk_lt (g := gb402) (o := .cells #[.slice A0_0 l0_0.length c0_0, .int .i32 a0_1, .int .i64 a0_2, .int .u64 a0_3] 27 (0, 0)) (by (with_reducible repeat (first | refine blk_drewN ?_ _ | refine blk_drew ?_ | refine blk_alloc ?_ _)); exact BK402.out)) : gb405 ≠ gb402))
                have n8_ := Aside0.mk ((by rw [hg]; exact Nat.ne_of_lt (blk_lt (g := gb406) (o := .cells #[.int .i32 0, .int .i64 0, .int .u64 0] 25 (0, 0)) (by (with_reducible repeat (first | refine blk_drewN ?_ _ | refine blk_drew ?_ | refine blk_alloc ?_ _)); exact BK406.out)) : gb406 ≠ gb405))
                have n9_ := Aside0.mk ((by rw [hg]; exact Nat.ne_of_gt (blk_lt (g := gb406) (o := .cells #[.int .i32 0, .int .i64 0, .int .u64 0] 25 (0, 0)) (by (with_reducible repeat (first | refine blk_drewN ?_ _ | refine blk_drew ?_ | refine blk_alloc ?_ _)); exact BK406.out)) : gb405 ≠ gb406))
                clear BK402
                clear BK406
                clear HB
                have BK402 := n0_
                have BK406 := n1_
                have HB := n2_
                have BK405 := n3_
                have GW405 := n4_
                have GE405 := n5_
                have NB402_405 := n6_
                have NB405_402 := n7_
                have NB406_405 := n8_
                have NB405_406 := n9_
                clear n0_ n1_ n2_ n3_ n4_ n5_ n6_ n7_ n8_ n9_
                clear hb hbox hg
                refine hK.out _ _ ⟨(blk_cell BK402.out 0).trans rfl, (blk_cell BK402.out 1).trans rfl, (blk_cell BK402.out 2).trans rfl, (blk_cell BK402.out 3).trans rfl⟩ (fun hHeld => ?_)
                clear hK K
                refine norm_ (a' := ?_) ?_ ?_
                rotate_left
                · show Act.put _ (some 5) _ = _
                  simp only [Act.put, List.setIfInBounds_toArray, List.set_cons_zero, List.set_cons_succ, i64_w, i32_w]
                  rfl
                exact norm_ (by simp only [putAll, Act.put, List.setIfInBounds_toArray, List.set_cons_zero, List.set_cons_succ]) (hCont (gb405, gb406) _ ⟨hHeld, (by (with_reducible repeat (first | refine blk_drewN ?_ _ | refine blk_drew ?_ | refine blk_alloc ?_ _)); exact BK402.out), (by (with_reducible repeat (first | refine blk_drewN ?_ _ | refine blk_drew ?_ | refine blk_alloc ?_ _)); exact BK405.out), (by (with_reducible repeat (first | refine blk_drewN ?_ _ | refine blk_drew ?_ | refine blk_alloc ?_ _)); exact BK406.out), GW405.out, GE405.out, NB402_405.out, NB405_402.out, NB406_405.out, NB405_406.out, GW406.out, GE406.out, NB402_406.out, NB406_402.out, (by repeat (first | (with_reducible first | exact HB.out | apply below_alloc | apply pw_below_drewN | apply below_drew1 | refine below_set ?_ GE402.out | refine below_set ?_ GE406.out | refine below_set ?_ GE405.out) | exact HB.out))⟩)
            rintro ⟨gb405, gb406⟩ w93 ⟨hS_, h0_, h1_, h2_, h3_, h4_, h5_, h6_, h7_, h8_, h9_, h10_, h11_, h12_, h13_⟩
            have n0_ : Aside0 (w93.heap[gb402]? = some (.cells #[.slice A0_0 l0_0.length c0_0, .int .i32 a0_1, .int .i64 a0_2, .int .u64 a0_3] 27 (0, 0))) := ⟨h0_⟩
            have n1_ : Aside0 (w93.heap[gb405]? = some (.cells #[.int .i32 0, .int .i64 0, .int .u64 0] 25 (0, 0))) := ⟨h1_⟩
            have n2_ : Aside0 (w93.heap[gb406]? = some (.cells #[.int .i32 0, .int .i64 0, .int .u64 0] 25 (0, 0))) := ⟨h2_⟩
            have n3_ : Aside0 (w.heap.size ≤ gb405) := ⟨h3_⟩
            have n4_ : Aside0 (w.heap.size ≤ gb405) := ⟨h4_⟩
            have n5_ : Aside0 (gb402 ≠ gb405) := ⟨h5_⟩
            have n6_ : Aside0 (gb405 ≠ gb402) := ⟨h6_⟩
            have n7_ : Aside0 (gb406 ≠ gb405) := ⟨h7_⟩
            have n8_ : Aside0 (gb405 ≠ gb406) := ⟨h8_⟩
            have n9_ : Aside0 (w.heap.size ≤ gb406) := ⟨h9_⟩
            have n10_ : Aside0 (w.heap.size ≤ gb406) := ⟨h10_⟩
            have n11_ : Aside0 (gb402 ≠ gb406) := ⟨h11_⟩
            have n12_ : Aside0 (gb406 ≠ gb402) := ⟨h12_⟩
            have n13_ : Aside0 (Below w.heap.size w w93) := ⟨h13_⟩
            clear BK402
            clear HB
            clear h0_ h1_ h2_ h3_ h4_ h5_ h6_ h7_ h8_ h9_ h10_ h11_ h12_ h13_
            have BK402 := n0_
            have BK405 := n1_
            have BK406 := n2_
            have GW405 := n3_
            have GE405 := n4_
            have NB402_405 := n5_
            have NB405_402 := n6_
            have NB406_405 := n7_
            have NB405_406 := n8_
            have GW406 := n9_
            have GE406 := n10_
            have NB402_406 := n11_
            have NB406_402 := n12_
            have HB := n13_
            clear n0_ n1_ n2_ n3_ n4_ n5_ n6_ n7_ n8_ n9_ n10_ n11_ n12_ n13_
            have hHeld : w93.cell? ⟨gb402, 0, none⟩ = some (.slice A0_0 l0_0.length c0_0) ∧ w93.cell? ⟨gb402, 1, none⟩ = some (.int .i32 a0_1) ∧ w93.cell? ⟨gb402, 2, none⟩ = some (.int .i64 a0_2) ∧ w93.cell? ⟨gb402, 3, none⟩ = some (.int .u64 a0_3) := hS_
            refine norm_ (a' := ?_) ?_ ?_
            rotate_left
            · simp only [putAll, Act.put, List.setIfInBounds_toArray, List.set_cons_zero, List.set_cons_succ]
              rfl
            refine one_ (i := 6) (N := none) #[true, true, true, true, true, true, true, false] rfl rfl (one_of HT_.out (by kernel_rfl)) (by decide) (fun K hK => ?_)
            have hs94 : w93.cell? ⟨gb405, 0, none⟩ = some (.int .i32 0) := (blk_cell BK405.out 0).trans rfl
            have hfs94 := blk_frozen BK405.out 0
            have hns94_0 := NB402_405.out
            have hns94_2 := NB406_405.out
            have hms94_0 := NB405_402.out
            have hms94_2 := NB405_406.out
            have hs95 : w93.cell? ⟨gb405, 1, none⟩ = some (.int .i64 0) := (blk_cell BK405.out 1).trans rfl
            have hfs95 := blk_frozen BK405.out 1
            have hns95_0 := NB402_405.out
            have hns95_2 := NB406_405.out
            have hms95_0 := NB405_402.out
            have hms95_2 := NB405_406.out
            have hs96 : w93.cell? ⟨gb405, 2, none⟩ = some (.int .u64 0) := (blk_cell BK405.out 2).trans rfl
            have hfs96 := blk_frozen BK405.out 2
            have hns96_0 := NB402_405.out
            have hns96_2 := NB406_405.out
            have hms96_0 := NB405_402.out
            have hms96_2 := NB405_406.out
            refine skip_ (w1 := ?_) (by rfl) rfl ?_ ?_
            rotate_left
            · go_simp
              rfl
            refine hK.out _ _ ⟨((cell_far (p := ⟨gb405, _, none⟩) NB402_405.out _).trans (((cell_far (p := ⟨gb405, _, none⟩) NB402_405.out _).trans (((cell_far (p := ⟨gb405, _, none⟩) NB402_405.out _).trans (hHeld.1)))))), ((cell_far (p := ⟨gb405, _, none⟩) NB402_405.out _).trans (((cell_far (p := ⟨gb405, _, none⟩) NB402_405.out _).trans (((cell_far (p := ⟨gb405, _, none⟩) NB402_405.out _).trans (hHeld.2.1)))))), ((cell_far (p := ⟨gb405, _, none⟩) NB402_405.out _).trans (((cell_far (p := ⟨gb405, _, none⟩) NB402_405.out _).trans (((cell_far (p := ⟨gb405, _, none⟩) NB402_405.out _).trans (hHeld.2.2.1)))))), ((cell_far (p := ⟨gb405, _, none⟩) NB402_405.out _).trans (((cell_far (p := ⟨gb405, _, none⟩) NB402_405.out _).trans (((cell_far (p := ⟨gb405, _, none⟩) NB402_405.out _).trans (hHeld.2.2.2))))))⟩ (fun hHeld => ?_)
            clear hK K
            refine one_ (i := 7) (N := none) #[true, true, true, true, true, true, true, true] rfl rfl (one_of HT_.out (by kernel_rfl)) (by decide) (fun K hK => ?_)
            have hs97 : w93.cell? ⟨gb406, 0, none⟩ = some (.int .i32 0) := (blk_cell BK406.out 0).trans rfl
            have hfs97 := blk_frozen BK406.out 0
            have hns97_0 := NB402_406.out
            have hns97_1 := NB405_406.out
            have hms97_0 := NB406_402.out
            have hms97_1 := NB406_405.out
            have hs98 : w93.cell? ⟨gb406, 1, none⟩ = some (.int .i64 0) := (blk_cell BK406.out 1).trans rfl
            have hfs98 := blk_frozen BK406.out 1
            have hns98_0 := NB402_406.out
            have hns98_1 := NB405_406.out
            have hms98_0 := NB406_402.out
            have hms98_1 := NB406_405.out
            have hs99 : w93.cell? ⟨gb406, 2, none⟩ = some (.int .u64 0) := (blk_cell BK406.out 2).trans rfl
            have hfs99 := blk_frozen BK406.out 2
            have hns99_0 := NB402_406.out
            have hns99_1 := NB405_406.out
            have hms99_0 := NB406_402.out
            have hms99_1 := NB406_405.out
            refine skip_ (w1 := ?_) (by rfl) rfl ?_ ?_
            rotate_left
            · go_simp
              rfl
            refine hK.out _ _ ⟨((cell_far (p := ⟨gb406, _, none⟩) NB402_406.out _).trans (((cell_far (p := ⟨gb406, _, none⟩) NB402_406.out _).trans (((cell_far (p := ⟨gb406, _, none⟩) NB402_406.out _).trans (hHeld.1)))))), ((cell_far (p := ⟨gb406, _, none⟩) NB402_406.out _).trans (((cell_far (p := ⟨gb406, _, none⟩) NB402_406.out _).trans (((cell_far (p := ⟨gb406, _, none⟩) NB402_406.out _).trans (hHeld.2.1)))))), ((cell_far (p := ⟨gb406, _, none⟩) NB402_406.out _).trans (((cell_far (p := ⟨gb406, _, none⟩) NB402_406.out _).trans (((cell_far (p := ⟨gb406, _, none⟩) NB402_406.out _).trans (hHeld.2.2.1)))))), ((cell_far (p := ⟨gb406, _, none⟩) NB402_406.out _).trans (((cell_far (p := ⟨gb406, _, none⟩) NB402_406.out _).trans (((cell_far (p := ⟨gb406, _, none⟩) NB402_406.out _).trans (hHeld.2.2.2))))))⟩ (fun hHeld => ?_)
            clear hK K
            refine done_ (done_of HT_.out (by kernel_rfl)) ?_
            have hnb100 := NB405_402.out
            have hnc100 := NB402_405.out
            have hnb101 := NB405_406.out
            have hnc101 := NB406_405.out
            have hcz102_0 : w93.cell? ⟨gb405, 0, none⟩ = some (.int .i32 0) := (blk_cell BK405.out 0).trans rfl
            have hcz102_1 : w93.cell? ⟨gb405, 1, none⟩ = some (.int .i64 0) := (blk_cell BK405.out 1).trans rfl
            have hcz102_2 : w93.cell? ⟨gb405, 2, none⟩ = some (.int .u64 0) := (blk_cell BK405.out 2).trans rfl
            have hfz102_0 := blk_frozen BK405.out 0
            have hfz102_1 := blk_frozen BK405.out 1
            have hfz102_2 := blk_frozen BK405.out 2
            have hnb103 := NB406_402.out
            have hnc103 := NB402_406.out
            have hcz104_0 : w93.cell? ⟨gb406, 0, none⟩ = some (.int .i32 0) := (blk_cell BK406.out 0).trans rfl
            have hcz104_1 : w93.cell? ⟨gb406, 1, none⟩ = some (.int .i64 0) := (blk_cell BK406.out 1).trans rfl
            have hcz104_2 : w93.cell? ⟨gb406, 2, none⟩ = some (.int .u64 0) := (blk_cell BK406.out 2).trans rfl
            have hfz104_0 := blk_frozen BK406.out 0
            have hfz104_1 := blk_frozen BK406.out 1
            have hfz104_2 := blk_frozen BK406.out 2
            have hcz105_0 : w93.cell? ⟨gb402, 0, none⟩ = some (.slice A0_0 l0_0.length c0_0) := (blk_cell BK402.out 0).trans rfl
            have hcz105_1 : w93.cell? ⟨gb402, 1, none⟩ = some (.int .i32 a0_1) := (blk_cell BK402.out 1).trans rfl
            have hcz105_2 : w93.cell? ⟨gb402, 2, none⟩ = some (.int .i64 a0_2) := (blk_cell BK402.out 2).trans rfl
            have hcz105_3 : w93.cell? ⟨gb402, 3, none⟩ = some (.int .u64 a0_3) := (blk_cell BK402.out 3).trans rfl
            have hfz105_0 := blk_frozen BK402.out 0
            have hfz105_1 := blk_frozen BK402.out 1
            have hfz105_2 := blk_frozen BK402.out 2
            have hfz105_3 := blk_frozen BK402.out 3
            try go_wp2_with (first | ((with_reducible refine gate_callee (f := 9) rfl ?_); refine goesL_ (some 52) rfl rfl Try.func9 (by kernel_rfl) rfl #[.slice A0_0 l0_0.length c0_0, .agg #[.int .i32 0, .int .i64 a0_2, .int .u64 a0_3], .int .i64 a1] rfl (by (try simp only [List.map_toArray, List.map_cons, List.map_nil]); first | done | rfl | (simp only [List.length_drop, List.length_take]; rfl)) ?_; (with_reducible refine (pick_Pick.calls kj2 _ _ l0_0 0 a0_2 a0_3 a1 t407 t408 _ ?side1 ?side2 A18.out).mono ?_); (case side1 => exact Kd.C_below HR0_0.out (by repeat (first | (with_reducible first | exact HB.out | apply below_alloc | apply pw_below_drewN | apply below_drew1 | refine below_set ?_ GE402.out | refine below_set ?_ GE405.out | refine below_set ?_ GE406.out) | exact HB.out))); (case side2 => exact HC0_0.out); rintro e w106 ⟨rfl, hb⟩; refine ⟨_, rfl, ?_⟩; have n0_ := Aside0.mk (blk_below (g := gb402) (o := .cells #[.slice A0_0 l0_0.length c0_0, .int .i32 a0_1, .int .i64 a0_2, .int .u64 a0_3] 27 (0, 0)) (by (with_reducible repeat (first | refine blk_drewN ?_ _ | refine blk_drew ?_ | refine blk_alloc ?_ _)); refine blk_far ?_ NB402_406.out _; (with_reducible repeat (first | refine blk_drewN ?_ _ | refine blk_drew ?_ | refine blk_alloc ?_ _)); refine blk_far ?_ NB402_405.out _; (with_reducible repeat (first | refine blk_drewN ?_ _ | refine blk_drew ?_ | refine blk_alloc ?_ _)); refine blk_far ?_ NB402_406.out _; (with_reducible repeat (first | refine blk_drewN ?_ _ | refine blk_drew ?_ | refine blk_alloc ?_ _)); refine blk_far ?_ NB402_406.out _; (with_reducible repeat (first | refine blk_drewN ?_ _ | refine blk_drew ?_ | refine blk_alloc ?_ _)); refine blk_far ?_ NB402_406.out _; (with_reducible repeat (first | refine blk_drewN ?_ _ | refine blk_drew ?_ | refine blk_alloc ?_ _)); refine blk_far ?_ NB402_405.out _; (with_reducible repeat (first | refine blk_drewN ?_ _ | refine blk_drew ?_ | refine blk_alloc ?_ _)); refine blk_far ?_ NB402_405.out _; (with_reducible repeat (first | refine blk_drewN ?_ _ | refine blk_drew ?_ | refine blk_alloc ?_ _)); refine blk_far ?_ NB402_405.out _; (with_reducible repeat (first | refine blk_drewN ?_ _ | refine blk_drew ?_ | refine blk_alloc ?_ _)); exact BK402.out) hb); have n1_ := Aside0.mk (blk_below (g := gb405) (o := .cells #[.int .i32 0, .int .i64 a0_2, .int .u64 a0_3] 25 (0, 0)) (by (with_reducible repeat (first | refine blk_drewN ?_ _ | refine blk_drew ?_ | refine blk_alloc ?_ _)); refine blk_far ?_ NB405_406.out _; (with_reducible repeat (first | refine blk_drewN ?_ _ | refine blk_drew ?_ | refine blk_alloc ?_ _)); refine blk_put (cs := #[.int .i32 a0_1, .int .i64 a0_2, .int .u64 a0_3]) ?_ 0 _ rfl; (with_reducible repeat (first | refine blk_drewN ?_ _ | refine blk_drew ?_ | refine blk_alloc ?_ _)); refine blk_far ?_ NB405_406.out _; (with_reducible repeat (first | refine blk_drewN ?_ _ | refine blk_drew ?_ | refine blk_alloc ?_ _)); refine blk_far ?_ NB405_406.out _; (with_reducible repeat (first | refine blk_drewN ?_ _ | refine blk_drew ?_ | refine blk_alloc ?_ _)); refine blk_far ?_ NB405_406.out _; (with_reducible repeat (first | refine blk_drewN ?_ _ | refine blk_drew ?_ | refine blk_alloc ?_ _)); refine blk_put (cs := #[.int .i32 a0_1, .int .i64 a0_2, .int .u64 0]) ?_ 2 _ rfl; (with_reducible repeat (first | refine blk_drewN ?_ _ | refine blk_drew ?_ | refine blk_alloc ?_ _)); refine blk_put (cs := #[.int .i32 a0_1, .int .i64 0, .int .u64 0]) ?_ 1 _ rfl; (with_reducible repeat (first | refine blk_drewN ?_ _ | refine blk_drew ?_ | refine blk_alloc ?_ _)); refine blk_put (cs := #[.int .i32 0, .int .i64 0, .int .u64 0]) ?_ 0 _ rfl; (with_reducible repeat (first | refine blk_drewN ?_ _ | refine blk_drew ?_ | refine blk_alloc ?_ _)); exact BK405.out) hb); have n2_ := Aside0.mk (blk_below (g := gb406) (o := .cells #[.int .i32 a0_1, .int .i64 1, .int .u64 a0_3] 25 (0, 0)) (by (with_reducible repeat (first | refine blk_drewN ?_ _ | refine blk_drew ?_ | refine blk_alloc ?_ _)); refine blk_put (cs := #[.int .i32 a0_1, .int .i64 a0_2, .int .u64 a0_3]) ?_ 1 _ rfl; (with_reducible repeat (first | refine blk_drewN ?_ _ | refine blk_drew ?_ | refine blk_alloc ?_ _)); refine blk_far ?_ NB406_405.out _; (with_reducible repeat (first | refine blk_drewN ?_ _ | refine blk_drew ?_ | refine blk_alloc ?_ _)); refine blk_put (cs := #[.int .i32 a0_1, .int .i64 a0_2, .int .u64 0]) ?_ 2 _ rfl; (with_reducible repeat (first | refine blk_drewN ?_ _ | refine blk_drew ?_ | refine blk_alloc ?_ _)); refine blk_put (cs := #[.int .i32 a0_1, .int .i64 0, .int .u64 0]) ?_ 1 _ rfl; (with_reducible repeat (first | refine blk_drewN ?_ _ | refine blk_drew ?_ | refine blk_alloc ?_ _)); refine blk_put (cs := #[.int .i32 0, .int .i64 0, .int .u64 0]) ?_ 0 _ rfl; (with_reducible repeat (first | refine blk_drewN ?_ _ | refine blk_drew ?_ | refine blk_alloc ?_ _)); refine blk_far ?_ NB406_405.out _; (with_reducible repeat (first | refine blk_drewN ?_ _ | refine blk_drew ?_ | refine blk_alloc ?_ _)); refine blk_far ?_ NB406_405.out _; (with_reducible repeat (first | refine blk_drewN ?_ _ | refine blk_drew ?_ | refine blk_alloc ?_ _)); refine blk_far ?_ NB406_405.out _; (with_reducible repeat (first | refine blk_drewN ?_ _ | refine blk_drew ?_ | refine blk_alloc ?_ _)); exact BK406.out) hb); have n3_ := Aside0.mk (below_step (by repeat (first | (with_reducible first | exact HB.out | apply below_alloc | apply pw_below_drewN | apply below_drew1 | refine below_set ?_ GE402.out | refine below_set ?_ GE405.out | refine below_set ?_ GE406.out) | exact HB.out)) hb); clear BK402; clear BK405; clear BK406; clear HB; have BK402 := n0_; have BK405 := n1_; have BK406 := n2_; have HB := n3_; clear n0_ n1_ n2_ n3_; (try clear hb); (try clear hb2); (try clear hk); (try clear hi); have hcz107_0 : w106.cell? ⟨gb402, 0, none⟩ = some (.slice A0_0 l0_0.length c0_0) := (blk_cell BK402.out 0).trans rfl; have hcz107_1 : w106.cell? ⟨gb402, 1, none⟩ = some (.int .i32 a0_1) := (blk_cell BK402.out 1).trans rfl; have hcz107_2 : w106.cell? ⟨gb402, 2, none⟩ = some (.int .i64 a0_2) := (blk_cell BK402.out 2).trans rfl; have hcz107_3 : w106.cell? ⟨gb402, 3, none⟩ = some (.int .u64 a0_3) := (blk_cell BK402.out 3).trans rfl; have hfz107_0 := blk_frozen BK402.out 0; have hfz107_1 := blk_frozen BK402.out 1; have hfz107_2 := blk_frozen BK402.out 2; have hfz107_3 := blk_frozen BK402.out 3; have hcz108_0 : w106.cell? ⟨gb406, 0, none⟩ = some (.int .i32 a0_1) := (blk_cell BK406.out 0).trans rfl; have hcz108_1 : w106.cell? ⟨gb406, 1, none⟩ = some (.int .i64 1) := (blk_cell BK406.out 1).trans rfl; have hcz108_2 : w106.cell? ⟨gb406, 2, none⟩ = some (.int .u64 a0_3) := (blk_cell BK406.out 2).trans rfl; have hfz108_0 := blk_frozen BK406.out 0; have hfz108_1 := blk_frozen BK406.out 1; have hfz108_2 := blk_frozen BK406.out 2) | ((with_reducible refine gate_callee (f := 9) rfl ?_); refine goesL_ (some 60) rfl rfl Try.func9 (by kernel_rfl) rfl #[.slice A0_0 l0_0.length c0_0, .agg #[.int .i32 a0_1, .int .i64 1, .int .u64 a0_3], .int .i64 a1] rfl (by (try simp only [List.map_toArray, List.map_cons, List.map_nil]); first | done | rfl | (simp only [List.length_drop, List.length_take]; rfl)) ?_; (with_reducible refine (pick_Pick.calls kj2 _ _ l0_0 a0_1 1 a0_3 a1 t409 t410 _ ?side1 ?side2 A19.out).mono ?_); (case side1 => repeat (first | exact (Kd.C_below HR0_0.out HB.out) | (with_reducible refine Kd.C_alloc ?_ _) | (with_reducible refine Kd.C_drewN ?_ _) | (with_reducible refine Kd.C_drew ?_))); (case side2 => exact HC0_0.out); rintro e w109 ⟨rfl, hb⟩; refine ⟨_, rfl, ?_⟩; have n0_ := Aside0.mk (blk_below (g := gb402) (o := .cells #[.slice A0_0 l0_0.length c0_0, .int .i32 a0_1, .int .i64 a0_2, .int .u64 a0_3] 27 (0, 0)) (by (with_reducible repeat (first | refine blk_drewN ?_ _ | refine blk_drew ?_ | refine blk_alloc ?_ _)); exact BK402.out) hb); have n1_ := Aside0.mk (blk_below (g := gb405) (o := .cells #[.int .i32 0, .int .i64 a0_2, .int .u64 a0_3] 25 (0, 0)) (by (with_reducible repeat (first | refine blk_drewN ?_ _ | refine blk_drew ?_ | refine blk_alloc ?_ _)); exact BK405.out) hb); have n2_ := Aside0.mk (blk_below (g := gb406) (o := .cells #[.int .i32 a0_1, .int .i64 1, .int .u64 a0_3] 25 (0, 0)) (by (with_reducible repeat (first | refine blk_drewN ?_ _ | refine blk_drew ?_ | refine blk_alloc ?_ _)); exact BK406.out) hb); have n3_ := Aside0.mk (below_step (by repeat (first | (with_reducible first | exact HB.out | apply below_alloc | apply pw_below_drewN | apply below_drew1 | refine below_set ?_ GE402.out | refine below_set ?_ GE405.out | refine below_set ?_ GE406.out) | exact HB.out)) hb); clear BK402; clear BK405; clear BK406; clear HB; have BK402 := n0_; have BK405 := n1_; have BK406 := n2_; have HB := n3_; clear n0_ n1_ n2_ n3_; (try clear hb); (try clear hb2); (try clear hk); (try clear hi); have hcz110_0 : w109.cell? ⟨gb402, 0, none⟩ = some (.slice A0_0 l0_0.length c0_0) := (blk_cell BK402.out 0).trans rfl; have hcz110_1 : w109.cell? ⟨gb402, 1, none⟩ = some (.int .i32 a0_1) := (blk_cell BK402.out 1).trans rfl; have hcz110_2 : w109.cell? ⟨gb402, 2, none⟩ = some (.int .i64 a0_2) := (blk_cell BK402.out 2).trans rfl; have hcz110_3 : w109.cell? ⟨gb402, 3, none⟩ = some (.int .u64 a0_3) := (blk_cell BK402.out 3).trans rfl; have hfz110_0 := blk_frozen BK402.out 0; have hfz110_1 := blk_frozen BK402.out 1; have hfz110_2 := blk_frozen BK402.out 2; have hfz110_3 := blk_frozen BK402.out 3) | ((with_reducible refine gate_callee (f := 17) rfl ?_); refine goesL_ (some 65) rfl rfl Try.func17 (by kernel_rfl) rfl #[.slice A0_0 l0_0.length c0_0] rfl (by (try simp only [List.map_toArray, List.map_cons, List.map_nil]); first | done | rfl | (simp only [List.length_drop, List.length_take]; rfl)) ?_; (with_reducible refine (credenzaref03_Top.calls kj2 _ _ l0_0 t411 _ ?side1 ?side2 A20.out).mono ?_); (case side1 => repeat (first | exact (Kd.C_below HR0_0.out HB.out) | (with_reducible refine Kd.C_alloc ?_ _) | (with_reducible refine Kd.C_drewN ?_ _) | (with_reducible refine Kd.C_drew ?_))); (case side2 => exact HC0_0.out); rintro e w' ⟨rfl, ⟨nd, rfl⟩⟩; refine ⟨_, rfl, ?_⟩))
            go_ret
            exact ⟨by first | rfl | (simp [errW_none, errW_some] <;> rfl) | (simp [*, errW_none, errW_some] <;> rfl), by repeat (first | (with_reducible first | exact HB.out | apply below_alloc | apply pw_below_drewN | apply below_drew1 | refine below_set ?_ GE402.out | refine below_set ?_ GE405.out | refine below_set ?_ GE406.out) | exact HB.out)⟩
        · rw [if_neg c21] at H
          have c21b0 : (t408 == 0) = false := beq_eq_false_iff_ne.mpr c21
          have c21b1 : (t408 != 0) = true := bne_iff_ne.mpr c21
          obtain rfl := Option.some.inj H
          try go_wp2
          have n0_ := Aside0.mk (blk_drew BK402.out)
          have n1_ := Aside0.mk (below_drew1 HB.out)
          clear BK402
          clear HB
          have BK402 := n0_
          have HB := n1_
          clear n0_ n1_
          refine start_ (n := 8) (S := fun w' => w'.cell? ⟨gb402, 0, none⟩ = some (.slice A0_0 l0_0.length c0_0) ∧ w'.cell? ⟨gb402, 1, none⟩ = some (.int .i32 a0_1) ∧ w'.cell? ⟨gb402, 2, none⟩ = some (.int .i64 a0_2) ∧ w'.cell? ⟨gb402, 3, none⟩ = some (.int .u64 a0_3)) (ds := []) #[false, false, false, false, false, false, false, false] (by kernel_rfl) rfl rfl ⟨(blk_cell BK402.out 0).trans rfl, (blk_cell BK402.out 1).trans rfl, (blk_cell BK402.out 2).trans rfl, (blk_cell BK402.out 3).trans rfl⟩ (fun hHeld => ?_); refine with_tabW credenzalaw20_PickTops.tab3 credenzalaw20_PickTops.bits3 (fun HT_ HW_ => ?_)
          generalize wc.drew = w111 at BK402 HB hHeld ⊢
          refine pure_ (i := 0) (N := some 41) (v := ?_) (a' := ?_) #[true, false, false, false, false, false, false, false] rfl rfl (any_of HT_.out (by kernel_rfl)) (fun _ _ _ h => h) (Or.inl ⟨by rfl, ?_⟩) ?_ ?_
          rotate_left
          · intro w'
            go_simp
            with_reducible rfl
          rotate_left
          · simp only [Act.put, List.setIfInBounds_toArray, List.set_cons_zero, List.set_cons_succ, i64_w, i32_w]
            rfl
          refine pure_ (i := 2) (N := some 43) (v := ?_) (a' := ?_) #[true, false, true, false, false, false, false, false] rfl rfl (any_of HT_.out (by kernel_rfl)) (fun _ _ _ h => h) (Or.inl ⟨by rfl, ?_⟩) ?_ ?_
          rotate_left
          · intro w'
            go_simp
            with_reducible rfl
          rotate_left
          · simp only [Act.put, List.setIfInBounds_toArray, List.set_cons_zero, List.set_cons_succ, i64_w, i32_w]
            rfl
          refine take_ (i := 1) (N := some 42) (v := ?_) (a' := ?_) #[true, true, true, false, false, false, false, false] rfl rfl (take_ofW HT_.out HW_.out (by kernel_rfl)) (fun _ _ _ h => h) (Or.inl ⟨by rfl, ?_⟩) hHeld ?_ ?_
          rotate_left
          · rintro w' ⟨s0, s1, s2, s3⟩
            go_simp
            with_reducible rfl
          rotate_left
          · simp only [Act.put, List.setIfInBounds_toArray, List.set_cons_zero, List.set_cons_succ, i64_w, i32_w]
            rfl
          refine take_ (i := 3) (N := some 44) (v := ?_) (a' := ?_) #[true, true, true, true, false, false, false, false] rfl rfl (take_ofW HT_.out HW_.out (by kernel_rfl)) (fun _ _ _ h => h) (Or.inl ⟨by rfl, ?_⟩) hHeld ?_ ?_
          rotate_left
          · rintro w' ⟨s0, s1, s2, s3⟩
            go_simp
            with_reducible rfl
          rotate_left
          · simp only [Act.put, List.setIfInBounds_toArray, List.set_cons_zero, List.set_cons_succ, i64_w, i32_w]
            rfl
          refine join_ (σ := Nat × Nat) 2 #[true, true, true, true, true, true, false, false] (fun s_ => [(5, .pointer (some ⟨s_.1, 0, none⟩)), (6, .pointer (some ⟨s_.2, 0, none⟩))]) (fun s_ w' => (w'.cell? ⟨gb402, 0, none⟩ = some (.slice A0_0 l0_0.length c0_0) ∧ w'.cell? ⟨gb402, 1, none⟩ = some (.int .i32 a0_1) ∧ w'.cell? ⟨gb402, 2, none⟩ = some (.int .i64 a0_2) ∧ w'.cell? ⟨gb402, 3, none⟩ = some (.int .u64 a0_3)) ∧ (w'.heap[gb402]? = some (.cells #[.slice A0_0 l0_0.length c0_0, .int .i32 a0_1, .int .i64 a0_2, .int .u64 a0_3] 27 (0, 0))) ∧ (w'.heap[s_.1]? = some (.cells #[.int .i32 0, .int .i64 0, .int .u64 0] 25 (0, 0))) ∧ (w'.heap[s_.2]? = some (.cells #[.int .i32 0, .int .i64 0, .int .u64 0] 25 (0, 0))) ∧ (w.heap.size ≤ s_.1) ∧ (w.heap.size ≤ s_.1) ∧ (gb402 ≠ s_.1) ∧ (s_.1 ≠ gb402) ∧ (s_.2 ≠ s_.1) ∧ (s_.1 ≠ s_.2) ∧ (w.heap.size ≤ s_.2) ∧ (w.heap.size ≤ s_.2) ∧ (gb402 ≠ s_.2) ∧ (s_.2 ≠ gb402) ∧ (Below w.heap.size w w')) ?_ ?_
          rotate_left
          · intro hCont
            refine two_ (i := 4) (j := 5) (Ni := some 5) (Nj := some 6) #[true, true, true, true, true, false, false, false] #[true, true, true, true, false, true, false, false] rfl rfl rfl rfl (two_of HT_.out (by kernel_rfl)) (by decide) (by decide) (fun K hK => ?_) (fun K hK => ?_)
            · skip
              refine box_step ?hg (N := 5) ?hd (cs := #[.int .i32 0, .int .i64 0, .int .u64 0]) (t := 25) ?hr ?_; (case hd => rfl); (case hg => rfl); (case hr => first | (go_simp; done) | (go_simp; rfl))
              intro gb405 hg w112 hbox hb
              have n0_ := Aside0.mk (blk_below (g := gb402) (o := .cells #[.slice A0_0 l0_0.length c0_0, .int .i32 a0_1, .int .i64 a0_2, .int .u64 a0_3] 27 (0, 0)) (by (with_reducible repeat (first | refine blk_drewN ?_ _ | refine blk_drew ?_ | refine blk_alloc ?_ _)); exact BK402.out) hb)
              have n1_ := Aside0.mk (below_step (by repeat (first | (with_reducible first | exact HB.out | apply below_alloc | apply pw_below_drewN | apply below_drew1 | refine below_set ?_ GE402.out) | exact HB.out)) hb)
              have n2_ := Aside0.mk (hbox)
              have n3_ := Aside0.mk ((by rw [hg]; exact (below_size (by repeat (first | (with_reducible first | exact HB.out | apply below_alloc | apply pw_below_drewN | apply below_drew1 | refine below_set ?_ GE402.out) | exact HB.out))) : w.heap.size ≤ gb405))
              have n4_ := Aside0.mk ((by rw [hg]; exact (below_size (by repeat (first | (with_reducible first | exact HB.out | apply below_alloc | apply pw_below_drewN | apply below_drew1 | refine below_set ?_ GE402.out) | exact HB.out))) : w.heap.size ≤ gb405))
              have n5_ := Aside0.mk ((by rw [hg]; exact Nat.ne_of_lt (blk_lt (g := gb402) (o := .cells #[.slice A0_0 l0_0.length c0_0, .int .i32 a0_1, .int .i64 a0_2, .int .u64 a0_3] 27 (0, 0)) (by (with_reducible repeat (first | refine blk_drewN ?_ _ | refine blk_drew ?_ | refine blk_alloc ?_ _)); exact BK402.out)) : gb402 ≠ gb405))
              have n6_ := Aside0.mk ((by rw [hg]; exact Nat.ne_of_gt (blk_lt (g := gb402) (o := .cells #[.slice A0_0 l0_0.length c0_0, .int .i32 a0_1, .int .i64 a0_2, .int .u64 a0_3] 27 (0, 0)) (by (with_reducible repeat (first | refine blk_drewN ?_ _ | refine blk_drew ?_ | refine blk_alloc ?_ _)); exact BK402.out)) : gb405 ≠ gb402))
              clear BK402
              clear HB
              have BK402 := n0_
              have HB := n1_
              have BK405 := n2_
              have GW405 := n3_
              have GE405 := n4_
              have NB402_405 := n5_
              have NB405_402 := n6_
              clear n0_ n1_ n2_ n3_ n4_ n5_ n6_
              clear hb hbox hg
              refine hK.out _ _ ⟨(blk_cell BK402.out 0).trans rfl, (blk_cell BK402.out 1).trans rfl, (blk_cell BK402.out 2).trans rfl, (blk_cell BK402.out 3).trans rfl⟩ (fun hHeld => ?_)
              clear hK K
              refine norm_ (a' := ?_) ?_ ?_
              rotate_left
              · show Act.put _ (some 5) _ = _
                simp only [Act.put, List.setIfInBounds_toArray, List.set_cons_zero, List.set_cons_succ, i64_w, i32_w]
                rfl
              refine one_ (i := 5) (N := some 6) #[true, true, true, true, true, true, false, false] rfl rfl (one_of HT_.out (by kernel_rfl)) (by decide) (fun K hK => ?_)
              refine box_step ?hg (N := 6) ?hd (cs := #[.int .i32 0, .int .i64 0, .int .u64 0]) (t := 25) ?hr ?_; (case hd => rfl); (case hg => rfl); (case hr => first | (go_simp; done) | (go_simp; rfl))
              intro gb406 hg w113 hbox hb
              have n0_ := Aside0.mk (blk_below (g := gb402) (o := .cells #[.slice A0_0 l0_0.length c0_0, .int .i32 a0_1, .int .i64 a0_2, .int .u64 a0_3] 27 (0, 0)) (by (with_reducible repeat (first | refine blk_drewN ?_ _ | refine blk_drew ?_ | refine blk_alloc ?_ _)); exact BK402.out) hb)
              have n1_ := Aside0.mk (blk_below (g := gb405) (o := .cells #[.int .i32 0, .int .i64 0, .int .u64 0] 25 (0, 0)) (by (with_reducible repeat (first | refine blk_drewN ?_ _ | refine blk_drew ?_ | refine blk_alloc ?_ _)); exact BK405.out) hb)
              have n2_ := Aside0.mk (below_step (by repeat (first | (with_reducible first | exact HB.out | apply below_alloc | apply pw_below_drewN | apply below_drew1 | refine below_set ?_ GE402.out | refine below_set ?_ GE405.out) | exact HB.out)) hb)
              have n3_ := Aside0.mk (hbox)
              have n4_ := Aside0.mk ((by rw [hg]; exact (below_size (by repeat (first | (with_reducible first | exact HB.out | apply below_alloc | apply pw_below_drewN | apply below_drew1 | refine below_set ?_ GE402.out | refine below_set ?_ GE405.out) | exact HB.out))) : w.heap.size ≤ gb406))
              have n5_ := Aside0.mk ((by rw [hg]; exact (below_size (by repeat (first | (with_reducible first | exact HB.out | apply below_alloc | apply pw_below_drewN | apply below_drew1 | refine below_set ?_ GE402.out | refine below_set ?_ GE405.out) | exact HB.out))) : w.heap.size ≤ gb406))
              have n6_ := Aside0.mk ((by rw [hg]; exact Nat.ne_of_lt (blk_lt (g := gb402) (o := .cells #[.slice A0_0 l0_0.length c0_0, .int .i32 a0_1, .int .i64 a0_2, .int .u64 a0_3] 27 (0, 0)) (by (with_reducible repeat (first | refine blk_drewN ?_ _ | refine blk_drew ?_ | refine blk_alloc ?_ _)); exact BK402.out)) : gb402 ≠ gb406))
              have n7_ := Aside0.mk ((by rw [hg]; exact Nat.ne_of_gt (blk_lt (g := gb402) (o := .cells #[.slice A0_0 l0_0.length c0_0, .int .i32 a0_1, .int .i64 a0_2, .int .u64 a0_3] 27 (0, 0)) (by (with_reducible repeat (first | refine blk_drewN ?_ _ | refine blk_drew ?_ | refine blk_alloc ?_ _)); exact BK402.out)) : gb406 ≠ gb402))
              have n8_ := Aside0.mk ((by rw [hg]; exact Nat.ne_of_lt (blk_lt (g := gb405) (o := .cells #[.int .i32 0, .int .i64 0, .int .u64 0] 25 (0, 0)) (by (with_reducible repeat (first | refine blk_drewN ?_ _ | refine blk_drew ?_ | refine blk_alloc ?_ _)); exact BK405.out)) : gb405 ≠ gb406))
              have n9_ := Aside0.mk ((by rw [hg]; exact Nat.ne_of_gt (blk_lt (g := gb405) (o := .cells #[.int .i32 0, .int .i64 0, .int .u64 0] 25 (0, 0)) (by (with_reducible repeat (first | refine blk_drewN ?_ _ | refine blk_drew ?_ | refine blk_alloc ?_ _)); exact BK405.out)) : gb406 ≠ gb405))
              clear BK402
              clear BK405
              clear HB
              have BK402 := n0_
              have BK405 := n1_
              have HB := n2_
              have BK406 := n3_
              have GW406 := n4_
              have GE406 := n5_
              have NB402_406 := n6_
              have NB406_402 := n7_
              have NB405_406 := n8_
              have NB406_405 := n9_
              clear n0_ n1_ n2_ n3_ n4_ n5_ n6_ n7_ n8_ n9_
              clear hb hbox hg
              refine hK.out _ _ ⟨(blk_cell BK402.out 0).trans rfl, (blk_cell BK402.out 1).trans rfl, (blk_cell BK402.out 2).trans rfl, (blk_cell BK402.out 3).trans rfl⟩ (fun hHeld => ?_)
              clear hK K
              refine norm_ (a' := ?_) ?_ ?_
              rotate_left
              · show Act.put _ (some 6) _ = _
                simp only [Act.put, List.setIfInBounds_toArray, List.set_cons_zero, List.set_cons_succ, i64_w, i32_w]
                rfl
              exact norm_ (by simp only [putAll, Act.put, List.setIfInBounds_toArray, List.set_cons_zero, List.set_cons_succ]) (hCont (gb405, gb406) _ ⟨hHeld, (by (with_reducible repeat (first | refine blk_drewN ?_ _ | refine blk_drew ?_ | refine blk_alloc ?_ _)); exact BK402.out), (by (with_reducible repeat (first | refine blk_drewN ?_ _ | refine blk_drew ?_ | refine blk_alloc ?_ _)); exact BK405.out), (by (with_reducible repeat (first | refine blk_drewN ?_ _ | refine blk_drew ?_ | refine blk_alloc ?_ _)); exact BK406.out), GW405.out, GE405.out, NB402_405.out, NB405_402.out, NB406_405.out, NB405_406.out, GW406.out, GE406.out, NB402_406.out, NB406_402.out, (by repeat (first | (with_reducible first | exact HB.out | apply below_alloc | apply pw_below_drewN | apply below_drew1 | refine below_set ?_ GE402.out | refine below_set ?_ GE405.out | refine below_set ?_ GE406.out) | exact HB.out))⟩)
            · skip
              refine box_step ?hg (N := 6) ?hd (cs := #[.int .i32 0, .int .i64 0, .int .u64 0]) (t := 25) ?hr ?_; (case hd => rfl); (case hg => rfl); (case hr => first | (go_simp; done) | (go_simp; rfl))
              intro gb406 hg w112 hbox hb
              have n0_ := Aside0.mk (blk_below (g := gb402) (o := .cells #[.slice A0_0 l0_0.length c0_0, .int .i32 a0_1, .int .i64 a0_2, .int .u64 a0_3] 27 (0, 0)) (by (with_reducible repeat (first | refine blk_drewN ?_ _ | refine blk_drew ?_ | refine blk_alloc ?_ _)); exact BK402.out) hb)
              have n1_ := Aside0.mk (below_step (by repeat (first | (with_reducible first | exact HB.out | apply below_alloc | apply pw_below_drewN | apply below_drew1 | refine below_set ?_ GE402.out) | exact HB.out)) hb)
              have n2_ := Aside0.mk (hbox)
              have n3_ := Aside0.mk ((by rw [hg]; exact (below_size (by repeat (first | (with_reducible first | exact HB.out | apply below_alloc | apply pw_below_drewN | apply below_drew1 | refine below_set ?_ GE402.out) | exact HB.out))) : w.heap.size ≤ gb406))
              have n4_ := Aside0.mk ((by rw [hg]; exact (below_size (by repeat (first | (with_reducible first | exact HB.out | apply below_alloc | apply pw_below_drewN | apply below_drew1 | refine below_set ?_ GE402.out) | exact HB.out))) : w.heap.size ≤ gb406))
              have n5_ := Aside0.mk ((by rw [hg]; exact Nat.ne_of_lt (blk_lt (g := gb402) (o := .cells #[.slice A0_0 l0_0.length c0_0, .int .i32 a0_1, .int .i64 a0_2, .int .u64 a0_3] 27 (0, 0)) (by (with_reducible repeat (first | refine blk_drewN ?_ _ | refine blk_drew ?_ | refine blk_alloc ?_ _)); exact BK402.out)) : gb402 ≠ gb406))
              have n6_ := Aside0.mk ((by rw [hg]; exact Nat.ne_of_gt (blk_lt (g := gb402) (o := .cells #[.slice A0_0 l0_0.length c0_0, .int .i32 a0_1, .int .i64 a0_2, .int .u64 a0_3] 27 (0, 0)) (by (with_reducible repeat (first | refine blk_drewN ?_ _ | refine blk_drew ?_ | refine blk_alloc ?_ _)); exact BK402.out)) : gb406 ≠ gb402))
              clear BK402
              clear HB
              have BK402 := n0_
              have HB := n1_
              have BK406 := n2_
              have GW406 := n3_
              have GE406 := n4_
              have NB402_406 := n5_
              have NB406_402 := n6_
              clear n0_ n1_ n2_ n3_ n4_ n5_ n6_
              clear hb hbox hg
              refine hK.out _ _ ⟨(blk_cell BK402.out 0).trans rfl, (blk_cell BK402.out 1).trans rfl, (blk_cell BK402.out 2).trans rfl, (blk_cell BK402.out 3).trans rfl⟩ (fun hHeld => ?_)
              clear hK K
              refine norm_ (a' := ?_) ?_ ?_
              rotate_left
              · show Act.put _ (some 6) _ = _
                simp only [Act.put, List.setIfInBounds_toArray, List.set_cons_zero, List.set_cons_succ, i64_w, i32_w]
                rfl
              refine one_ (i := 4) (N := some 5) #[true, true, true, true, true, true, false, false] rfl rfl (one_of HT_.out (by kernel_rfl)) (by decide) (fun K hK => ?_)
              refine box_step ?hg (N := 5) ?hd (cs := #[.int .i32 0, .int .i64 0, .int .u64 0]) (t := 25) ?hr ?_; (case hd => rfl); (case hg => rfl); (case hr => first | (go_simp; done) | (go_simp; rfl))
              intro gb405 hg w113 hbox hb
              have n0_ := Aside0.mk (blk_below (g := gb402) (o := .cells #[.slice A0_0 l0_0.length c0_0, .int .i32 a0_1, .int .i64 a0_2, .int .u64 a0_3] 27 (0, 0)) (by (with_reducible repeat (first | refine blk_drewN ?_ _ | refine blk_drew ?_ | refine blk_alloc ?_ _)); exact BK402.out) hb)
              have n1_ := Aside0.mk (blk_below (g := gb406) (o := .cells #[.int .i32 0, .int .i64 0, .int .u64 0] 25 (0, 0)) (by (with_reducible repeat (first | refine blk_drewN ?_ _ | refine blk_drew ?_ | refine blk_alloc ?_ _)); exact BK406.out) hb)
              have n2_ := Aside0.mk (below_step (by repeat (first | (with_reducible first | exact HB.out | apply below_alloc | apply pw_below_drewN | apply below_drew1 | refine below_set ?_ GE402.out | refine below_set ?_ GE406.out) | exact HB.out)) hb)
              have n3_ := Aside0.mk (hbox)
              have n4_ := Aside0.mk ((by rw [hg]; exact (below_size (by repeat (first | (with_reducible first | exact HB.out | apply below_alloc | apply pw_below_drewN | apply below_drew1 | refine below_set ?_ GE402.out | refine below_set ?_ GE406.out) | exact HB.out))) : w.heap.size ≤ gb405))
              have n5_ := Aside0.mk ((by rw [hg]; exact (below_size (by repeat (first | (with_reducible first | exact HB.out | apply below_alloc | apply pw_below_drewN | apply below_drew1 | refine below_set ?_ GE402.out | refine below_set ?_ GE406.out) | exact HB.out))) : w.heap.size ≤ gb405))
              have n6_ := Aside0.mk ((by rw [hg]; exact Nat.ne_of_lt (blk_lt (g := gb402) (o := .cells #[.slice A0_0 l0_0.length c0_0, .int .i32 a0_1, .int .i64 a0_2, .int .u64 a0_3] 27 (0, 0)) (by (with_reducible repeat (first | refine blk_drewN ?_ _ | refine blk_drew ?_ | refine blk_alloc ?_ _)); exact BK402.out)) : gb402 ≠ gb405))
              have n7_ := Aside0.mk ((by rw [hg]; exact Nat.ne_of_gt (blk_lt (g := gb402) (o := .cells #[.slice A0_0 l0_0.length c0_0, .int .i32 a0_1, .int .i64 a0_2, .int .u64 a0_3] 27 (0, 0)) (by (with_reducible repeat (first | refine blk_drewN ?_ _ | refine blk_drew ?_ | refine blk_alloc ?_ _)); exact BK402.out)) : gb405 ≠ gb402))
              have n8_ := Aside0.mk ((by rw [hg]; exact Nat.ne_of_lt (blk_lt (g := gb406) (o := .cells #[.int .i32 0, .int .i64 0, .int .u64 0] 25 (0, 0)) (by (with_reducible repeat (first | refine blk_drewN ?_ _ | refine blk_drew ?_ | refine blk_alloc ?_ _)); exact BK406.out)) : gb406 ≠ gb405))
              have n9_ := Aside0.mk ((by rw [hg]; exact Nat.ne_of_gt (blk_lt (g := gb406) (o := .cells #[.int .i32 0, .int .i64 0, .int .u64 0] 25 (0, 0)) (by (with_reducible repeat (first | refine blk_drewN ?_ _ | refine blk_drew ?_ | refine blk_alloc ?_ _)); exact BK406.out)) : gb405 ≠ gb406))
              clear BK402
              clear BK406
              clear HB
              have BK402 := n0_
              have BK406 := n1_
              have HB := n2_
              have BK405 := n3_
              have GW405 := n4_
              have GE405 := n5_
              have NB402_405 := n6_
              have NB405_402 := n7_
              have NB406_405 := n8_
              have NB405_406 := n9_
              clear n0_ n1_ n2_ n3_ n4_ n5_ n6_ n7_ n8_ n9_
              clear hb hbox hg
              refine hK.out _ _ ⟨(blk_cell BK402.out 0).trans rfl, (blk_cell BK402.out 1).trans rfl, (blk_cell BK402.out 2).trans rfl, (blk_cell BK402.out 3).trans rfl⟩ (fun hHeld => ?_)
              clear hK K
              refine norm_ (a' := ?_) ?_ ?_
              rotate_left
              · show Act.put _ (some 5) _ = _
                simp only [Act.put, List.setIfInBounds_toArray, List.set_cons_zero, List.set_cons_succ, i64_w, i32_w]
                rfl
              exact norm_ (by simp only [putAll, Act.put, List.setIfInBounds_toArray, List.set_cons_zero, List.set_cons_succ]) (hCont (gb405, gb406) _ ⟨hHeld, (by (with_reducible repeat (first | refine blk_drewN ?_ _ | refine blk_drew ?_ | refine blk_alloc ?_ _)); exact BK402.out), (by (with_reducible repeat (first | refine blk_drewN ?_ _ | refine blk_drew ?_ | refine blk_alloc ?_ _)); exact BK405.out), (by (with_reducible repeat (first | refine blk_drewN ?_ _ | refine blk_drew ?_ | refine blk_alloc ?_ _)); exact BK406.out), GW405.out, GE405.out, NB402_405.out, NB405_402.out, NB406_405.out, NB405_406.out, GW406.out, GE406.out, NB402_406.out, NB406_402.out, (by repeat (first | (with_reducible first | exact HB.out | apply below_alloc | apply pw_below_drewN | apply below_drew1 | refine below_set ?_ GE402.out | refine below_set ?_ GE406.out | refine below_set ?_ GE405.out) | exact HB.out))⟩)
          rintro ⟨gb405, gb406⟩ w114 ⟨hS_, h0_, h1_, h2_, h3_, h4_, h5_, h6_, h7_, h8_, h9_, h10_, h11_, h12_, h13_⟩
          have n0_ : Aside0 (w114.heap[gb402]? = some (.cells #[.slice A0_0 l0_0.length c0_0, .int .i32 a0_1, .int .i64 a0_2, .int .u64 a0_3] 27 (0, 0))) := ⟨h0_⟩
          have n1_ : Aside0 (w114.heap[gb405]? = some (.cells #[.int .i32 0, .int .i64 0, .int .u64 0] 25 (0, 0))) := ⟨h1_⟩
          have n2_ : Aside0 (w114.heap[gb406]? = some (.cells #[.int .i32 0, .int .i64 0, .int .u64 0] 25 (0, 0))) := ⟨h2_⟩
          have n3_ : Aside0 (w.heap.size ≤ gb405) := ⟨h3_⟩
          have n4_ : Aside0 (w.heap.size ≤ gb405) := ⟨h4_⟩
          have n5_ : Aside0 (gb402 ≠ gb405) := ⟨h5_⟩
          have n6_ : Aside0 (gb405 ≠ gb402) := ⟨h6_⟩
          have n7_ : Aside0 (gb406 ≠ gb405) := ⟨h7_⟩
          have n8_ : Aside0 (gb405 ≠ gb406) := ⟨h8_⟩
          have n9_ : Aside0 (w.heap.size ≤ gb406) := ⟨h9_⟩
          have n10_ : Aside0 (w.heap.size ≤ gb406) := ⟨h10_⟩
          have n11_ : Aside0 (gb402 ≠ gb406) := ⟨h11_⟩
          have n12_ : Aside0 (gb406 ≠ gb402) := ⟨h12_⟩
          have n13_ : Aside0 (Below w.heap.size w w114) := ⟨h13_⟩
          clear BK402
          clear HB
          clear h0_ h1_ h2_ h3_ h4_ h5_ h6_ h7_ h8_ h9_ h10_ h11_ h12_ h13_
          have BK402 := n0_
          have BK405 := n1_
          have BK406 := n2_
          have GW405 := n3_
          have GE405 := n4_
          have NB402_405 := n5_
          have NB405_402 := n6_
          have NB406_405 := n7_
          have NB405_406 := n8_
          have GW406 := n9_
          have GE406 := n10_
          have NB402_406 := n11_
          have NB406_402 := n12_
          have HB := n13_
          clear n0_ n1_ n2_ n3_ n4_ n5_ n6_ n7_ n8_ n9_ n10_ n11_ n12_ n13_
          have hHeld : w114.cell? ⟨gb402, 0, none⟩ = some (.slice A0_0 l0_0.length c0_0) ∧ w114.cell? ⟨gb402, 1, none⟩ = some (.int .i32 a0_1) ∧ w114.cell? ⟨gb402, 2, none⟩ = some (.int .i64 a0_2) ∧ w114.cell? ⟨gb402, 3, none⟩ = some (.int .u64 a0_3) := hS_
          refine norm_ (a' := ?_) ?_ ?_
          rotate_left
          · simp only [putAll, Act.put, List.setIfInBounds_toArray, List.set_cons_zero, List.set_cons_succ]
            rfl
          refine one_ (i := 6) (N := none) #[true, true, true, true, true, true, true, false] rfl rfl (one_of HT_.out (by kernel_rfl)) (by decide) (fun K hK => ?_)
          have hs115 : w114.cell? ⟨gb405, 0, none⟩ = some (.int .i32 0) := (blk_cell BK405.out 0).trans rfl
          have hfs115 := blk_frozen BK405.out 0
          have hns115_0 := NB402_405.out
          have hns115_2 := NB406_405.out
          have hms115_0 := NB405_402.out
          have hms115_2 := NB405_406.out
          have hs116 : w114.cell? ⟨gb405, 1, none⟩ = some (.int .i64 0) := (blk_cell BK405.out 1).trans rfl
          have hfs116 := blk_frozen BK405.out 1
          have hns116_0 := NB402_405.out
          have hns116_2 := NB406_405.out
          have hms116_0 := NB405_402.out
          have hms116_2 := NB405_406.out
          have hs117 : w114.cell? ⟨gb405, 2, none⟩ = some (.int .u64 0) := (blk_cell BK405.out 2).trans rfl
          have hfs117 := blk_frozen BK405.out 2
          have hns117_0 := NB402_405.out
          have hns117_2 := NB406_405.out
          have hms117_0 := NB405_402.out
          have hms117_2 := NB405_406.out
          refine skip_ (w1 := ?_) (by rfl) rfl ?_ ?_
          rotate_left
          · go_simp
            rfl
          refine hK.out _ _ ⟨((cell_far (p := ⟨gb405, _, none⟩) NB402_405.out _).trans (((cell_far (p := ⟨gb405, _, none⟩) NB402_405.out _).trans (((cell_far (p := ⟨gb405, _, none⟩) NB402_405.out _).trans (hHeld.1)))))), ((cell_far (p := ⟨gb405, _, none⟩) NB402_405.out _).trans (((cell_far (p := ⟨gb405, _, none⟩) NB402_405.out _).trans (((cell_far (p := ⟨gb405, _, none⟩) NB402_405.out _).trans (hHeld.2.1)))))), ((cell_far (p := ⟨gb405, _, none⟩) NB402_405.out _).trans (((cell_far (p := ⟨gb405, _, none⟩) NB402_405.out _).trans (((cell_far (p := ⟨gb405, _, none⟩) NB402_405.out _).trans (hHeld.2.2.1)))))), ((cell_far (p := ⟨gb405, _, none⟩) NB402_405.out _).trans (((cell_far (p := ⟨gb405, _, none⟩) NB402_405.out _).trans (((cell_far (p := ⟨gb405, _, none⟩) NB402_405.out _).trans (hHeld.2.2.2))))))⟩ (fun hHeld => ?_)
          clear hK K
          refine one_ (i := 7) (N := none) #[true, true, true, true, true, true, true, true] rfl rfl (one_of HT_.out (by kernel_rfl)) (by decide) (fun K hK => ?_)
          have hs118 : w114.cell? ⟨gb406, 0, none⟩ = some (.int .i32 0) := (blk_cell BK406.out 0).trans rfl
          have hfs118 := blk_frozen BK406.out 0
          have hns118_0 := NB402_406.out
          have hns118_1 := NB405_406.out
          have hms118_0 := NB406_402.out
          have hms118_1 := NB406_405.out
          have hs119 : w114.cell? ⟨gb406, 1, none⟩ = some (.int .i64 0) := (blk_cell BK406.out 1).trans rfl
          have hfs119 := blk_frozen BK406.out 1
          have hns119_0 := NB402_406.out
          have hns119_1 := NB405_406.out
          have hms119_0 := NB406_402.out
          have hms119_1 := NB406_405.out
          have hs120 : w114.cell? ⟨gb406, 2, none⟩ = some (.int .u64 0) := (blk_cell BK406.out 2).trans rfl
          have hfs120 := blk_frozen BK406.out 2
          have hns120_0 := NB402_406.out
          have hns120_1 := NB405_406.out
          have hms120_0 := NB406_402.out
          have hms120_1 := NB406_405.out
          refine skip_ (w1 := ?_) (by rfl) rfl ?_ ?_
          rotate_left
          · go_simp
            rfl
          refine hK.out _ _ ⟨((cell_far (p := ⟨gb406, _, none⟩) NB402_406.out _).trans (((cell_far (p := ⟨gb406, _, none⟩) NB402_406.out _).trans (((cell_far (p := ⟨gb406, _, none⟩) NB402_406.out _).trans (hHeld.1)))))), ((cell_far (p := ⟨gb406, _, none⟩) NB402_406.out _).trans (((cell_far (p := ⟨gb406, _, none⟩) NB402_406.out _).trans (((cell_far (p := ⟨gb406, _, none⟩) NB402_406.out _).trans (hHeld.2.1)))))), ((cell_far (p := ⟨gb406, _, none⟩) NB402_406.out _).trans (((cell_far (p := ⟨gb406, _, none⟩) NB402_406.out _).trans (((cell_far (p := ⟨gb406, _, none⟩) NB402_406.out _).trans (hHeld.2.2.1)))))), ((cell_far (p := ⟨gb406, _, none⟩) NB402_406.out _).trans (((cell_far (p := ⟨gb406, _, none⟩) NB402_406.out _).trans (((cell_far (p := ⟨gb406, _, none⟩) NB402_406.out _).trans (hHeld.2.2.2))))))⟩ (fun hHeld => ?_)
          clear hK K
          refine done_ (done_of HT_.out (by kernel_rfl)) ?_
          have hnb121 := NB405_402.out
          have hnc121 := NB402_405.out
          have hnb122 := NB405_406.out
          have hnc122 := NB406_405.out
          have hcz123_0 : w114.cell? ⟨gb405, 0, none⟩ = some (.int .i32 0) := (blk_cell BK405.out 0).trans rfl
          have hcz123_1 : w114.cell? ⟨gb405, 1, none⟩ = some (.int .i64 0) := (blk_cell BK405.out 1).trans rfl
          have hcz123_2 : w114.cell? ⟨gb405, 2, none⟩ = some (.int .u64 0) := (blk_cell BK405.out 2).trans rfl
          have hfz123_0 := blk_frozen BK405.out 0
          have hfz123_1 := blk_frozen BK405.out 1
          have hfz123_2 := blk_frozen BK405.out 2
          have hnb124 := NB406_402.out
          have hnc124 := NB402_406.out
          have hcz125_0 : w114.cell? ⟨gb406, 0, none⟩ = some (.int .i32 0) := (blk_cell BK406.out 0).trans rfl
          have hcz125_1 : w114.cell? ⟨gb406, 1, none⟩ = some (.int .i64 0) := (blk_cell BK406.out 1).trans rfl
          have hcz125_2 : w114.cell? ⟨gb406, 2, none⟩ = some (.int .u64 0) := (blk_cell BK406.out 2).trans rfl
          have hfz125_0 := blk_frozen BK406.out 0
          have hfz125_1 := blk_frozen BK406.out 1
          have hfz125_2 := blk_frozen BK406.out 2
          have hcz126_0 : w114.cell? ⟨gb402, 0, none⟩ = some (.slice A0_0 l0_0.length c0_0) := (blk_cell BK402.out 0).trans rfl
          have hcz126_1 : w114.cell? ⟨gb402, 1, none⟩ = some (.int .i32 a0_1) := (blk_cell BK402.out 1).trans rfl
          have hcz126_2 : w114.cell? ⟨gb402, 2, none⟩ = some (.int .i64 a0_2) := (blk_cell BK402.out 2).trans rfl
          have hcz126_3 : w114.cell? ⟨gb402, 3, none⟩ = some (.int .u64 a0_3) := (blk_cell BK402.out 3).trans rfl
          have hfz126_0 := blk_frozen BK402.out 0
          have hfz126_1 := blk_frozen BK402.out 1
          have hfz126_2 := blk_frozen BK402.out 2
          have hfz126_3 := blk_frozen BK402.out 3
          try go_wp2_with (first | ((with_reducible refine gate_callee (f := 9) rfl ?_); refine goesL_ (some 52) rfl rfl Try.func9 (by kernel_rfl) rfl #[.slice A0_0 l0_0.length c0_0, .agg #[.int .i32 0, .int .i64 a0_2, .int .u64 a0_3], .int .i64 a1] rfl (by (try simp only [List.map_toArray, List.map_cons, List.map_nil]); first | done | rfl | (simp only [List.length_drop, List.length_take]; rfl)) ?_; (with_reducible refine (pick_Pick.calls kj2 _ _ l0_0 0 a0_2 a0_3 a1 t407 t408 _ ?side1 ?side2 A18.out).mono ?_); (case side1 => exact Kd.C_below HR0_0.out (by repeat (first | (with_reducible first | exact HB.out | apply below_alloc | apply pw_below_drewN | apply below_drew1 | refine below_set ?_ GE402.out | refine below_set ?_ GE405.out | refine below_set ?_ GE406.out) | exact HB.out))); (case side2 => exact HC0_0.out); rintro e w127 ⟨rfl, hb⟩; refine ⟨_, rfl, ?_⟩; have n0_ := Aside0.mk (blk_below (g := gb402) (o := .cells #[.slice A0_0 l0_0.length c0_0, .int .i32 a0_1, .int .i64 a0_2, .int .u64 a0_3] 27 (0, 0)) (by (with_reducible repeat (first | refine blk_drewN ?_ _ | refine blk_drew ?_ | refine blk_alloc ?_ _)); refine blk_far ?_ NB402_406.out _; (with_reducible repeat (first | refine blk_drewN ?_ _ | refine blk_drew ?_ | refine blk_alloc ?_ _)); refine blk_far ?_ NB402_405.out _; (with_reducible repeat (first | refine blk_drewN ?_ _ | refine blk_drew ?_ | refine blk_alloc ?_ _)); refine blk_far ?_ NB402_406.out _; (with_reducible repeat (first | refine blk_drewN ?_ _ | refine blk_drew ?_ | refine blk_alloc ?_ _)); refine blk_far ?_ NB402_406.out _; (with_reducible repeat (first | refine blk_drewN ?_ _ | refine blk_drew ?_ | refine blk_alloc ?_ _)); refine blk_far ?_ NB402_406.out _; (with_reducible repeat (first | refine blk_drewN ?_ _ | refine blk_drew ?_ | refine blk_alloc ?_ _)); refine blk_far ?_ NB402_405.out _; (with_reducible repeat (first | refine blk_drewN ?_ _ | refine blk_drew ?_ | refine blk_alloc ?_ _)); refine blk_far ?_ NB402_405.out _; (with_reducible repeat (first | refine blk_drewN ?_ _ | refine blk_drew ?_ | refine blk_alloc ?_ _)); refine blk_far ?_ NB402_405.out _; (with_reducible repeat (first | refine blk_drewN ?_ _ | refine blk_drew ?_ | refine blk_alloc ?_ _)); exact BK402.out) hb); have n1_ := Aside0.mk (blk_below (g := gb405) (o := .cells #[.int .i32 0, .int .i64 a0_2, .int .u64 a0_3] 25 (0, 0)) (by (with_reducible repeat (first | refine blk_drewN ?_ _ | refine blk_drew ?_ | refine blk_alloc ?_ _)); refine blk_far ?_ NB405_406.out _; (with_reducible repeat (first | refine blk_drewN ?_ _ | refine blk_drew ?_ | refine blk_alloc ?_ _)); refine blk_put (cs := #[.int .i32 a0_1, .int .i64 a0_2, .int .u64 a0_3]) ?_ 0 _ rfl; (with_reducible repeat (first | refine blk_drewN ?_ _ | refine blk_drew ?_ | refine blk_alloc ?_ _)); refine blk_far ?_ NB405_406.out _; (with_reducible repeat (first | refine blk_drewN ?_ _ | refine blk_drew ?_ | refine blk_alloc ?_ _)); refine blk_far ?_ NB405_406.out _; (with_reducible repeat (first | refine blk_drewN ?_ _ | refine blk_drew ?_ | refine blk_alloc ?_ _)); refine blk_far ?_ NB405_406.out _; (with_reducible repeat (first | refine blk_drewN ?_ _ | refine blk_drew ?_ | refine blk_alloc ?_ _)); refine blk_put (cs := #[.int .i32 a0_1, .int .i64 a0_2, .int .u64 0]) ?_ 2 _ rfl; (with_reducible repeat (first | refine blk_drewN ?_ _ | refine blk_drew ?_ | refine blk_alloc ?_ _)); refine blk_put (cs := #[.int .i32 a0_1, .int .i64 0, .int .u64 0]) ?_ 1 _ rfl; (with_reducible repeat (first | refine blk_drewN ?_ _ | refine blk_drew ?_ | refine blk_alloc ?_ _)); refine blk_put (cs := #[.int .i32 0, .int .i64 0, .int .u64 0]) ?_ 0 _ rfl; (with_reducible repeat (first | refine blk_drewN ?_ _ | refine blk_drew ?_ | refine blk_alloc ?_ _)); exact BK405.out) hb); have n2_ := Aside0.mk (blk_below (g := gb406) (o := .cells #[.int .i32 a0_1, .int .i64 1, .int .u64 a0_3] 25 (0, 0)) (by (with_reducible repeat (first | refine blk_drewN ?_ _ | refine blk_drew ?_ | refine blk_alloc ?_ _)); refine blk_put (cs := #[.int .i32 a0_1, .int .i64 a0_2, .int .u64 a0_3]) ?_ 1 _ rfl; (with_reducible repeat (first | refine blk_drewN ?_ _ | refine blk_drew ?_ | refine blk_alloc ?_ _)); refine blk_far ?_ NB406_405.out _; (with_reducible repeat (first | refine blk_drewN ?_ _ | refine blk_drew ?_ | refine blk_alloc ?_ _)); refine blk_put (cs := #[.int .i32 a0_1, .int .i64 a0_2, .int .u64 0]) ?_ 2 _ rfl; (with_reducible repeat (first | refine blk_drewN ?_ _ | refine blk_drew ?_ | refine blk_alloc ?_ _)); refine blk_put (cs := #[.int .i32 a0_1, .int .i64 0, .int .u64 0]) ?_ 1 _ rfl; (with_reducible repeat (first | refine blk_drewN ?_ _ | refine blk_drew ?_ | refine blk_alloc ?_ _)); refine blk_put (cs := #[.int .i32 0, .int .i64 0, .int .u64 0]) ?_ 0 _ rfl; (with_reducible repeat (first | refine blk_drewN ?_ _ | refine blk_drew ?_ | refine blk_alloc ?_ _)); refine blk_far ?_ NB406_405.out _; (with_reducible repeat (first | refine blk_drewN ?_ _ | refine blk_drew ?_ | refine blk_alloc ?_ _)); refine blk_far ?_ NB406_405.out _; (with_reducible repeat (first | refine blk_drewN ?_ _ | refine blk_drew ?_ | refine blk_alloc ?_ _)); refine blk_far ?_ NB406_405.out _; (with_reducible repeat (first | refine blk_drewN ?_ _ | refine blk_drew ?_ | refine blk_alloc ?_ _)); exact BK406.out) hb); have n3_ := Aside0.mk (below_step (by repeat (first | (with_reducible first | exact HB.out | apply below_alloc | apply pw_below_drewN | apply below_drew1 | refine below_set ?_ GE402.out | refine below_set ?_ GE405.out | refine below_set ?_ GE406.out) | exact HB.out)) hb); clear BK402; clear BK405; clear BK406; clear HB; have BK402 := n0_; have BK405 := n1_; have BK406 := n2_; have HB := n3_; clear n0_ n1_ n2_ n3_; (try clear hb); (try clear hb2); (try clear hk); (try clear hi); have hcz128_0 : w127.cell? ⟨gb402, 0, none⟩ = some (.slice A0_0 l0_0.length c0_0) := (blk_cell BK402.out 0).trans rfl; have hcz128_1 : w127.cell? ⟨gb402, 1, none⟩ = some (.int .i32 a0_1) := (blk_cell BK402.out 1).trans rfl; have hcz128_2 : w127.cell? ⟨gb402, 2, none⟩ = some (.int .i64 a0_2) := (blk_cell BK402.out 2).trans rfl; have hcz128_3 : w127.cell? ⟨gb402, 3, none⟩ = some (.int .u64 a0_3) := (blk_cell BK402.out 3).trans rfl; have hfz128_0 := blk_frozen BK402.out 0; have hfz128_1 := blk_frozen BK402.out 1; have hfz128_2 := blk_frozen BK402.out 2; have hfz128_3 := blk_frozen BK402.out 3; have hcz129_0 : w127.cell? ⟨gb406, 0, none⟩ = some (.int .i32 a0_1) := (blk_cell BK406.out 0).trans rfl; have hcz129_1 : w127.cell? ⟨gb406, 1, none⟩ = some (.int .i64 1) := (blk_cell BK406.out 1).trans rfl; have hcz129_2 : w127.cell? ⟨gb406, 2, none⟩ = some (.int .u64 a0_3) := (blk_cell BK406.out 2).trans rfl; have hfz129_0 := blk_frozen BK406.out 0; have hfz129_1 := blk_frozen BK406.out 1; have hfz129_2 := blk_frozen BK406.out 2) | ((with_reducible refine gate_callee (f := 9) rfl ?_); refine goesL_ (some 60) rfl rfl Try.func9 (by kernel_rfl) rfl #[.slice A0_0 l0_0.length c0_0, .agg #[.int .i32 a0_1, .int .i64 1, .int .u64 a0_3], .int .i64 a1] rfl (by (try simp only [List.map_toArray, List.map_cons, List.map_nil]); first | done | rfl | (simp only [List.length_drop, List.length_take]; rfl)) ?_; (with_reducible refine (pick_Pick.calls kj2 _ _ l0_0 a0_1 1 a0_3 a1 t409 t410 _ ?side1 ?side2 A19.out).mono ?_); (case side1 => repeat (first | exact (Kd.C_below HR0_0.out HB.out) | (with_reducible refine Kd.C_alloc ?_ _) | (with_reducible refine Kd.C_drewN ?_ _) | (with_reducible refine Kd.C_drew ?_))); (case side2 => exact HC0_0.out); rintro e w130 ⟨rfl, hb⟩; refine ⟨_, rfl, ?_⟩; have n0_ := Aside0.mk (blk_below (g := gb402) (o := .cells #[.slice A0_0 l0_0.length c0_0, .int .i32 a0_1, .int .i64 a0_2, .int .u64 a0_3] 27 (0, 0)) (by (with_reducible repeat (first | refine blk_drewN ?_ _ | refine blk_drew ?_ | refine blk_alloc ?_ _)); exact BK402.out) hb); have n1_ := Aside0.mk (blk_below (g := gb405) (o := .cells #[.int .i32 0, .int .i64 a0_2, .int .u64 a0_3] 25 (0, 0)) (by (with_reducible repeat (first | refine blk_drewN ?_ _ | refine blk_drew ?_ | refine blk_alloc ?_ _)); exact BK405.out) hb); have n2_ := Aside0.mk (blk_below (g := gb406) (o := .cells #[.int .i32 a0_1, .int .i64 1, .int .u64 a0_3] 25 (0, 0)) (by (with_reducible repeat (first | refine blk_drewN ?_ _ | refine blk_drew ?_ | refine blk_alloc ?_ _)); exact BK406.out) hb); have n3_ := Aside0.mk (below_step (by repeat (first | (with_reducible first | exact HB.out | apply below_alloc | apply pw_below_drewN | apply below_drew1 | refine below_set ?_ GE402.out | refine below_set ?_ GE405.out | refine below_set ?_ GE406.out) | exact HB.out)) hb); clear BK402; clear BK405; clear BK406; clear HB; have BK402 := n0_; have BK405 := n1_; have BK406 := n2_; have HB := n3_; clear n0_ n1_ n2_ n3_; (try clear hb); (try clear hb2); (try clear hk); (try clear hi); have hcz131_0 : w130.cell? ⟨gb402, 0, none⟩ = some (.slice A0_0 l0_0.length c0_0) := (blk_cell BK402.out 0).trans rfl; have hcz131_1 : w130.cell? ⟨gb402, 1, none⟩ = some (.int .i32 a0_1) := (blk_cell BK402.out 1).trans rfl; have hcz131_2 : w130.cell? ⟨gb402, 2, none⟩ = some (.int .i64 a0_2) := (blk_cell BK402.out 2).trans rfl; have hcz131_3 : w130.cell? ⟨gb402, 3, none⟩ = some (.int .u64 a0_3) := (blk_cell BK402.out 3).trans rfl; have hfz131_0 := blk_frozen BK402.out 0; have hfz131_1 := blk_frozen BK402.out 1; have hfz131_2 := blk_frozen BK402.out 2; have hfz131_3 := blk_frozen BK402.out 3) | ((with_reducible refine gate_callee (f := 17) rfl ?_); refine goesL_ (some 65) rfl rfl Try.func17 (by kernel_rfl) rfl #[.slice A0_0 l0_0.length c0_0] rfl (by (try simp only [List.map_toArray, List.map_cons, List.map_nil]); first | done | rfl | (simp only [List.length_drop, List.length_take]; rfl)) ?_; (with_reducible refine (credenzaref03_Top.calls kj2 _ _ l0_0 t411 _ ?side1 ?side2 A20.out).mono ?_); (case side1 => repeat (first | exact (Kd.C_below HR0_0.out HB.out) | (with_reducible refine Kd.C_alloc ?_ _) | (with_reducible refine Kd.C_drewN ?_ _) | (with_reducible refine Kd.C_drew ?_))); (case side2 => exact HC0_0.out); rintro e w' ⟨rfl, ⟨nd, rfl⟩⟩; refine ⟨_, rfl, ?_⟩))
          go_ret
          exact ⟨by first | rfl | (simp [errW_none, errW_some] <;> rfl) | (simp [*, errW_none, errW_some] <;> rfl), by repeat (first | (with_reducible first | exact HB.out | apply below_alloc | apply pw_below_drewN | apply below_drew1 | refine below_set ?_ GE402.out | refine below_set ?_ GE405.out | refine below_set ?_ GE406.out) | exact HB.out)⟩

end Go.Proofs.Ytmldhpnkkkmloaa.Q

namespace Go.Proofs.Ytmldhpnkkkmloaa.Pure
open Go.RowKit Go.Proofs.Ytmldhpnkkkmloaa.Q Go.Proofs.YtmldhpnkkkmloaaW.PrintWords Go.Proofs.YtmldhpnkkkmloaaW.PrintLast Go.Proofs.Ytmldhpnkkkmloaa.SortM
set_option linter.unusedVariables false

theorem awake_t {k : Nat} (hk : 100 ≤ k) : ((credenzalaw20_awake.f k).bind fun t => some t) = some true := by rw [awake20 hk, Option.bind_some]

/-- One place is kept: the greatest score's. -/
theorem kpt_one {l : List Int} {i : Nat} (h : FirstT l i) (hl : 0 < l.length) : kpt l 1 = [(i : Int)] := by
  have h1 := kpt_length l 1 (by omega)
  rw [if_neg (by omega)] at h1
  unfold mn at h1
  have h2 : (kpt l 1).length = 1 := by split at h1 <;> omega
  obtain ⟨x, hx⟩ := List.length_eq_one_iff.1 h2
  have h3 := first_in (t := 1) h (by omega)
  rw [hx] at h3 ⊢
  rw [List.mem_singleton.1 h3]
theorem pick_one {l : List Int} {i : Nat} (h : FirstT l i) (hl : 0 < l.length) (t seed idx : Int) : pickR l t 1 seed idx = (i : Int) := by
  unfold pickR warmR
  rw [kpt_one h hl]
  simp only [List.map_cons, List.map_nil]
  generalize divR (rd l (i : Int)) t = x
  have e : weightsR [x] = [65536] := by
    show [wR x x] = _
    rw [wR_top]
  rw [e]
  have hs : sumR [65536] = 65536 := rfl
  have key : ∀ y : Int, y < 65536 → atR [65536] y = 0 := fun y hy => by simp only [atR]; rw [if_neg (by omega)]
  rw [hs, key _ (Int.emod_lt_of_pos _ (by omega))]
  rfl

theorem tops_pure (l : List Int) (t top seed idx : Int) (hA : A32 l) : ∃ k, credenzalaw20_PickTops.f k l t top seed idx = some true := by
  have aw : credenzalaw20_PickTops.j0 401 idx true l t top seed = some true := by rw [credenzalaw20_PickTops.j0, if_pos rfl, awake_t (by omega)]
  refine ⟨401, ?_⟩
  rw [credenzalaw20_PickTops.f]
  by_cases h0 : (l.length : Int) = 0
  · rw [if_pos h0, aw]
  rw [if_neg h0]
  by_cases h64 : (l.length : Int) > 64
  · rw [if_pos h64, aw]
  rw [if_neg h64, ref_Right_some, Option.bind_some]
  by_cases hR : rightR t top = true
  · rw [if_pos hR]
    by_cases h1 : idx < 0
    · rw [if_pos h1, aw]
    rw [if_neg h1]
    by_cases h2 : idx > 1024
    · rw [decide_eq_true h2, aw]
    rw [decide_eq_false h2, credenzalaw20_PickTops.j0, if_neg (by simp)]
    have hR' := hR
    unfold rightR at hR'
    rw [decide_eq_true_iff] at hR'
    have q1 : 0 < l.length := by omega
    have q2 : l.length ≤ 64 := by omega
    have q3 : (0 : Int) ≤ idx := by omega
    have q4 : idx ≤ 1024 := by omega
    have q5 : rightR 0 top = true := by unfold rightR; exact decide_eq_true (by omega)
    have q6 : rightR t 1 = true := by unfold rightR; exact decide_eq_true (by omega)
    obtain ⟨r, hr, he⟩ := ref_Top_first (l := l) q1 (by omega) (k := 400) (by omega)
    obtain ⟨a, ha, _, ha2, _⟩ := pick_some (l := l) hA q1 q2 (t := 0) (top := top) seed (idx := idx) q5 q3 q4 (k := 400) (by decide)
    obtain ⟨b, hb, _, hb2, hb3⟩ := pick_some (l := l) hA q1 q2 (t := t) (top := 1) seed (idx := idx) q6 q3 q4 (k := 400) (by decide)
    obtain ⟨i, hi, rfl⟩ := ha2 rfl
    have hbi : b = (i : Int) := by
      by_cases ht : t = 0
      · obtain ⟨j, hj, rfl⟩ := hb2 ht
        rw [firstT_uniq hj hi]
      · rw [hb3 ht, pick_one hi q1]
    rw [ha, Option.bind_some, hb, Option.bind_some, he, Option.bind_some, if_pos rfl, if_pos rfl, if_pos (by rw [firstT_uniq hi hr]), if_pos (by rw [hbi, firstT_uniq hi hr]), awake_t (by decide)]
  · rw [if_neg hR, aw]
end Go.Proofs.Ytmldhpnkkkmloaa.Pure

namespace Go.Proofs.Ytmldhpnkkkmloaa.pickTops
open Go.ChangeShapes Go.WideShapes Go.ChangeAt Go.RowKit Go.Proofs.YtmldhpnkkkmloaaW.PrintWords Go.Proofs.YtmldhpnkkkmloaaW.PrintLast Go.Proofs.Ytmldhpnkkkmloaa.Pure
open Go.ChangeMaps (open_string shut_string)
set_option linter.unusedVariables false
theorem own : ownKnob Try.prog.godebug = none := by kernel_rfl
theorem laidOut : laidOutB Try.prog = true := by kernel_rfl
def IsRow (k : IntKind) (w : World) (a : Option Addr) (len cap : Nat) (zs : List Int) : Prop :=
  (a = none ∧ len = 0 ∧ cap = 0 ∧ zs = []) ∨
  ∃ x, a = some x ∧ len ≤ cap ∧ cap ≤ maxLen ∧ zs.length = cap ∧ (∀ i, i < zs.length → w.cell? (x.add i) = some (.int k (zs.getD i 0))) ∧ ∀ n ∈ zs, (Lit.int k n).wf = true
set_option maxRecDepth 100000 in
theorem lifted (os : Os) (started : os.Started) (H : Type) (enc : TypeId × Value → H) :
    ReturnsInHanded {} Try.checked os 7 .any (Rows.pickTopsSpec.pre6 enc Try.prog Try.f7 Rows.pickTopsRow.domain false) (Rows.pickTopsSpec.post enc Try.prog Try.f7 false true false false) := by
  refine returnsInHanded_of_change_sized (C := Try.checked) own started (by kernel_rfl) Try.func7
    (ChangeSpec.witness6 (enc := enc) (C := Try.checked) false ⟨#[], #[.agg #[.slice none 0 0, .int .i32 0, .int .i64 0, .int .u64 0], .int .i64 0], []⟩ 8 (by kernel_rfl) (by kernel_rfl) (by kernel_rfl) (by kernel_rfl)) ?_
  intro W base args ds gs before hval0 hW hcnd hsz0 _
  have hsz : (DataW.weightsEach Try.prog (Try.f7.params.toList ++ Rows.pickTopsSpec.plain.varTypes Try.prog) (ds ++ gs)).all (· ≤ reachBytes) = true := hsz0
  have hval : ∀ (j : Nat) t v, Try.f7.params[j]? = some t → args[j]? = some v → Value.okWide Try.prog W .any base t v := hval0
  have hW' := hW
  obtain ⟨p, q, hA0, hV, rfl, hfz, hnd⟩ := hW
  have hA : DataW.TrodAll enc Try.prog W 0 (fun _ => true) true Try.f7.params.toList args.toList ds p := hA0
  rw [Try.params7] at hA hval hsz
  obtain ⟨v0, vs0, d0, ds0, p0, q0, hargs, rfl, rfl, h0, r0⟩ := trodAll_cons hA
  obtain ⟨v1, vs1, d1, ds1, p1, q1, rfl, rfl, rfl, h1, r1⟩ := trodAll_cons r0
  obtain ⟨rfl, rfl, rfl⟩ := trodAll_nil r1
  obtain rfl : args = #[v0, v1] := by cases args; simp_all
  obtain ⟨rfl, rfl⟩ := trodVars_none hV
  have k0 := h0
  have lt0 : ∀ x ∈ p0, x.block < W.heap.size := by obtain ⟨m, hm⟩ := k0; exact DataW.trod_lt m _ _ _ hm
  obtain ⟨u0, u1, u2, u3, y0, y1, y2, y3, n0, m0, rfl, g0, g1, g2, g3⟩ := open_case13 Try.underlying27 Try.underlying25 (by kernel_rfl) (by kernel_rfl) (by kernel_rfl) (hval 0 27 v0 rfl rfl) h0
  obtain ⟨A, len, cap, e0⟩ := Go.Joins.slice_form Try.underlying22 g0
  obtain ⟨b1, e1, _, _⟩ := DataW.trod_int Try.underlying21 g1
  obtain ⟨b2, e2, _, _⟩ := DataW.trod_int Try.underlying3 g2
  obtain ⟨b3, e3, _, _⟩ := DataW.trod_int Try.underlying23 g3
  simp only [List.cons.injEq, and_true] at e0 e1 e2 e3
  subst e0 e1 e2 e3
  obtain ⟨z0, wz0⟩ : ∃ zs, IsRow .i32 W A len cap zs := by
    rcases open_ints Try.underlying22 Try.underlying21 (by kernel_rfl) g0 with ⟨hcs, _⟩ | ⟨x, l, c, zs, hcs, _, hl, hm, hz, _, hcell, hwz⟩
    · simp at hcs
      obtain ⟨rfl, rfl, rfl⟩ := hcs
      exact ⟨[], .inl ⟨rfl, rfl, rfl, rfl⟩⟩
    · simp at hcs
      obtain ⟨rfl, rfl, rfl⟩ := hcs
      exact ⟨zs, .inr ⟨_, rfl, hl, hm, by simpa using hz, hcell, hwz⟩⟩
  obtain ⟨l0, rfl, hr0, hm0, hw0, hc0⟩ := ReadsInt.ofRowC wz0
  obtain ⟨a1, rfl, rfl, rfl, w1⟩ := open_int Try.underlying3 (hval 1 3 v1 rfl rfl) h1
  clear hA0 hval0 hsz0 hsz
  obtain ⟨k, hk⟩ := Pure.tops_pure l0 b1 b2 b3 a1 (A32_of_wf hw0)
  refine (Q.credenzalaw20_PickTops.calls k _ _ l0 b1 b2 b3 a1 true W (Kd.C_of_reads (d := (0 : Int)) (h1 := fun _ => rfl) hr0) hc0 hk).mono ?_
  rintro e W' ⟨rfl, bel⟩
  exact ⟨_, rfl, _, _, _, [], _, [], hW', trodAll_mk1 (shut_bool Try.underlying4 _), (trodAll_cons_mk (Below.trod laidOut (by kernel_rfl) (of_decide_eq_true (by kernel_rfl)) k0 bel lt0) (trodAll_cons_mk (shut_int Try.underlying3 w1) trodAll_mk0)), rfl, bel.frame _, fun h => by cases h⟩
theorem over : Rows.pickTopsRow.holds Try.pinned (OpenSpec.ofChange Rows.pickTopsSpec) :=
  OpenClaim.holds_of_wide 7 Try.f7 rfl rfl rfl rfl rfl rfl rfl ⟨rfl, rfl, rfl, rfl, rfl⟩ rfl rfl rfl rfl rfl (by kernel_rfl) Try.func7 (by kernel_rfl)
    (of_decide_eq_true (by kernel_rfl)) (by unfold Func.isWrapper; first | (rw [if_pos (by decide +kernel)]; kernel_rfl) | (rw [if_neg (by decide +kernel)]; exact ⟨rfl, rfl⟩))
    (fun os started H enc _ => lifted os started H enc)
theorem proved : Rows.PickTopsSaid := over
end Go.Proofs.Ytmldhpnkkkmloaa.pickTops
namespace Go.Proofs.Ytmldhpnkkkmloaa
/-- The row, under a short name, for the claim. -/
theorem pickTops_holds : Rows.PickTopsSaid := pickTops.proved
end Go.Proofs.Ytmldhpnkkkmloaa
