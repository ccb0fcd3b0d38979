/- Of any scores, by any params, at any index, just that place is picked that the document says, or it is refused; it is a kept one. Conditions: as each theorem states; the last one has none. -/
import Derived.Test.YtmldhpnkkkmloaaRows
import Derived.WalkKit
import Derived.ProofKit
import Derived.OpenShut
import Derived.ShutString
import Derived.ChangeOld
import Derived.Below
import Derived.SizedLaws
import Derived.Test.YtmldhpnkkkmloaaWSized
import Derived.Test.YtmldhpnkkkmloaaCPickPicks1
import Derived.Test.YtmldhpnkkkmloaaCPickPicks2
import Derived.Test.YtmldhpnkkkmloaaCPickPicks3
namespace Go.Proofs.Ytmldhpnkkkmloaa.Pure
open Go.RowKit Go.Proofs.Ytmldhpnkkkmloaa.Q Go.Proofs.YtmldhpnkkkmloaaW.PrintWords Go.Proofs.YtmldhpnkkkmloaaW.PrintLast Go.Proofs.Ytmldhpnkkkmloaa.SortM
set_option linter.unusedVariables false

/-! ### quotients -/
def divR (a t : Int) : Int := wideR (rnd (a * 65536) t)
theorem divR_bd (a t : Int) : I32 (divR a t) := wideR_bd _
theorem fix_Div_some {a t : Int} (ha : I32 a) (ht : 0 < t) (ht2 : t ≤ 1048576) {k : Nat} (hk : 2 ≤ k) : fix_Div.f k a t = some (divR a t) := by
  obtain ⟨k, rfl⟩ : ∃ m, k = m + 2 := ⟨k - 2, by omega⟩
  obtain ⟨h1, h2⟩ := ha
  rw [fix_Div.f, w64 (x := t) (by omega) (by omega), w64 (x := a) (by omega) (by omega), w64 (x := a * 65536) (by omega) (by omega), if_neg (by omega), if_neg (by omega), fix_Div.j0, if_neg (by simp), if_neg (by omega), fix_Div.j1, if_neg (by simp), fix_Ratio_some ht (by omega) (by omega) (by omega), Option.bind_some, fix_Wide_some, Option.bind_some]
  rfl
theorem ref_Div_some {a t : Int} (ha : I32 a) (ht : 0 < t) (ht2 : t ≤ 1048576) : credenzaref01_Div.f a t = some (divR a t) := by
  obtain ⟨h1, h2⟩ := ha
  rw [credenzaref01_Div.f, if_neg (by omega), if_neg (by omega), w64 (x := t) (by omega) (by omega), w64 (x := a) (by omega) (by omega), w64 (x := a * 65536) (by omega) (by omega), ref_Ratio_some ht (by omega) (by omega) (by omega), Option.bind_some, ref_Wide_some, Option.bind_some]
  rfl

/-! ### sums -/
def sumR : List Int → Int
  | [] => 0
  | x :: l => x + sumR l
def WB (l : List Int) : Prop := ∀ x ∈ l, 0 ≤ x ∧ x ≤ 131072
theorem sumR_bd : ∀ {l : List Int}, WB l → 0 ≤ sumR l ∧ sumR l ≤ l.length * 131072
  | [], _ => by simp [sumR]
  | x :: l, h => by
    have h1 := h x (by simp)
    have h2 := sumR_bd (l := l) (fun y hy => h y (by simp [hy]))
    simp only [sumR, List.length_cons]
    omega
theorem sumR_ge : ∀ {l : List Int}, WB l → ∀ x ∈ l, x ≤ sumR l
  | y :: l, h, x, hx => by
    have h1 := h y (by simp)
    have h0 : WB l := fun z hz => h z (by simp [hz])
    have h2 := sumR_bd h0
    simp only [sumR]
    rcases List.mem_cons.1 hx with rfl | hx
    · omega
    · have := sumR_ge h0 x hx; omega
theorem soft_sum_loop (l : List Int) (hl : l.length ≤ 1024) (hw : WB l) : ∀ (d k p : Nat) (s : Int), p + d = l.length → d < k → 0 ≤ s → s ≤ p * 131072 → soft_Sum.l0 k s l (l.length : Int) (p : Int) = some (s + sumR (l.drop p)) := by
  intro d
  induction d with
  | zero =>
    intro k p s hp hk h0 h1
    obtain ⟨k, rfl⟩ : ∃ m, k = m + 1 := ⟨k - 1, by omega⟩
    rw [soft_Sum.l0, if_neg (by omega), List.drop_of_length_le (by omega)]
    simp [sumR]
  | succ d ih =>
    intro k p s hp hk h0 h1
    obtain ⟨k, rfl⟩ : ∃ m, k = m + 1 := ⟨k - 1, by omega⟩
    have hlt : p < l.length := by omega
    have hb := hw _ (rd_mem hlt)
    rw [soft_Sum.l0, if_pos (by omega), if_pos (by omega), if_pos (by omega), wnext hlt (by omega), w64 (x := s + rd l (p : Int)) (by omega) (by omega), ih k (p + 1) _ (by omega) (by omega) (by omega) (by omega), drop_rd hlt]
    simp only [sumR]
    congr 1; omega
theorem soft_Sum_some {l : List Int} (hl : l.length ≤ 1024) (hw : WB l) {k : Nat} (hk : l.length < k) : soft_Sum.f k l = some (sumR l) := by
  have := soft_sum_loop l hl hw l.length k 0 0 (by omega) hk (by omega) (by omega)
  rw [soft_Sum.f]
  simpa using this
theorem ref_sum_loop (l : List Int) (hl : l.length ≤ 1024) (hw : WB l) : ∀ (d k p : Nat) (s : Int), p + d = l.length → d < k → 0 ≤ s → s ≤ p * 131072 → credenzaref04_Sum.l0 k l s (p : Int) = some (s + sumR (l.drop p)) := by
  intro d
  induction d with
  | zero =>
    intro k p s hp hk h0 h1
    obtain ⟨k, rfl⟩ : ∃ m, k = m + 1 := ⟨k - 1, by omega⟩
    rw [credenzaref04_Sum.l0, if_neg (by omega), List.drop_of_length_le (by omega)]
    simp [sumR]
  | succ d ih =>
    intro k p s hp hk h0 h1
    obtain ⟨k, rfl⟩ : ∃ m, k = m + 1 := ⟨k - 1, by omega⟩
    have hlt : p < l.length := by omega
    have hb := hw _ (rd_mem hlt)
    rw [credenzaref04_Sum.l0, if_pos (by omega), if_pos (by omega), wnext hlt (by omega), w64 (x := s + rd l (p : Int)) (by omega) (by omega), ih k (p + 1) _ (by omega) (by omega) (by omega) (by omega), drop_rd hlt]
    simp only [sumR]
    congr 1; omega
theorem ref_Sum_some {l : List Int} (hl : l.length ≤ 1024) (hw : WB l) {k : Nat} (hk : l.length < k) : credenzaref04_Sum.f k l = some (sumR l) := by
  have := ref_sum_loop l hl hw l.length k 0 0 (by omega) hk (by omega) (by omega)
  rw [credenzaref04_Sum.f]
  simpa using this

/-! ### weights -/
theorem wR_top (t : Int) : wR t t = 65536 := by
  unfold wR
  rw [Int.sub_self, show wideR 0 = 0 from rfl, expR_0]
theorem wR_bd (t x : Int) : 0 ≤ wR t x ∧ wR t x ≤ 131072 := expR_bd (wideR_bd _)
theorem weightsR_wb (l : List Int) : WB (weightsR l) := by
  intro x hx
  obtain ⟨y, _, rfl⟩ := List.mem_map.1 hx
  exact wR_bd _ _
theorem weightsR_sum {l : List Int} (h : 0 < l.length) (hl : l.length ≤ 1024) : 65536 ≤ sumR (weightsR l) ∧ sumR (weightsR l) ≤ 134217728 := by
  have h1 := sumR_bd (weightsR_wb l)
  have h2 := sumR_ge (weightsR_wb l) 65536 (by rw [← wR_top (topR l)]; exact List.mem_map.2 ⟨_, topR_mem h, rfl⟩)
  have h3 : (weightsR l).length = l.length := by simp [weightsR]
  rw [h3] at h1
  omega

/-! ### the place where the weights' sum passes a number -/
def atR : List Int → Int → Nat
  | [], _ => 0
  | w :: l, d => if w ≤ d then atR l (d - w) + 1 else 0
theorem atR_lt : ∀ {l : List Int} {d : Int}, WB l → d < sumR l → 0 ≤ d → atR l d < l.length
  | [], d, _, h, h0 => by simp [sumR] at h; omega
  | w :: l, d, hw, h, h0 => by
    simp only [sumR] at h
    simp only [atR, List.length_cons]
    by_cases c : w ≤ d
    · rw [if_pos c]
      have := atR_lt (l := l) (d := d - w) (fun x hx => hw x (by simp [hx])) (by omega) (by omega)
      omega
    · rw [if_neg c]; omega
theorem pick_l1 (g ws : List Int) (hg : g.length = ws.length) (hl : ws.length ≤ 1024) (hw : WB ws) : ∀ (d p k : Nat) (x : Int), p + d = ws.length → d < k → 0 ≤ x → x < sumR (ws.drop p) → x ≤ 134217728 → pick_Pick.l1 k g ws x (p : Int) = some (rd g ((p + atR (ws.drop p) x : Nat) : Int), 0) := by
  intro d
  induction d with
  | zero =>
    intro p k x hp hk h0 h1 h2
    rw [List.drop_of_length_le (by omega)] at h1
    simp [sumR] at h1
    omega
  | succ d ih =>
    intro p k x hp hk h0 h1 h2
    obtain ⟨k, rfl⟩ : ∃ m, k = m + 1 := ⟨k - 1, by omega⟩
    have hlt : p < ws.length := by omega
    have hb := hw _ (rd_mem hlt)
    rw [drop_rd hlt] at h1 ⊢
    simp only [sumR] at h1
    rw [pick_Pick.l1, if_pos (by omega), if_pos (by omega)]
    simp only [atR]
    by_cases c : rd ws (p : Int) ≤ x
    · rw [if_pos c, if_pos c, w64 (x := x - rd ws (p : Int)) (by omega) (by omega), wnext hlt (by omega), ih (p + 1) k _ (by omega) (by omega) (by omega) (by omega) (by omega)]
      congr 3
      omega
    · rw [if_neg c, if_neg c, if_pos (by omega)]
      rfl
theorem ref_pick_l1 (g ws : List Int) (hg : g.length = ws.length) (hl : ws.length ≤ 1024) (hw : WB ws) (x : Int) (hx : x ≤ 134217728) : ∀ (d p k : Nat) (s : Int), p + d = ws.length → d < k → 0 ≤ s → s ≤ x → x - s < sumR (ws.drop p) → credenzaref20_Pick.l1 k g ws x s (p : Int) = some (rd g ((p + atR (ws.drop p) (x - s) : Nat) : Int)) := by
  intro d
  induction d with
  | zero =>
    intro p k s hp hk h0 h1 h2
    rw [List.drop_of_length_le (by omega)] at h2
    simp [sumR] at h2
    omega
  | succ d ih =>
    intro p k s hp hk h0 h1 h2
    obtain ⟨k, rfl⟩ : ∃ m, k = m + 1 := ⟨k - 1, by omega⟩
    have hlt : p < ws.length := by omega
    have hb := hw _ (rd_mem hlt)
    rw [drop_rd hlt] at h2 ⊢
    simp only [sumR] at h2
    have e1 : IntKind.u64.wrap (s + IntKind.u64.wrap (rd ws (p : Int))) = s + rd ws (p : Int) := by rw [IntKind.wrap_u64, IntKind.wrap_u64]; omega
    rw [credenzaref20_Pick.l1, if_pos (by omega), if_pos (by omega), if_pos (by omega), e1]
    simp only [atR]
    by_cases c : rd ws (p : Int) ≤ x - s
    · rw [if_pos c, if_neg (by omega), wnext hlt (by omega), ih (p + 1) k _ (by omega) (by omega) (by omega) (by omega) (by omega)]
      congr 2
      rw [show x - (s + rd ws (p : Int)) = x - s - rd ws (p : Int) by omega]
      omega
    · rw [if_neg c, if_pos (by omega)]
      rfl

/-! ### the greatest score's first place -/
def FirstT (l : List Int) (i : Nat) : Prop := i < l.length ∧ rd l (i : Int) = topR l ∧ ∀ j : Nat, j < i → rd l (j : Int) ≠ topR l
theorem firstT_uniq {l : List Int} {i j : Nat} (h1 : FirstT l i) (h2 : FirstT l j) : i = j := by
  rcases Nat.lt_trichotomy i j with h | h | h
  · exact absurd h1.2.1 (h2.2.2 i h)
  · exact h
  · exact absurd h2.2.1 (h1.2.2 j h)
theorem topR_ge {l : List Int} : ∀ p : Nat, 0 < p → p ≤ l.length → ∀ j : Nat, j < p → rd l (j : Int) ≤ topR (l.take p) := by
  intro p
  induction p with
  | zero => intro h0; omega
  | succ p ih =>
    intro _ hp j hj
    by_cases c : p = 0
    · subst c
      obtain rfl : j = 0 := by omega
      rw [take_one (by omega)]; exact Int.le_refl _
    · have hf := fold_take (l := l) (p := p) (by omega) (by omega)
      rw [hf]
      by_cases e : j = p
      · subst e; split <;> omega
      · have := ih (by omega) (by omega) j (by omega)
        split <;> omega
theorem index_first (l : List Int) (a : Int) (hl : l.length ≤ 1000000) : ∀ (d k p : Nat), p + d = l.length → d < k → (∃ j : Nat, p ≤ j ∧ j < l.length ∧ rd l (j : Int) = a) → (∀ j : Nat, j < p → rd l (j : Int) ≠ a) →
    ∃ r : Nat, r < l.length ∧ rd l (r : Int) = a ∧ (∀ j : Nat, j < r → rd l (j : Int) ≠ a) ∧ slices_Index_int32_int32.l0 k l a (l.length : Int) (p : Int) = some (r : Int) := by
  intro d
  induction d with
  | zero =>
    intro k p hp hk ⟨j, h1, h2, _⟩ _
    omega
  | succ d ih =>
    intro k p hp hk hex hno
    obtain ⟨k, rfl⟩ : ∃ m, k = m + 1 := ⟨k - 1, by omega⟩
    have hlt : p < l.length := by omega
    rw [slices_Index_int32_int32.l0, if_pos (by omega), if_pos (by omega), if_pos (by omega)]
    by_cases c : a = rd l (p : Int)
    · exact ⟨p, hlt, c.symm, hno, by rw [if_pos c]⟩
    · rw [if_neg c, wnext hlt (by omega)]
      refine ih k (p + 1) (by omega) (by omega) ?_ ?_
      · obtain ⟨j, h1, h2, h3⟩ := hex
        refine ⟨j, ?_, h2, h3⟩
        rcases Nat.lt_or_ge p j with h | h
        · omega
        · obtain rfl : j = p := by omega
          exact absurd h3.symm c
      · intro j hj
        by_cases e : j = p
        · subst e; exact fun h => c h.symm
        · exact hno j (by omega)
theorem dot_Top_first {l : List Int} (h : 0 < l.length) (hl : l.length ≤ 1000000) {k : Nat} (hk : l.length < k) : ∃ r : Nat, FirstT l r ∧ dot_Top.f k l = some ((r : Int), topR l, 0) := by
  obtain ⟨q, hq, e⟩ := topR_key h l.length h (Nat.le_refl _)
  rw [List.take_length] at e
  obtain ⟨r, h1, h2, h3, h4⟩ := index_first l (topR l) hl l.length k 0 (by omega) hk ⟨q, by omega, hq, e⟩ (by omega)
  refine ⟨r, ⟨h1, h2, h3⟩, ?_⟩
  have h4' : slices_Index_int32_int32.f k l (topR l) = some (r : Int) := h4
  rw [dot_Top.f, if_neg (by omega), max_some h hl hk, Option.bind_some, h4', Option.bind_some]
theorem ref_first_loop (l : List Int) (hl : l.length ≤ 1000000) : ∀ (d k p q : Nat), p + d = l.length → d < k → 0 < p → q < p → rd l (q : Int) = topR (l.take p) → (∀ j : Nat, j < q → rd l (j : Int) ≠ topR (l.take p)) →
    ∃ r : Nat, FirstT l r ∧ credenzaref03_Top.l0 k l (q : Int) (p : Int) = some (r : Int) := by
  intro d
  induction d with
  | zero =>
    intro k p q hp hk h0 hq h hno
    obtain ⟨k, rfl⟩ : ∃ m, k = m + 1 := ⟨k - 1, by omega⟩
    rw [List.take_of_length_le (by omega)] at h hno
    exact ⟨q, ⟨by omega, h, hno⟩, by rw [credenzaref03_Top.l0, if_neg (by omega)]⟩
  | succ d ih =>
    intro k p q hp hk h0 hq h hno
    obtain ⟨k, rfl⟩ : ∃ m, k = m + 1 := ⟨k - 1, by omega⟩
    have hlt : p < l.length := by omega
    have hf := fold_take hlt h0
    have hge := topR_ge (l := l) p h0 (by omega)
    rw [credenzaref03_Top.l0, if_pos (by omega), if_pos (by omega), if_pos (by omega), if_pos (by omega), wnext hlt (by omega)]
    by_cases c : rd l (p : Int) > rd l (q : Int)
    · rw [if_pos c]
      exact ih k (p + 1) p (by omega) (by omega) (by omega) (by omega) (by rw [hf, if_pos (by omega)]) (fun j hj => by rw [hf, if_pos (by omega)]; have := hge j hj; omega)
    · rw [if_neg c]
      exact ih k (p + 1) q (by omega) (by omega) (by omega) (by omega) (by rw [hf, if_neg (by omega), h]) (fun j hj => by rw [hf, if_neg (by omega)]; exact hno j hj)
theorem ref_Top_first {l : List Int} (h : 0 < l.length) (hl : l.length ≤ 1000000) {k : Nat} (hk : l.length < k) : ∃ r : Nat, FirstT l r ∧ credenzaref03_Top.f k l = some (r : Int) := by
  obtain ⟨k, rfl⟩ : ∃ m, k = m + 1 := ⟨k - 1, by omega⟩
  have := ref_first_loop l hl (l.length - 1) k 1 0 (by omega) (by omega) (by omega) (by omega) (take_one h).symm (by omega)
  rw [credenzaref03_Top.f, credenzaref03_Top.l0, if_pos (by omega), if_pos (by omega), if_pos (by omega), if_pos (by omega), if_neg (by simp), show wrap64 ((0 : Int) + 1) = ((1 : Nat) : Int) from w64 (by omega) (by omega)]
  exact this
/-- The greatest score's first place is always kept. -/
theorem first_in {l : List Int} {t : Int} {i : Nat} (h : FirstT l i) (ht : 0 ≤ t) : (i : Int) ∈ kpt l t := by
  rw [kpt_mem]
  obtain ⟨h1, h2, h3⟩ := h
  refine ⟨⟨by omega, by omega⟩, ?_⟩
  unfold inK
  rw [decide_eq_true_iff]
  have h0 : SortM.ahead l (i : Int) = 0 := by
    unfold SortM.ahead
    rw [List.countP_eq_zero]
    intro y hy hb
    rw [before_iff] at hb
    obtain ⟨y1, y2⟩ := mem_iota.1 hy
    have hge := topR_ge (l := l) l.length (by omega) (Nat.le_refl _) y.toNat (by omega)
    rw [List.take_length, show ((y.toNat : Nat) : Int) = y by omega] at hge
    unfold Bef at hb
    rcases hb with hb | ⟨hb, hlt⟩
    · omega
    · have := h3 y.toNat (by omega)
      rw [show ((y.toNat : Nat) : Int) = y by omega] at this
      omega
  omega

/-! ### the pick -/
def rightR (a b : Int) : Bool := decide (0 ≤ a ∧ a ≤ 1048576 ∧ 0 ≤ b ∧ b ≤ 64)
theorem pick_Right_some (a b c : Int) : pick_Right.f a b c = some (rightR a b) := by
  unfold pick_Right.f rightR
  by_cases h1 : a ≥ 0
  · rw [if_pos h1]
    by_cases h2 : a ≤ 1048576
    · rw [if_pos h2]
      by_cases h3 : b ≥ 0
      · rw [if_pos h3]; congr 2; apply propext; omega
      · rw [if_neg h3]; congr 1; exact (decide_eq_false (by omega)).symm
    · rw [if_neg h2]; congr 1; exact (decide_eq_false (by omega)).symm
  · rw [if_neg h1]; congr 1; exact (decide_eq_false (by omega)).symm
theorem ref_Right_some (a b : Int) : credenzaref20_Right.f a b = some (rightR a b) := pick_Right_some a b 0

def warmR (l : List Int) (t top : Int) : List Int := (kpt l top).map (fun x => divR (rd l x) t)
/-- What is picked by warmth. -/
def pickR (l : List Int) (t top seed idx : Int) : Int := rd (kpt l top) ((atR (weightsR (warmR l t top)) ((fin (seedOf seed idx) : Int) % sumR (weightsR (warmR l t top))) : Nat) : Int)

theorem warm_facts {l : List Int} (t : Int) {top : Int} (h : 0 < l.length) (hl : l.length ≤ 64) (ht : 0 ≤ top) :
    0 < (kpt l top).length ∧ (kpt l top).length ≤ 64 ∧ (warmR l t top).length = (kpt l top).length ∧ A32 (warmR l t top) := by
  have h1 := kpt_length l top ht
  unfold mn at h1
  refine ⟨by split at h1 <;> (try split at h1) <;> omega, by split at h1 <;> (try split at h1) <;> omega, by simp [warmR], ?_⟩
  intro x hx
  obtain ⟨y, _, rfl⟩ := List.mem_map.1 hx
  exact divR_bd _ _

theorem pick_l0 (l : List Int) (hA : A32 l) (h : 0 < l.length) (hl : l.length ≤ 64) (t top seed idx : Int) (ht : 0 < t) (ht2 : t ≤ 1048576) (hp : 0 ≤ top) : ∀ (d p k : Nat), p + d = (kpt l top).length → d + 200 < k →
    pick_Pick.l0 k l idx (kpt l top) (((kpt l top).take p).map (fun x => divR (rd l x) t)) (kpt l top) ((kpt l top).length : Int) (p : Int) t top seed = some (pickR l t top seed idx, 0) := by
  obtain ⟨f1, f2, f3, f4⟩ := warm_facts t h hl hp
  intro d
  induction d with
  | zero =>
    intro p k hpd hk
    obtain ⟨k, rfl⟩ : ∃ m, k = m + 1 := ⟨k - 1, by omega⟩
    have hs := weightsR_sum (l := warmR l t top) (by omega) (by omega)
    have hwl : (weightsR (warmR l t top)).length = (kpt l top).length := by rw [weightsR, List.length_map, f3]
    rw [pick_Pick.l0, if_neg (by omega), List.take_of_length_le (by omega)]
    show ((soft_Weights.f k (warmR l t top)).bind _) = _
    rw [soft_Weights_some (by omega) (by omega) f4 (by omega), Option.bind_some, if_pos rfl, draw_some, Option.bind_some, soft_Sum_some (by omega) (weightsR_wb _) (by omega), Option.bind_some]
    have e1 : IntKind.u64.wrap (sumR (weightsR (warmR l t top))) = sumR (weightsR (warmR l t top)) := by rw [IntKind.wrap_u64]; omega
    rw [e1, if_neg (by omega)]
    have e2 : Int.tmod (fin (seedOf seed idx) : Int) (sumR (weightsR (warmR l t top))) = (fin (seedOf seed idx) : Int) % sumR (weightsR (warmR l t top)) := Int.tmod_eq_emod_of_nonneg (by omega)
    have b1 := Int.emod_nonneg (fin (seedOf seed idx) : Int) (show sumR (weightsR (warmR l t top)) ≠ 0 by omega)
    have b2 := Int.emod_lt_of_pos (fin (seedOf seed idx) : Int) (show 0 < sumR (weightsR (warmR l t top)) by omega)
    rw [e2, w64 (by omega) (by omega)]
    have := pick_l1 (kpt l top) (weightsR (warmR l t top)) hwl.symm (by omega) (weightsR_wb _) (weightsR (warmR l t top)).length 0 k ((fin (seedOf seed idx) : Int) % sumR (weightsR (warmR l t top))) (by omega) (by omega) b1 (by rw [List.drop_zero]; exact b2) (by omega)
    rw [List.drop_zero, Nat.zero_add] at this
    exact this
  | succ d ih =>
    intro p k hpd hk
    obtain ⟨k, rfl⟩ : ∃ m, k = m + 1 := ⟨k - 1, by omega⟩
    have hlt : p < (kpt l top).length := by omega
    have hr := kpt_rd hlt
    have hI : I32 (rd l (rd (kpt l top) (p : Int))) := by
      obtain ⟨q, hq⟩ : ∃ q : Nat, rd (kpt l top) (p : Int) = (q : Int) := ⟨(rd (kpt l top) (p : Int)).toNat, by omega⟩
      rw [hq]; exact hA _ (rd_mem (by omega))
    have hml : (((kpt l top).take p).map (fun x => divR (rd l x) t)).length ≤ 64 := by rw [List.length_map, List.length_take]; omega
    rw [pick_Pick.l0, if_pos (by omega), if_pos (by omega), if_pos (by omega), if_pos (by omega), if_pos (by omega), fix_Div_some hI ht ht2 (by omega), Option.bind_some, if_pos (by omega), wnext hlt (by omega)]
    have := ih (p + 1) k (by omega) (by omega)
    rw [take_rd hlt, List.map_append] at this
    exact this
theorem ref_pick_l0 (l : List Int) (hA : A32 l) (h : 0 < l.length) (hl : l.length ≤ 64) (t top seed idx : Int) (ht : 0 < t) (ht2 : t ≤ 1048576) (hp : 0 ≤ top) : ∀ (d p k : Nat), p + d = (kpt l top).length → d + 200 < k →
    credenzaref20_Pick.l0 k l t seed idx (kpt l top) (((kpt l top).take p).map (fun x => divR (rd l x) t)) (p : Int) = some (pickR l t top seed idx) := by
  obtain ⟨f1, f2, f3, f4⟩ := warm_facts t h hl hp
  intro d
  induction d with
  | zero =>
    intro p k hpd hk
    obtain ⟨k, rfl⟩ : ∃ m, k = m + 1 := ⟨k - 1, by omega⟩
    have hs := weightsR_sum (l := warmR l t top) (by omega) (by omega)
    have hwl : (weightsR (warmR l t top)).length = (kpt l top).length := by rw [weightsR, List.length_map, f3]
    rw [credenzaref20_Pick.l0, if_neg (by omega), List.take_of_length_le (by omega)]
    show ((credenzaref04_Weights.f k (warmR l t top)).bind _) = _
    rw [ref_Weights_some (by omega) (by omega) f4 (by omega), Option.bind_some, ref_draw seed idx (by omega), Option.bind_some, ref_Sum_some (by omega) (weightsR_wb _) (by omega), Option.bind_some]
    have e1 : IntKind.u64.wrap (sumR (weightsR (warmR l t top))) = sumR (weightsR (warmR l t top)) := by rw [IntKind.wrap_u64]; omega
    rw [e1, if_neg (by omega)]
    have e2 : Int.tmod (fin (seedOf seed idx) : Int) (sumR (weightsR (warmR l t top))) = (fin (seedOf seed idx) : Int) % sumR (weightsR (warmR l t top)) := Int.tmod_eq_emod_of_nonneg (by omega)
    have b1 := Int.emod_nonneg (fin (seedOf seed idx) : Int) (show sumR (weightsR (warmR l t top)) ≠ 0 by omega)
    have b2 := Int.emod_lt_of_pos (fin (seedOf seed idx) : Int) (show 0 < sumR (weightsR (warmR l t top)) by omega)
    rw [e2]
    have := ref_pick_l1 (kpt l top) (weightsR (warmR l t top)) hwl.symm (by omega) (weightsR_wb _) ((fin (seedOf seed idx) : Int) % sumR (weightsR (warmR l t top))) (by omega) (weightsR (warmR l t top)).length 0 k 0 (by omega) (by omega) (by omega) b1 (by rw [List.drop_zero, Int.sub_zero]; exact b2)
    rw [List.drop_zero, Nat.zero_add, Int.sub_zero] at this
    exact this
  | succ d ih =>
    intro p k hpd hk
    obtain ⟨k, rfl⟩ : ∃ m, k = m + 1 := ⟨k - 1, by omega⟩
    have hlt : p < (kpt l top).length := by omega
    have hr := kpt_rd hlt
    have hI : I32 (rd l (rd (kpt l top) (p : Int))) := by
      obtain ⟨q, hq⟩ : ∃ q : Nat, rd (kpt l top) (p : Int) = (q : Int) := ⟨(rd (kpt l top) (p : Int)).toNat, by omega⟩
      rw [hq]; exact hA _ (rd_mem (by omega))
    have hml : (((kpt l top).take p).map (fun x => divR (rd l x) t)).length ≤ 64 := by rw [List.length_map, List.length_take]; omega
    rw [credenzaref20_Pick.l0, if_pos (by omega), if_pos (by omega), if_pos (by omega), if_pos (by omega), ref_Div_some hI ht ht2, Option.bind_some, if_pos (by omega), wnext hlt (by omega)]
    have := ih (p + 1) k (by omega) (by omega)
    rw [take_rd hlt, List.map_append] at this
    exact this

/-- The pick, where it may be. -/
theorem pick_some {l : List Int} (hA : A32 l) (h : 0 < l.length) (hl : l.length ≤ 64) {t top : Int} (seed : Int) {idx : Int} (hR : rightR t top = true) (h0 : 0 ≤ idx) (h1 : idx ≤ 1024) {k : Nat} (hk : 300 ≤ k) :
    ∃ v : Int, pick_Pick.f k l t top seed idx = some (v, 0) ∧ v ∈ kpt l top ∧ (t = 0 → ∃ i : Nat, FirstT l i ∧ v = (i : Int)) ∧ (t ≠ 0 → v = pickR l t top seed idx) := by
  obtain ⟨k, rfl⟩ : ∃ m, k = m + 1 := ⟨k - 1, by omega⟩
  have hR' := hR
  unfold rightR at hR'
  rw [decide_eq_true_iff] at hR'
  rw [pick_Pick.f, if_neg (by omega), if_neg (by omega), pick_Right_some, hR, Option.bind_some, if_pos rfl, if_neg (by omega), decide_eq_false (by omega), pick_Pick.j0, if_neg (by simp)]
  by_cases ht : t = 0
  · rw [if_pos ht]
    obtain ⟨r, hr, he⟩ := dot_Top_first h (by omega) (k := k) (by omega)
    rw [he, Option.bind_some]
    exact ⟨_, rfl, first_in hr (by omega), fun _ => ⟨r, hr, rfl⟩, fun e => absurd ht e⟩
  · rw [if_neg ht, pick_Kept_some (by omega) (by omega), Option.bind_some]
    have := pick_l0 l hA h hl t top seed idx (by omega) (by omega) (by omega) (kpt l top).length 0 k (by omega) (by have := (warm_facts t h hl (top := top) (by omega)).2.1; omega)
    obtain ⟨f1, f2, f3, f4⟩ := warm_facts t h hl (top := top) (by omega)
    have hs := weightsR_sum (l := warmR l t top) (by omega) (by omega)
    have hwl : (weightsR (warmR l t top)).length = (kpt l top).length := by rw [weightsR, List.length_map, f3]
    refine ⟨_, this, ?_, fun e => absurd e ht, fun _ => rfl⟩
    have hlt := atR_lt (weightsR_wb (warmR l t top)) (Int.emod_lt_of_pos (fin (seedOf seed idx) : Int) (show 0 < sumR (weightsR (warmR l t top)) by omega)) (Int.emod_nonneg (fin (seedOf seed idx) : Int) (by omega))
    exact rd_mem (by omega)
theorem ref_pick_ev {l : List Int} (hA : A32 l) (h : 0 < l.length) (hl : l.length ≤ 64) {t top : Int} (seed : Int) {idx : Int} (hR : rightR t top = true) {v : Int} (h1 : t = 0 → ∃ i : Nat, FirstT l i ∧ v = (i : Int)) (h2 : t ≠ 0 → v = pickR l t top seed idx) :
    Ev (fun k => credenzaref20_Pick.f k l t top seed idx) v := by
  have hR' := hR
  unfold rightR at hR'
  rw [decide_eq_true_iff] at hR'
  by_cases ht : t = 0
  · obtain ⟨i, hi, rfl⟩ := h1 ht
    refine ⟨l.length + 1, fun k hk => ?_⟩
    obtain ⟨r, hr, he⟩ := ref_Top_first h (by omega) (k := k) (by omega)
    show credenzaref20_Pick.f k l t top seed idx = _
    rw [credenzaref20_Pick.f, if_pos ht, he, Option.bind_some, firstT_uniq hi hr]
  · rw [h2 ht]
    refine Ev.congr (f := fun k => (credenzaref20_Kept.f k l top).bind fun t334 => credenzaref20_Pick.l0 k l t seed idx t334 ([] : List Int) 0) (fun k => by rw [credenzaref20_Pick.f, if_neg ht]) (Ev.bind (ref_Kept_ev l top (by omega)) ⟨300, fun k hk => ?_⟩)
    exact ref_pick_l0 l hA h hl t top seed idx (by omega) (by omega) (by omega) (kpt l top).length 0 k (by omega) (by have := (warm_facts t h hl (top := top) (by omega)).2.1; omega)
end Go.Proofs.Ytmldhpnkkkmloaa.Pure

namespace Go.Proofs.Ytmldhpnkkkmloaa.Q
open Go.RowKit Go.Proofs.YtmldhpnkkkmloaaW.PrintWords Go.Proofs.YtmldhpnkkkmloaaW.PrintLast Go.Proofs.YtmldhpnkkkmloaaW.PrintMore
attribute [local go_sem] max2_int min2_int max_two min_two max_three min_three max_four min_four   -- for this text's walks alone
set_option linter.unusedVariables false
set_option linter.unusedSimpArgs false

/-! ### credenzalaw20_PickPicks: function 3 -/
mutual
def credenzalaw20_PickPicks.j0 : Nat → Int → Int → Int → Int → List Int → Int → Int → Int → Option (Bool)
  | 0, _, _, _, _, _, _, _, _ => none
  | k + 1, x1, x5, x6, x8, x351000, x351001, x351002, x351003 => if x8 = 0 then ((credenzaref20_Kept.f k x351000 x351002).bind fun t357 => (credenzalaw20_PickPicks.l0 k x1 x5 x6 false t357 (t357.length : Int) 0 x351000 x351001 x351002 x351003)) else (if x6 = x8 then (if x5 = 0 then ((credenzalaw20_awake.f k).bind fun t356 => (some t356)) else (some false)) else (some false))
def credenzalaw20_PickPicks.l0 : Nat → Int → Int → Int → Bool → List Int → Int → Int → List Int → Int → Int → Int → Option (Bool)
  | 0, _, _, _, _, _, _, _, _, _, _, _ => none
  | k + 1, x1, x5, x6, x9, x76, x77, x78, x351000, x351001, x351002, x351003 => if x78 < x77 then (if 0 ≤ x78 then (if x78 < (x76.length : Int) then (if x9 = true then (credenzalaw20_PickPicks.l0 k x1 x5 x6 true x76 x77 (wrap64 (x78 + 1)) x351000 x351001 x351002 x351003) else (credenzalaw20_PickPicks.l0 k x1 x5 x6 ((rd x76 x78) == x5) x76 x77 (wrap64 (x78 + 1)) x351000 x351001 x351002 x351003)) else (none)) else (none)) else (if x6 = 0 then (if x9 = true then ((credenzaref20_Pick.f k x351000 x351001 x351002 x351003 x1).bind fun t361 => (if x5 = t361 then ((credenzalaw20_awake.f k).bind fun t362 => (some t362)) else (some false))) else (some false)) else (some false))
end
def credenzalaw20_PickPicks.f (k : Nat) (l0_0 : List Int) (a0_1 : Int) (a0_2 : Int) (a0_3 : Int) (a1 : Int) : Option (Bool) := if (l0_0.length : Int) > 200 then ((credenzalaw20_awake.f k).bind fun t351 => (some t351)) else ((pick_Pick.f k l0_0 a0_1 a0_2 a0_3 a1).bind fun bt352 => ((credenzaref20_Right.f a0_1 a0_2).bind fun t354 => ((pick_Right.f a0_1 a0_2 a0_3).bind fun t355 => (if (t355 != t354) = true then (some false) else (if (l0_0.length : Int) = 0 then (credenzalaw20_PickPicks.j0 k a1 bt352.1 bt352.2 14 l0_0 a0_1 a0_2 a0_3) else (if (l0_0.length : Int) > 64 then (credenzalaw20_PickPicks.j0 k a1 bt352.1 bt352.2 12 l0_0 a0_1 a0_2 a0_3) else (if t354 = true then (if a1 < 0 then (credenzalaw20_PickPicks.j0 k a1 bt352.1 bt352.2 11 l0_0 a0_1 a0_2 a0_3) else (if a1 > 1024 then (credenzalaw20_PickPicks.j0 k a1 bt352.1 bt352.2 11 l0_0 a0_1 a0_2 a0_3) else (credenzalaw20_PickPicks.j0 k a1 bt352.1 bt352.2 0 l0_0 a0_1 a0_2 a0_3))) else (credenzalaw20_PickPicks.j0 k a1 bt352.1 bt352.2 11 l0_0 a0_1 a0_2 a0_3))))))))
theorem credenzalaw20_PickPicks.mono_l : ∀ k, (∀ y0 y1 y2 y3 y4 y5 y6 y7, LeO (credenzalaw20_PickPicks.j0 k y0 y1 y2 y3 y4 y5 y6 y7) (credenzalaw20_PickPicks.j0 (k + 1) y0 y1 y2 y3 y4 y5 y6 y7)) ∧ (∀ y0 y1 y2 y3 y4 y5 y6 y7 y8 y9 y10, LeO (credenzalaw20_PickPicks.l0 k y0 y1 y2 y3 y4 y5 y6 y7 y8 y9 y10) (credenzalaw20_PickPicks.l0 (k + 1) y0 y1 y2 y3 y4 y5 y6 y7 y8 y9 y10))
  | 0 => ⟨fun _ _ _ _ _ _ _ _ r h => by simp [credenzalaw20_PickPicks.j0] at h, fun _ _ _ _ _ _ _ _ _ _ _ r h => by simp [credenzalaw20_PickPicks.l0] at h⟩
  | k + 1 => by
    obtain ⟨ih0, ih1⟩ := credenzalaw20_PickPicks.mono_l k
    refine ⟨?_, ?_⟩
    · intro y0 y1 y2 y3 y4 y5 y6 y7
      unfold credenzalaw20_PickPicks.j0
      repeat' first
      | (with_reducible exact ih0 _ _ _ _ _ _ _ _)
      | (with_reducible exact ih1 _ _ _ _ _ _ _ _ _ _ _)
      | (with_reducible exact credenzalaw20_awake.mono _)
      | (with_reducible exact credenzaref20_Kept.mono _ _ _)
      | (with_reducible exact credenzaref20_Pick.mono _ _ _ _ _ _)
      | (with_reducible exact pick_Pick.mono _ _ _ _ _ _)
      | (with_reducible exact LeO.refl _)
      | (with_reducible exact LeO.none _)
      | (with_reducible refine LeO.ite ?_ ?_)
      | (with_reducible refine LeO.bind ?_ (fun _ => ?_))
      | exact ih0 _ _ _ _ _ _ _ _
      | exact ih1 _ _ _ _ _ _ _ _ _ _ _
      | exact credenzalaw20_awake.mono _
      | exact credenzaref20_Kept.mono _ _ _
      | exact credenzaref20_Pick.mono _ _ _ _ _ _
      | exact pick_Pick.mono _ _ _ _ _ _
      | exact LeO.none _
      | refine LeO.ite ?_ ?_
      | refine LeO.bind ?_ (fun _ => ?_)
    · intro y0 y1 y2 y3 y4 y5 y6 y7 y8 y9 y10
      unfold credenzalaw20_PickPicks.l0
      repeat' first
      | (with_reducible exact ih0 _ _ _ _ _ _ _ _)
      | (with_reducible exact ih1 _ _ _ _ _ _ _ _ _ _ _)
      | (with_reducible exact credenzalaw20_awake.mono _)
      | (with_reducible exact credenzaref20_Kept.mono _ _ _)
      | (with_reducible exact credenzaref20_Pick.mono _ _ _ _ _ _)
      | (with_reducible exact pick_Pick.mono _ _ _ _ _ _)
      | (with_reducible exact LeO.refl _)
      | (with_reducible exact LeO.none _)
      | (with_reducible refine LeO.ite ?_ ?_)
      | (with_reducible refine LeO.bind ?_ (fun _ => ?_))
      | exact ih0 _ _ _ _ _ _ _ _
      | exact ih1 _ _ _ _ _ _ _ _ _ _ _
      | exact credenzalaw20_awake.mono _
      | exact credenzaref20_Kept.mono _ _ _
      | exact credenzaref20_Pick.mono _ _ _ _ _ _
      | exact pick_Pick.mono _ _ _ _ _ _
      | exact LeO.none _
      | refine LeO.ite ?_ ?_
      | refine LeO.bind ?_ (fun _ => ?_)
theorem credenzalaw20_PickPicks.mono : ∀ a0 a1 a2 a3 a4 k, LeO (credenzalaw20_PickPicks.f k a0 a1 a2 a3 a4) (credenzalaw20_PickPicks.f (k + 1) a0 a1 a2 a3 a4) := by
  intro a0 a1 a2 a3 a4 k
  obtain ⟨ih0, ih1⟩ := credenzalaw20_PickPicks.mono_l k
  unfold credenzalaw20_PickPicks.f
  repeat' first
      | (with_reducible exact ih0 _ _ _ _ _ _ _ _)
      | (with_reducible exact ih1 _ _ _ _ _ _ _ _ _ _ _)
      | (with_reducible exact credenzalaw20_awake.mono _)
      | (with_reducible exact credenzaref20_Kept.mono _ _ _)
      | (with_reducible exact credenzaref20_Pick.mono _ _ _ _ _ _)
      | (with_reducible exact pick_Pick.mono _ _ _ _ _ _)
      | (with_reducible exact LeO.refl _)
      | (with_reducible exact LeO.none _)
      | (with_reducible refine LeO.ite ?_ ?_)
      | (with_reducible refine LeO.bind ?_ (fun _ => ?_))
      | exact ih0 _ _ _ _ _ _ _ _
      | exact ih1 _ _ _ _ _ _ _ _ _ _ _
      | exact credenzalaw20_awake.mono _
      | exact credenzaref20_Kept.mono _ _ _
      | exact credenzaref20_Pick.mono _ _ _ _ _ _
      | exact pick_Pick.mono _ _ _ _ _ _
      | exact LeO.none _
      | refine LeO.ite ?_ ?_
      | refine LeO.bind ?_ (fun _ => ?_)
set_option maxHeartbeats 8000000 in
set_option maxRecDepth 100000 in
theorem credenzalaw20_PickPicks.calls (k : Nat) (A0_0 : Option Addr) (c0_0 : Nat) (l0_0 : List Int) (a0_1 : Int) (a0_2 : Int) (a0_3 : Int) (a1 : Int) (r : Bool) (w : World) (hr0_0 : Kd.C (Kd.int .i32) w A0_0 l0_0.length l0_0) (hc0_0 : l0_0.length ≤ c0_0) (h : credenzalaw20_PickPicks.f k l0_0 a0_1 a0_2 a0_3 a1 = some r) :
    Calls Try.prog 3 #[.agg #[.slice A0_0 l0_0.length c0_0, .int .i32 a0_1, .int .i64 a0_2, .int .u64 a0_3], .int .i64 a1] w fun e w' => e = .returned (.bool r) ∧ Below w.heap.size w w' := by
  have hu27 := Try.underlying27
  have hu25 := Try.underlying25
  have HR0_0 := Aside0.mk hr0_0
  have HC0_0 := Aside0.mk hc0_0
  clear hr0_0 hc0_0
  have HB := Aside0.mk (Below.refl w.heap.size w)
  have H : (if (l0_0.length : Int) > 200 then ((credenzalaw20_awake.f k).bind fun t351 => (some t351)) else ((pick_Pick.f k l0_0 a0_1 a0_2 a0_3 a1).bind fun bt352 => ((credenzaref20_Right.f a0_1 a0_2).bind fun t354 => ((pick_Right.f a0_1 a0_2 a0_3).bind fun t355 => (if (t355 != t354) = true then (some false) else (if (l0_0.length : Int) = 0 then (credenzalaw20_PickPicks.j0 k a1 bt352.1 bt352.2 14 l0_0 a0_1 a0_2 a0_3) else (if (l0_0.length : Int) > 64 then (credenzalaw20_PickPicks.j0 k a1 bt352.1 bt352.2 12 l0_0 a0_1 a0_2 a0_3) else (if t354 = true then (if a1 < 0 then (credenzalaw20_PickPicks.j0 k a1 bt352.1 bt352.2 11 l0_0 a0_1 a0_2 a0_3) else (if a1 > 1024 then (credenzalaw20_PickPicks.j0 k a1 bt352.1 bt352.2 11 l0_0 a0_1 a0_2 a0_3) else (credenzalaw20_PickPicks.j0 k a1 bt352.1 bt352.2 0 l0_0 a0_1 a0_2 a0_3))) else (credenzalaw20_PickPicks.j0 k a1 bt352.1 bt352.2 11 l0_0 a0_1 a0_2 a0_3))))))))) = some r := h
  clear h
  by_cases c3 : (l0_0.length : Int) > 200
  · rw [if_pos c3] at H
    have c3b0 : decide (200 < (l0_0.length : Int)) = true := decide_eq_true c3
    have c3b1 : decide (200 < l0_0.length) = true := decide_eq_true (by omega)
    clear c3
    replace H := Option.bind_eq_some_iff.mp H
    obtain ⟨t351, A40, H⟩ := H
    replace H : (some t351) = some r := H
    have A4 := Aside0.mk A40
    clear A40
    obtain rfl := Option.some.inj H
    go_enter Try.func3, Try.ntmps3
    go_wp2_with (first | ((with_reducible refine gate_dst (N := 2) rfl ?_); refine box_event ?hg (N := 2) ?hd (cs := #[.slice A0_0 l0_0.length c0_0, .int .i32 a0_1, .int .i64 a0_2, .int .u64 a0_3]) (t := 27) ?hr ?_; (case hd => rfl); (case hg => rfl); (case hr => first | (go_simp; done) | (go_simp; rfl)); intro gb350 hg w5 hbox hb; have n0_ := Aside0.mk (below_step (by repeat (first | (with_reducible first | exact HB.out | apply below_alloc | apply pw_below_drewN | apply below_drew1) | exact HB.out)) hb); have n1_ := Aside0.mk (hbox); have n2_ := Aside0.mk ((by rw [hg]; exact (below_size (by repeat (first | (with_reducible first | exact HB.out | apply below_alloc | apply pw_below_drewN | apply below_drew1) | exact HB.out))) : w.heap.size ≤ gb350)); have n3_ := Aside0.mk ((by rw [hg]; exact (below_size (by repeat (first | (with_reducible first | exact HB.out | apply below_alloc | apply pw_below_drewN | apply below_drew1) | exact HB.out))) : w.heap.size ≤ gb350)); clear HB; have HB := n0_; have BK350 := n1_; have GW350 := n2_; have GE350 := n3_; clear n0_ n1_ n2_ n3_; clear hb hbox hg; have hcz6_0 : w5.cell? ⟨gb350, 0, none⟩ = some (.slice A0_0 l0_0.length c0_0) := (blk_cell BK350.out 0).trans rfl; have hcz6_1 : w5.cell? ⟨gb350, 1, none⟩ = some (.int .i32 a0_1) := (blk_cell BK350.out 1).trans rfl; have hcz6_2 : w5.cell? ⟨gb350, 2, none⟩ = some (.int .i64 a0_2) := (blk_cell BK350.out 2).trans rfl; have hcz6_3 : w5.cell? ⟨gb350, 3, none⟩ = some (.int .u64 a0_3) := (blk_cell BK350.out 3).trans rfl; have hfz6_0 := blk_frozen BK350.out 0; have hfz6_1 := blk_frozen BK350.out 1; have hfz6_2 := blk_frozen BK350.out 2; have hfz6_3 := blk_frozen BK350.out 3) | ((with_reducible refine gate_callee (f := 8) rfl ?_); refine goesL_ (some 16) rfl rfl Try.func8 (by kernel_rfl) rfl #[] rfl (by (try simp only [List.map_toArray, List.map_cons, List.map_nil]); first | done | rfl | (simp only [List.length_drop, List.length_take]; rfl)) ?_; (with_reducible refine (credenzalaw20_awake.calls k  t351 _ A4.out).mono ?_); rintro e w7 ⟨rfl, hb⟩; refine ⟨_, rfl, ?_⟩; have n0_ := Aside0.mk (blk_below (g := gb350) (o := .cells #[.slice A0_0 l0_0.length c0_0, .int .i32 a0_1, .int .i64 a0_2, .int .u64 a0_3] 27 (0, 0)) (by (with_reducible repeat (first | refine blk_drewN ?_ _ | refine blk_drew ?_ | refine blk_alloc ?_ _)); exact BK350.out) hb); have n1_ := Aside0.mk (below_step (by repeat (first | (with_reducible first | exact HB.out | apply below_alloc | apply pw_below_drewN | apply below_drew1 | refine below_set ?_ GE350.out) | exact HB.out)) hb); clear BK350; clear HB; have BK350 := n0_; have HB := n1_; clear n0_ n1_; (try clear hb); (try clear hb2); (try clear hk); (try clear hi)))
    go_ret
    exact ⟨by first | rfl | (simp [errW_none, errW_some] <;> rfl) | (simp [*, errW_none, errW_some] <;> rfl), by repeat (first | (with_reducible first | exact HB.out | apply below_alloc | apply pw_below_drewN | apply below_drew1 | refine below_set ?_ GE350.out) | exact HB.out)⟩
  · rw [if_neg c3] at H
    have c3b0 : decide (200 < (l0_0.length : Int)) = false := decide_eq_false c3
    have c3b1 : decide (200 < l0_0.length) = false := decide_eq_false (by omega)
    clear c3
    replace H := Option.bind_eq_some_iff.mp H
    obtain ⟨⟨t352, t353⟩, A80, H⟩ := H
    replace H : ((credenzaref20_Right.f a0_1 a0_2).bind fun t354 => ((pick_Right.f a0_1 a0_2 a0_3).bind fun t355 => (if (t355 != t354) = true then (some false) else (if (l0_0.length : Int) = 0 then (credenzalaw20_PickPicks.j0 k a1 t352 t353 14 l0_0 a0_1 a0_2 a0_3) else (if (l0_0.length : Int) > 64 then (credenzalaw20_PickPicks.j0 k a1 t352 t353 12 l0_0 a0_1 a0_2 a0_3) else (if t354 = true then (if a1 < 0 then (credenzalaw20_PickPicks.j0 k a1 t352 t353 11 l0_0 a0_1 a0_2 a0_3) else (if a1 > 1024 then (credenzalaw20_PickPicks.j0 k a1 t352 t353 11 l0_0 a0_1 a0_2 a0_3) else (credenzalaw20_PickPicks.j0 k a1 t352 t353 0 l0_0 a0_1 a0_2 a0_3))) else (credenzalaw20_PickPicks.j0 k a1 t352 t353 11 l0_0 a0_1 a0_2 a0_3))))))) = some r := H
    have A8 := Aside0.mk A80
    clear A80
    replace H := Option.bind_eq_some_iff.mp H
    obtain ⟨t354, A90, H⟩ := H
    replace H : ((pick_Right.f a0_1 a0_2 a0_3).bind fun t355 => (if (t355 != t354) = true then (some false) else (if (l0_0.length : Int) = 0 then (credenzalaw20_PickPicks.j0 k a1 t352 t353 14 l0_0 a0_1 a0_2 a0_3) else (if (l0_0.length : Int) > 64 then (credenzalaw20_PickPicks.j0 k a1 t352 t353 12 l0_0 a0_1 a0_2 a0_3) else (if t354 = true then (if a1 < 0 then (credenzalaw20_PickPicks.j0 k a1 t352 t353 11 l0_0 a0_1 a0_2 a0_3) else (if a1 > 1024 then (credenzalaw20_PickPicks.j0 k a1 t352 t353 11 l0_0 a0_1 a0_2 a0_3) else (credenzalaw20_PickPicks.j0 k a1 t352 t353 0 l0_0 a0_1 a0_2 a0_3))) else (credenzalaw20_PickPicks.j0 k a1 t352 t353 11 l0_0 a0_1 a0_2 a0_3)))))) = some r := H
    have A9 := Aside0.mk A90
    clear A90
    replace H := Option.bind_eq_some_iff.mp H
    obtain ⟨t355, A100, H⟩ := H
    replace H : (if (t355 != t354) = true then (some false) else (if (l0_0.length : Int) = 0 then (credenzalaw20_PickPicks.j0 k a1 t352 t353 14 l0_0 a0_1 a0_2 a0_3) else (if (l0_0.length : Int) > 64 then (credenzalaw20_PickPicks.j0 k a1 t352 t353 12 l0_0 a0_1 a0_2 a0_3) else (if t354 = true then (if a1 < 0 then (credenzalaw20_PickPicks.j0 k a1 t352 t353 11 l0_0 a0_1 a0_2 a0_3) else (if a1 > 1024 then (credenzalaw20_PickPicks.j0 k a1 t352 t353 11 l0_0 a0_1 a0_2 a0_3) else (credenzalaw20_PickPicks.j0 k a1 t352 t353 0 l0_0 a0_1 a0_2 a0_3))) else (credenzalaw20_PickPicks.j0 k a1 t352 t353 11 l0_0 a0_1 a0_2 a0_3))))) = some r := H
    have A10 := Aside0.mk A100
    clear A100
    by_cases c11 : (t355 != t354) = true
    · rw [if_pos c11] at H
      have c11b0 : (t355 != t354) = true := c11
      (try (have c11b1 : decide (t355 = t354) = false := by simpa using c11))
      (try (have c11b2 : (t355 == t354) = false := by simpa using c11))
      (try (have c11b3 : ¬ (t355 = t354) := by simpa using c11))
      clear c11
      obtain rfl := Option.some.inj H
      go_enter Try.func3, Try.ntmps3
      go_wp2_with (first | ((with_reducible refine gate_dst (N := 2) rfl ?_); refine box_event ?hg (N := 2) ?hd (cs := #[.slice A0_0 l0_0.length c0_0, .int .i32 a0_1, .int .i64 a0_2, .int .u64 a0_3]) (t := 27) ?hr ?_; (case hd => rfl); (case hg => rfl); (case hr => first | (go_simp; done) | (go_simp; rfl)); intro gb350 hg w12 hbox hb; have n0_ := Aside0.mk (below_step (by repeat (first | (with_reducible first | exact HB.out | apply below_alloc | apply pw_below_drewN | apply below_drew1) | exact HB.out)) hb); have n1_ := Aside0.mk (hbox); have n2_ := Aside0.mk ((by rw [hg]; exact (below_size (by repeat (first | (with_reducible first | exact HB.out | apply below_alloc | apply pw_below_drewN | apply below_drew1) | exact HB.out))) : w.heap.size ≤ gb350)); have n3_ := Aside0.mk ((by rw [hg]; exact (below_size (by repeat (first | (with_reducible first | exact HB.out | apply below_alloc | apply pw_below_drewN | apply below_drew1) | exact HB.out))) : w.heap.size ≤ gb350)); clear HB; have HB := n0_; have BK350 := n1_; have GW350 := n2_; have GE350 := n3_; clear n0_ n1_ n2_ n3_; clear hb hbox hg; have hcz13_0 : w12.cell? ⟨gb350, 0, none⟩ = some (.slice A0_0 l0_0.length c0_0) := (blk_cell BK350.out 0).trans rfl; have hcz13_1 : w12.cell? ⟨gb350, 1, none⟩ = some (.int .i32 a0_1) := (blk_cell BK350.out 1).trans rfl; have hcz13_2 : w12.cell? ⟨gb350, 2, none⟩ = some (.int .i64 a0_2) := (blk_cell BK350.out 2).trans rfl; have hcz13_3 : w12.cell? ⟨gb350, 3, none⟩ = some (.int .u64 a0_3) := (blk_cell BK350.out 3).trans rfl; have hfz13_0 := blk_frozen BK350.out 0; have hfz13_1 := blk_frozen BK350.out 1; have hfz13_2 := blk_frozen BK350.out 2; have hfz13_3 := blk_frozen BK350.out 3) | ((with_reducible refine gate_callee (f := 9) rfl ?_); refine goesL_ (some 23) rfl rfl Try.func9 (by kernel_rfl) rfl #[.slice A0_0 l0_0.length c0_0, .agg #[.int .i32 a0_1, .int .i64 a0_2, .int .u64 a0_3], .int .i64 a1] rfl (by (try simp only [List.map_toArray, List.map_cons, List.map_nil]); first | done | rfl | (simp only [List.length_drop, List.length_take]; rfl)) ?_; (with_reducible refine (pick_Pick.calls k _ _ l0_0 a0_1 a0_2 a0_3 a1 t352 t353 _ ?side1 ?side2 A8.out).mono ?_); (case side1 => repeat (first | exact (Kd.C_below HR0_0.out HB.out) | (with_reducible refine Kd.C_alloc ?_ _) | (with_reducible refine Kd.C_drewN ?_ _) | (with_reducible refine Kd.C_drew ?_))); (case side2 => exact HC0_0.out); rintro e w14 ⟨rfl, hb⟩; refine ⟨_, rfl, ?_⟩; have n0_ := Aside0.mk (blk_below (g := gb350) (o := .cells #[.slice A0_0 l0_0.length c0_0, .int .i32 a0_1, .int .i64 a0_2, .int .u64 a0_3] 27 (0, 0)) (by (with_reducible repeat (first | refine blk_drewN ?_ _ | refine blk_drew ?_ | refine blk_alloc ?_ _)); exact BK350.out) hb); have n1_ := Aside0.mk (below_step (by repeat (first | (with_reducible first | exact HB.out | apply below_alloc | apply pw_below_drewN | apply below_drew1 | refine below_set ?_ GE350.out) | exact HB.out)) hb); clear BK350; clear HB; have BK350 := n0_; have HB := n1_; clear n0_ n1_; (try clear hb); (try clear hb2); (try clear hk); (try clear hi); have hcz15_0 : w14.cell? ⟨gb350, 0, none⟩ = some (.slice A0_0 l0_0.length c0_0) := (blk_cell BK350.out 0).trans rfl; have hcz15_1 : w14.cell? ⟨gb350, 1, none⟩ = some (.int .i32 a0_1) := (blk_cell BK350.out 1).trans rfl; have hcz15_2 : w14.cell? ⟨gb350, 2, none⟩ = some (.int .i64 a0_2) := (blk_cell BK350.out 2).trans rfl; have hcz15_3 : w14.cell? ⟨gb350, 3, none⟩ = some (.int .u64 a0_3) := (blk_cell BK350.out 3).trans rfl; have hfz15_0 := blk_frozen BK350.out 0; have hfz15_1 := blk_frozen BK350.out 1; have hfz15_2 := blk_frozen BK350.out 2; have hfz15_3 := blk_frozen BK350.out 3) | ((with_reducible refine gate_callee (f := 10) rfl ?_); refine goesL_ (some 32) rfl rfl Try.func10 (by kernel_rfl) rfl #[.int .i32 a0_1, .int .i64 a0_2] rfl (by (try simp only [List.map_toArray, List.map_cons, List.map_nil]); first | done | rfl | (simp only [List.length_drop, List.length_take]; rfl)) ?_; (with_reducible refine (credenzaref20_Right.calls a0_1 a0_2 t354 _ A9.out).mono ?_); rintro e w' ⟨rfl, ⟨nd, rfl⟩⟩; refine ⟨_, rfl, ?_⟩) | ((with_reducible refine gate_callee (f := 11) rfl ?_); refine goesL_ (some 35) rfl rfl Try.func11 (by kernel_rfl) rfl #[.agg #[.int .i32 a0_1, .int .i64 a0_2, .int .u64 a0_3]] rfl (by (try simp only [List.map_toArray, List.map_cons, List.map_nil]); first | done | rfl | (simp only [List.length_drop, List.length_take]; rfl)) ?_; (with_reducible refine (pick_Right.calls a0_1 a0_2 a0_3 t355 _ A10.out).mono ?_); rintro e w16 ⟨rfl, hb⟩; refine ⟨_, rfl, ?_⟩; have n0_ := Aside0.mk (blk_below (g := gb350) (o := .cells #[.slice A0_0 l0_0.length c0_0, .int .i32 a0_1, .int .i64 a0_2, .int .u64 a0_3] 27 (0, 0)) (by (with_reducible repeat (first | refine blk_drewN ?_ _ | refine blk_drew ?_ | refine blk_alloc ?_ _)); exact BK350.out) hb); have n1_ := Aside0.mk (below_step (by repeat (first | (with_reducible first | exact HB.out | apply below_alloc | apply pw_below_drewN | apply below_drew1 | refine below_set ?_ GE350.out) | exact HB.out)) hb); clear BK350; clear HB; have BK350 := n0_; have HB := n1_; clear n0_ n1_; (try clear hb); (try clear hb2); (try clear hk); (try clear hi)))
      go_ret
      exact ⟨by first | rfl | (simp [errW_none, errW_some] <;> rfl) | (simp [*, errW_none, errW_some] <;> rfl), by repeat (first | (with_reducible first | exact HB.out | apply below_alloc | apply pw_below_drewN | apply below_drew1 | refine below_set ?_ GE350.out) | exact HB.out)⟩
    · rw [if_neg c11] at H
      have c11b0 : (t355 != t354) = false := by simpa using c11
      (try (have c11b1 : decide (t355 = t354) = true := by simpa using c11))
      (try (have c11b2 : (t355 == t354) = true := by simpa using c11))
      clear c11
      have HC17 := Aside0.mk H
      clear H
      go_enter Try.func3, Try.ntmps3
      go_upto_block 0 with (first | ((with_reducible refine gate_dst (N := 2) rfl ?_); refine box_event ?hg (N := 2) ?hd (cs := #[.slice A0_0 l0_0.length c0_0, .int .i32 a0_1, .int .i64 a0_2, .int .u64 a0_3]) (t := 27) ?hr ?_; (case hd => rfl); (case hg => rfl); (case hr => first | (go_simp; done) | (go_simp; rfl)); intro gb350 hg w18 hbox hb; have n0_ := Aside0.mk (below_step (by repeat (first | (with_reducible first | exact HB.out | apply below_alloc | apply pw_below_drewN | apply below_drew1) | exact HB.out)) hb); have n1_ := Aside0.mk (hbox); have n2_ := Aside0.mk ((by rw [hg]; exact (below_size (by repeat (first | (with_reducible first | exact HB.out | apply below_alloc | apply pw_below_drewN | apply below_drew1) | exact HB.out))) : w.heap.size ≤ gb350)); have n3_ := Aside0.mk ((by rw [hg]; exact (below_size (by repeat (first | (with_reducible first | exact HB.out | apply below_alloc | apply pw_below_drewN | apply below_drew1) | exact HB.out))) : w.heap.size ≤ gb350)); clear HB; have HB := n0_; have BK350 := n1_; have GW350 := n2_; have GE350 := n3_; clear n0_ n1_ n2_ n3_; clear hb hbox hg; have hcz19_0 : w18.cell? ⟨gb350, 0, none⟩ = some (.slice A0_0 l0_0.length c0_0) := (blk_cell BK350.out 0).trans rfl; have hcz19_1 : w18.cell? ⟨gb350, 1, none⟩ = some (.int .i32 a0_1) := (blk_cell BK350.out 1).trans rfl; have hcz19_2 : w18.cell? ⟨gb350, 2, none⟩ = some (.int .i64 a0_2) := (blk_cell BK350.out 2).trans rfl; have hcz19_3 : w18.cell? ⟨gb350, 3, none⟩ = some (.int .u64 a0_3) := (blk_cell BK350.out 3).trans rfl; have hfz19_0 := blk_frozen BK350.out 0; have hfz19_1 := blk_frozen BK350.out 1; have hfz19_2 := blk_frozen BK350.out 2; have hfz19_3 := blk_frozen BK350.out 3) | ((with_reducible refine gate_callee (f := 9) rfl ?_); refine goesL_ (some 23) rfl rfl Try.func9 (by kernel_rfl) rfl #[.slice A0_0 l0_0.length c0_0, .agg #[.int .i32 a0_1, .int .i64 a0_2, .int .u64 a0_3], .int .i64 a1] rfl (by (try simp only [List.map_toArray, List.map_cons, List.map_nil]); first | done | rfl | (simp only [List.length_drop, List.length_take]; rfl)) ?_; (with_reducible refine (pick_Pick.calls k _ _ l0_0 a0_1 a0_2 a0_3 a1 t352 t353 _ ?side1 ?side2 A8.out).mono ?_); (case side1 => repeat (first | exact (Kd.C_below HR0_0.out HB.out) | (with_reducible refine Kd.C_alloc ?_ _) | (with_reducible refine Kd.C_drewN ?_ _) | (with_reducible refine Kd.C_drew ?_))); (case side2 => exact HC0_0.out); rintro e w20 ⟨rfl, hb⟩; refine ⟨_, rfl, ?_⟩; have n0_ := Aside0.mk (blk_below (g := gb350) (o := .cells #[.slice A0_0 l0_0.length c0_0, .int .i32 a0_1, .int .i64 a0_2, .int .u64 a0_3] 27 (0, 0)) (by (with_reducible repeat (first | refine blk_drewN ?_ _ | refine blk_drew ?_ | refine blk_alloc ?_ _)); exact BK350.out) hb); have n1_ := Aside0.mk (below_step (by repeat (first | (with_reducible first | exact HB.out | apply below_alloc | apply pw_below_drewN | apply below_drew1 | refine below_set ?_ GE350.out) | exact HB.out)) hb); clear BK350; clear HB; have BK350 := n0_; have HB := n1_; clear n0_ n1_; (try clear hb); (try clear hb2); (try clear hk); (try clear hi); have hcz21_0 : w20.cell? ⟨gb350, 0, none⟩ = some (.slice A0_0 l0_0.length c0_0) := (blk_cell BK350.out 0).trans rfl; have hcz21_1 : w20.cell? ⟨gb350, 1, none⟩ = some (.int .i32 a0_1) := (blk_cell BK350.out 1).trans rfl; have hcz21_2 : w20.cell? ⟨gb350, 2, none⟩ = some (.int .i64 a0_2) := (blk_cell BK350.out 2).trans rfl; have hcz21_3 : w20.cell? ⟨gb350, 3, none⟩ = some (.int .u64 a0_3) := (blk_cell BK350.out 3).trans rfl; have hfz21_0 := blk_frozen BK350.out 0; have hfz21_1 := blk_frozen BK350.out 1; have hfz21_2 := blk_frozen BK350.out 2; have hfz21_3 := blk_frozen BK350.out 3) | ((with_reducible refine gate_callee (f := 10) rfl ?_); refine goesL_ (some 32) rfl rfl Try.func10 (by kernel_rfl) rfl #[.int .i32 a0_1, .int .i64 a0_2] rfl (by (try simp only [List.map_toArray, List.map_cons, List.map_nil]); first | done | rfl | (simp only [List.length_drop, List.length_take]; rfl)) ?_; (with_reducible refine (credenzaref20_Right.calls a0_1 a0_2 t354 _ A9.out).mono ?_); rintro e w' ⟨rfl, ⟨nd, rfl⟩⟩; refine ⟨_, rfl, ?_⟩) | ((with_reducible refine gate_callee (f := 11) rfl ?_); refine goesL_ (some 35) rfl rfl Try.func11 (by kernel_rfl) rfl #[.agg #[.int .i32 a0_1, .int .i64 a0_2, .int .u64 a0_3]] rfl (by (try simp only [List.map_toArray, List.map_cons, List.map_nil]); first | done | rfl | (simp only [List.length_drop, List.length_take]; rfl)) ?_; (with_reducible refine (pick_Right.calls a0_1 a0_2 a0_3 t355 _ A10.out).mono ?_); rintro e w22 ⟨rfl, hb⟩; refine ⟨_, rfl, ?_⟩; have n0_ := Aside0.mk (blk_below (g := gb350) (o := .cells #[.slice A0_0 l0_0.length c0_0, .int .i32 a0_1, .int .i64 a0_2, .int .u64 a0_3] 27 (0, 0)) (by (with_reducible repeat (first | refine blk_drewN ?_ _ | refine blk_drew ?_ | refine blk_alloc ?_ _)); exact BK350.out) hb); have n1_ := Aside0.mk (below_step (by repeat (first | (with_reducible first | exact HB.out | apply below_alloc | apply pw_below_drewN | apply below_drew1 | refine below_set ?_ GE350.out) | exact HB.out)) hb); clear BK350; clear HB; have BK350 := n0_; have HB := n1_; clear n0_ n1_; (try clear hb); (try clear hb2); (try clear hk); (try clear hi)))
      (try simp only [Act.put, List.setIfInBounds_toArray, List.set_cons_zero, List.set_cons_succ])
      go_cut [8] (fun v8 wc => ∃ (kq : Nat) (x8_16 : Int), v8 = .int .i64 x8_16 ∧ Aside0 (credenzalaw20_PickPicks.j0 kq a1 t352 t353 x8_16 l0_0 a0_1 a0_2 a0_3 = some r) ∧ Aside0 (kq ≤ k) ∧ Aside0 (wc.heap[gb350]? = some (.cells #[(.slice A0_0 l0_0.length c0_0), .int .i32 a0_1, .int .i64 a0_2, .int .u64 a0_3] 27 (0, 0))) ∧ Aside0 (Below w.heap.size w wc))
      case first =>
        have H := HC17.out
        clear HC17
        by_cases c23 : (l0_0.length : Int) = 0
        · rw [if_pos c23] at H
          have c23b0 : ((l0_0.length : Int) == 0) = true := beq_iff_eq.mpr c23
          have c23b1 : ((l0_0.length : Int) != 0) = false := bne_eq_false_iff_eq.mpr c23
          clear c23
          (first | rw [c23b0] | (simp only [i64_w, i32_w]; rw [c23b0]) | skip)
          have H' := Aside0.mk H
          clear H
          have hcz24_0 : w22.cell? ⟨gb350, 0, none⟩ = some (.slice A0_0 l0_0.length c0_0) := (blk_cell BK350.out 0).trans rfl
          have hcz24_1 : w22.cell? ⟨gb350, 1, none⟩ = some (.int .i32 a0_1) := (blk_cell BK350.out 1).trans rfl
          have hcz24_2 : w22.cell? ⟨gb350, 2, none⟩ = some (.int .i64 a0_2) := (blk_cell BK350.out 2).trans rfl
          have hcz24_3 : w22.cell? ⟨gb350, 3, none⟩ = some (.int .u64 a0_3) := (blk_cell BK350.out 3).trans rfl
          have hfz24_0 := blk_frozen BK350.out 0
          have hfz24_1 := blk_frozen BK350.out 1
          have hfz24_2 := blk_frozen BK350.out 2
          have hfz24_3 := blk_frozen BK350.out 3
          go_wp2
          go_meet
          case rel => exact ⟨_, (14), (by first | rfl | (simp; done) | (simp [*]; done)), H', ⟨by first | omega | exact Nat.le_refl _⟩, ⟨by (with_reducible repeat (first | refine blk_drewN ?_ _ | refine blk_drew ?_ | refine blk_alloc ?_ _)); exact BK350.out⟩, ⟨by repeat (first | (with_reducible first | exact HB.out | apply below_alloc | apply pw_below_drewN | apply below_drew1 | refine below_set ?_ GE350.out) | exact HB.out)⟩⟩
        · rw [if_neg c23] at H
          have c23b0 : ((l0_0.length : Int) == 0) = false := beq_eq_false_iff_ne.mpr c23
          have c23b1 : ((l0_0.length : Int) != 0) = true := bne_iff_ne.mpr c23
          have c23b2 : ¬ (l0_0 = []) := fun h_ => c23 (by rw [h_]; rfl)
          (first | rw [c23b0] | (simp only [i64_w, i32_w]; rw [c23b0]) | skip)
          by_cases c25 : (l0_0.length : Int) > 64
          · rw [if_pos c25] at H
            have c25b0 : decide (64 < (l0_0.length : Int)) = true := decide_eq_true c25
            have c25b1 : decide (64 < l0_0.length) = true := decide_eq_true (by omega)
            clear c25
            have H' := Aside0.mk H
            clear H
            have hcz26_0 : w22.cell? ⟨gb350, 0, none⟩ = some (.slice A0_0 l0_0.length c0_0) := (blk_cell BK350.out 0).trans rfl
            have hcz26_1 : w22.cell? ⟨gb350, 1, none⟩ = some (.int .i32 a0_1) := (blk_cell BK350.out 1).trans rfl
            have hcz26_2 : w22.cell? ⟨gb350, 2, none⟩ = some (.int .i64 a0_2) := (blk_cell BK350.out 2).trans rfl
            have hcz26_3 : w22.cell? ⟨gb350, 3, none⟩ = some (.int .u64 a0_3) := (blk_cell BK350.out 3).trans rfl
            have hfz26_0 := blk_frozen BK350.out 0
            have hfz26_1 := blk_frozen BK350.out 1
            have hfz26_2 := blk_frozen BK350.out 2
            have hfz26_3 := blk_frozen BK350.out 3
            go_wp2
            go_meet
            case rel => exact ⟨_, (12), (by first | rfl | (simp; done) | (simp [*]; done)), H', ⟨by first | omega | exact Nat.le_refl _⟩, ⟨by (with_reducible repeat (first | refine blk_drewN ?_ _ | refine blk_drew ?_ | refine blk_alloc ?_ _)); exact BK350.out⟩, ⟨by repeat (first | (with_reducible first | exact HB.out | apply below_alloc | apply pw_below_drewN | apply below_drew1 | refine below_set ?_ GE350.out) | exact HB.out)⟩⟩
          · rw [if_neg c25] at H
            have c25b0 : decide (64 < (l0_0.length : Int)) = false := decide_eq_false c25
            have c25b1 : decide (64 < l0_0.length) = false := decide_eq_false (by omega)
            clear c25
            by_cases c27 : t354 = true
            · subst c27
              have H1 : (if a1 < 0 then (credenzalaw20_PickPicks.j0 k a1 t352 t353 11 l0_0 a0_1 a0_2 a0_3) else (if a1 > 1024 then (credenzalaw20_PickPicks.j0 k a1 t352 t353 11 l0_0 a0_1 a0_2 a0_3) else (credenzalaw20_PickPicks.j0 k a1 t352 t353 0 l0_0 a0_1 a0_2 a0_3))) = some r := by rw [if_pos rfl] at H; exact H
              clear H
              have H := H1
              clear H1
              by_cases c28 : a1 < 0
              · rw [if_pos c28] at H
                have c28b0 : decide (a1 < 0) = true := decide_eq_true c28
                clear c28
                have H' := Aside0.mk H
                clear H
                have hcz29_0 : w22.cell? ⟨gb350, 0, none⟩ = some (.slice A0_0 l0_0.length c0_0) := (blk_cell BK350.out 0).trans rfl
                have hcz29_1 : w22.cell? ⟨gb350, 1, none⟩ = some (.int .i32 a0_1) := (blk_cell BK350.out 1).trans rfl
                have hcz29_2 : w22.cell? ⟨gb350, 2, none⟩ = some (.int .i64 a0_2) := (blk_cell BK350.out 2).trans rfl
                have hcz29_3 : w22.cell? ⟨gb350, 3, none⟩ = some (.int .u64 a0_3) := (blk_cell BK350.out 3).trans rfl
                have hfz29_0 := blk_frozen BK350.out 0
                have hfz29_1 := blk_frozen BK350.out 1
                have hfz29_2 := blk_frozen BK350.out 2
                have hfz29_3 := blk_frozen BK350.out 3
                go_wp2
                go_meet
                case rel => exact ⟨_, (11), (by first | rfl | (simp; done) | (simp [*]; done)), H', ⟨by first | omega | exact Nat.le_refl _⟩, ⟨by (with_reducible repeat (first | refine blk_drewN ?_ _ | refine blk_drew ?_ | refine blk_alloc ?_ _)); exact BK350.out⟩, ⟨by repeat (first | (with_reducible first | exact HB.out | apply below_alloc | apply pw_below_drewN | apply below_drew1 | refine below_set ?_ GE350.out) | exact HB.out)⟩⟩
              · rw [if_neg c28] at H
                have c28b0 : decide (a1 < 0) = false := decide_eq_false c28
                clear c28
                by_cases c30 : a1 > 1024
                · rw [if_pos c30] at H
                  have c30b0 : decide (1024 < a1) = true := decide_eq_true c30
                  clear c30
                  have H' := Aside0.mk H
                  clear H
                  have hcz31_0 : w22.cell? ⟨gb350, 0, none⟩ = some (.slice A0_0 l0_0.length c0_0) := (blk_cell BK350.out 0).trans rfl
                  have hcz31_1 : w22.cell? ⟨gb350, 1, none⟩ = some (.int .i32 a0_1) := (blk_cell BK350.out 1).trans rfl
                  have hcz31_2 : w22.cell? ⟨gb350, 2, none⟩ = some (.int .i64 a0_2) := (blk_cell BK350.out 2).trans rfl
                  have hcz31_3 : w22.cell? ⟨gb350, 3, none⟩ = some (.int .u64 a0_3) := (blk_cell BK350.out 3).trans rfl
                  have hfz31_0 := blk_frozen BK350.out 0
                  have hfz31_1 := blk_frozen BK350.out 1
                  have hfz31_2 := blk_frozen BK350.out 2
                  have hfz31_3 := blk_frozen BK350.out 3
                  go_wp2
                  go_meet
                  case rel => exact ⟨_, (11), (by first | rfl | (simp; done) | (simp [*]; done)), H', ⟨by first | omega | exact Nat.le_refl _⟩, ⟨by (with_reducible repeat (first | refine blk_drewN ?_ _ | refine blk_drew ?_ | refine blk_alloc ?_ _)); exact BK350.out⟩, ⟨by repeat (first | (with_reducible first | exact HB.out | apply below_alloc | apply pw_below_drewN | apply below_drew1 | refine below_set ?_ GE350.out) | exact HB.out)⟩⟩
                · rw [if_neg c30] at H
                  have c30b0 : decide (1024 < a1) = false := decide_eq_false c30
                  clear c30
                  have H' := Aside0.mk H
                  clear H
                  have hcz32_0 : w22.cell? ⟨gb350, 0, none⟩ = some (.slice A0_0 l0_0.length c0_0) := (blk_cell BK350.out 0).trans rfl
                  have hcz32_1 : w22.cell? ⟨gb350, 1, none⟩ = some (.int .i32 a0_1) := (blk_cell BK350.out 1).trans rfl
                  have hcz32_2 : w22.cell? ⟨gb350, 2, none⟩ = some (.int .i64 a0_2) := (blk_cell BK350.out 2).trans rfl
                  have hcz32_3 : w22.cell? ⟨gb350, 3, none⟩ = some (.int .u64 a0_3) := (blk_cell BK350.out 3).trans rfl
                  have hfz32_0 := blk_frozen BK350.out 0
                  have hfz32_1 := blk_frozen BK350.out 1
                  have hfz32_2 := blk_frozen BK350.out 2
                  have hfz32_3 := blk_frozen BK350.out 3
                  go_wp2
                  go_meet
                  case rel => exact ⟨_, (0), (by first | rfl | (simp; done) | (simp [*]; done)), H', ⟨by first | omega | exact Nat.le_refl _⟩, ⟨by (with_reducible repeat (first | refine blk_drewN ?_ _ | refine blk_drew ?_ | refine blk_alloc ?_ _)); exact BK350.out⟩, ⟨by repeat (first | (with_reducible first | exact HB.out | apply below_alloc | apply pw_below_drewN | apply below_drew1 | refine below_set ?_ GE350.out) | exact HB.out)⟩⟩
            · replace c27 := Bool.eq_false_iff.mpr c27
              subst c27
              have H1 : (credenzalaw20_PickPicks.j0 k a1 t352 t353 11 l0_0 a0_1 a0_2 a0_3) = some r := by rw [if_neg (show ¬ (false = true) by decide)] at H; exact H
              clear H
              have H := H1
              clear H1
              have H' := Aside0.mk H
              clear H
              have hcz33_0 : w22.cell? ⟨gb350, 0, none⟩ = some (.slice A0_0 l0_0.length c0_0) := (blk_cell BK350.out 0).trans rfl
              have hcz33_1 : w22.cell? ⟨gb350, 1, none⟩ = some (.int .i32 a0_1) := (blk_cell BK350.out 1).trans rfl
              have hcz33_2 : w22.cell? ⟨gb350, 2, none⟩ = some (.int .i64 a0_2) := (blk_cell BK350.out 2).trans rfl
              have hcz33_3 : w22.cell? ⟨gb350, 3, none⟩ = some (.int .u64 a0_3) := (blk_cell BK350.out 3).trans rfl
              have hfz33_0 := blk_frozen BK350.out 0
              have hfz33_1 := blk_frozen BK350.out 1
              have hfz33_2 := blk_frozen BK350.out 2
              have hfz33_3 := blk_frozen BK350.out 3
              go_wp2
              go_meet
              case rel => exact ⟨_, (11), (by first | rfl | (simp; done) | (simp [*]; done)), H', ⟨by first | omega | exact Nat.le_refl _⟩, ⟨by (with_reducible repeat (first | refine blk_drewN ?_ _ | refine blk_drew ?_ | refine blk_alloc ?_ _)); exact BK350.out⟩, ⟨by repeat (first | (with_reducible first | exact HB.out | apply below_alloc | apply pw_below_drewN | apply below_drew1 | refine below_set ?_ GE350.out) | exact HB.out)⟩⟩
      case rest =>
        clear HC17
        try clear c1
        try clear c2
        try clear p2
        try clear c3
        try clear c3b0
        try clear c3b1
        try clear c8
        try clear c9
        try clear c10
        try clear c11
        try clear c11b0
        try clear c11b1
        try clear c11b2
        try clear c23
        try clear c23b0
        try clear c23b1
        try clear c23b2
        try clear c25
        try clear c25b0
        try clear c25b1
        try clear c27
        try clear c28
        try clear c28b0
        try clear c30
        try clear c30b0
        try clear hcz13_0
        try clear hcz13_1
        try clear hcz13_2
        try clear hcz13_3
        try clear hcz15_0
        try clear hcz15_1
        try clear hcz15_2
        try clear hcz15_3
        try clear hcz19_0
        try clear hcz19_1
        try clear hcz19_2
        try clear hcz19_3
        try clear hcz21_0
        try clear hcz21_1
        try clear hcz21_2
        try clear hcz21_3
        try clear hcz24_0
        try clear hcz24_1
        try clear hcz24_2
        try clear hcz24_3
        try clear hcz26_0
        try clear hcz26_1
        try clear hcz26_2
        try clear hcz26_3
        try clear hcz29_0
        try clear hcz29_1
        try clear hcz29_2
        try clear hcz29_3
        try clear hcz31_0
        try clear hcz31_1
        try clear hcz31_2
        try clear hcz31_3
        try clear hcz32_0
        try clear hcz32_1
        try clear hcz32_2
        try clear hcz32_3
        try clear hcz33_0
        try clear hcz33_1
        try clear hcz33_2
        try clear hcz33_3
        try clear hcz6_0
        try clear hcz6_1
        try clear hcz6_2
        try clear hcz6_3
        try clear hfz13_0
        try clear hfz13_1
        try clear hfz13_2
        try clear hfz13_3
        try clear hfz15_0
        try clear hfz15_1
        try clear hfz15_2
        try clear hfz15_3
        try clear hfz19_0
        try clear hfz19_1
        try clear hfz19_2
        try clear hfz19_3
        try clear hfz21_0
        try clear hfz21_1
        try clear hfz21_2
        try clear hfz21_3
        try clear hfz24_0
        try clear hfz24_1
        try clear hfz24_2
        try clear hfz24_3
        try clear hfz26_0
        try clear hfz26_1
        try clear hfz26_2
        try clear hfz26_3
        try clear hfz29_0
        try clear hfz29_1
        try clear hfz29_2
        try clear hfz29_3
        try clear hfz31_0
        try clear hfz31_1
        try clear hfz31_2
        try clear hfz31_3
        try clear hfz32_0
        try clear hfz32_1
        try clear hfz32_2
        try clear hfz32_3
        try clear hfz33_0
        try clear hfz33_1
        try clear hfz33_2
        try clear hfz33_3
        try clear hfz6_0
        try clear hfz6_1
        try clear hfz6_2
        try clear hfz6_3
        obtain ⟨kq, x8_16, rfl, HA, HJ16, BK350, HB⟩ := hcut
        cases kq with
        | zero => exact absurd HA.out (by simp [credenzalaw20_PickPicks.j0])
        | succ kj16 =>
          have H := HA.out
          clear HA
          simp only [credenzalaw20_PickPicks.j0] at H
          by_cases c34 : x8_16 = 0
          · rw [if_pos c34] at H
            have c34b0 : (x8_16 == 0) = true := beq_iff_eq.mpr c34
            have c34b1 : (x8_16 != 0) = false := bne_eq_false_iff_eq.mpr c34
            clear c34
            replace H := Option.bind_eq_some_iff.mp H
            obtain ⟨t357, A350, H⟩ := H
            replace H : (credenzalaw20_PickPicks.l0 kj16 a1 t352 t353 false t357 (t357.length : Int) 0 l0_0 a0_1 a0_2 a0_3) = some r := H
            have A35 := Aside0.mk A350
            clear A350
            have H' := Aside0.mk H
            clear H
            have hcz36_0 : wc.cell? ⟨gb350, 0, none⟩ = some (.slice A0_0 l0_0.length c0_0) := (blk_cell BK350.out 0).trans rfl
            have hcz36_1 : wc.cell? ⟨gb350, 1, none⟩ = some (.int .i32 a0_1) := (blk_cell BK350.out 1).trans rfl
            have hcz36_2 : wc.cell? ⟨gb350, 2, none⟩ = some (.int .i64 a0_2) := (blk_cell BK350.out 2).trans rfl
            have hcz36_3 : wc.cell? ⟨gb350, 3, none⟩ = some (.int .u64 a0_3) := (blk_cell BK350.out 3).trans rfl
            have hfz36_0 := blk_frozen BK350.out 0
            have hfz36_1 := blk_frozen BK350.out 1
            have hfz36_2 := blk_frozen BK350.out 2
            have hfz36_3 := blk_frozen BK350.out 3
            go_wp2_with (first | ((with_reducible refine gate_callee (f := 12) rfl ?_); refine goesL_ (some 76) rfl rfl Try.func12 (by kernel_rfl) rfl #[.slice A0_0 l0_0.length c0_0, .int .i64 a0_2] rfl (by (try simp only [List.map_toArray, List.map_cons, List.map_nil]); first | done | rfl | (simp only [List.length_drop, List.length_take]; rfl)) ?_; (with_reducible refine (credenzaref20_Kept.calls kj16 _ _ l0_0 a0_2 t357 _ ?side1 ?side2 A35.out).mono ?_); (case side1 => repeat (first | exact (Kd.C_below HR0_0.out HB.out) | (with_reducible refine Kd.C_alloc ?_ _) | (with_reducible refine Kd.C_drewN ?_ _) | (with_reducible refine Kd.C_drew ?_))); (case side2 => exact HC0_0.out); rintro e w37 ⟨v358, rfl, ho0, hb⟩; refine ⟨_, rfl, ?_⟩; have n0_ := Aside0.mk (Kd.R_lower ho0 (below_size (by repeat (first | (with_reducible first | exact HB.out | apply below_alloc | apply pw_below_drewN | apply below_drew1 | refine below_set ?_ GE350.out) | exact HB.out)))); have n1_ := Aside0.mk (blk_below (g := gb350) (o := .cells #[.slice A0_0 l0_0.length c0_0, .int .i32 a0_1, .int .i64 a0_2, .int .u64 a0_3] 27 (0, 0)) (by (with_reducible repeat (first | refine blk_drewN ?_ _ | refine blk_drew ?_ | refine blk_alloc ?_ _)); exact BK350.out) hb); have n2_ := Aside0.mk (below_step (by repeat (first | (with_reducible first | exact HB.out | apply below_alloc | apply pw_below_drewN | apply below_drew1 | refine below_set ?_ GE350.out) | exact HB.out)) hb); clear BK350; clear HB; have HO359 := n0_; have BK350 := n1_; have HB := n2_; clear n0_ n1_ n2_; (try clear hb); (try clear hb2); (try clear hk); (try clear hi); (try clear ho0); obtain ⟨Ao38, co38, eo38⟩ := Kd.R_slice HO359.out; subst eo38))
            go_loopg [9, 78] kj16 (fun kq v9 v78 w' => ∃ (x9_2 : Bool) (x78_2 : Int), v9 = .bool x9_2 ∧ v78 = .int .i64 x78_2 ∧ Aside0 (credenzalaw20_PickPicks.l0 kq a1 t352 t353 x9_2 t357 (t357.length : Int) x78_2 l0_0 a0_1 a0_2 a0_3 = some r) ∧ Aside0 (kq ≤ kj16) ∧ Aside0 (Kd.R (Kd.int .i64) 3 w' w.heap.size (fun _ => True) (.slice Ao38 t357.length co38) t357) ∧ Aside0 (w'.heap[gb350]? = some (.cells #[(.slice A0_0 l0_0.length c0_0), .int .i32 a0_1, .int .i64 a0_2, .int .u64 a0_3] 27 (0, 0))) ∧ Aside0 (Below w.heap.size w w'))
            case atStart => exact ⟨(false), (0), (by first | rfl | (simp; done) | (simp [*]; done)), (by first | rfl | (simp; done) | (simp [*]; done)), H', ⟨Nat.le_refl _⟩, ⟨by (with_reducible repeat (first | apply Kd.R_alloc | apply Kd.R_drewN | apply Kd.R_drew)); exact HO359.out⟩, ⟨by (with_reducible repeat (first | refine blk_drewN ?_ _ | refine blk_drew ?_ | refine blk_alloc ?_ _)); exact BK350.out⟩, ⟨by repeat (first | (with_reducible first | exact HB.out | apply below_alloc | apply pw_below_drewN | apply below_drew1 | refine below_set ?_ GE350.out) | exact HB.out)⟩⟩
            case round =>
              clear H'
              try clear c1
              try clear c2
              try clear p2
              try clear c3
              try clear c3b0
              try clear c3b1
              try clear c8
              try clear c9
              try clear c10
              try clear c11
              try clear c11b0
              try clear c11b1
              try clear c11b2
              try clear c12
              try clear c23
              try clear c23b0
              try clear c23b1
              try clear c23b2
              try clear c25
              try clear c25b0
              try clear c25b1
              try clear c27
              try clear c28
              try clear c28b0
              try clear c30
              try clear c30b0
              try clear c34
              try clear c34b0
              try clear c34b1
              try clear hcz13_0
              try clear hcz13_1
              try clear hcz13_2
              try clear hcz13_3
              try clear hcz15_0
              try clear hcz15_1
              try clear hcz15_2
              try clear hcz15_3
              try clear hcz19_0
              try clear hcz19_1
              try clear hcz19_2
              try clear hcz19_3
              try clear hcz21_0
              try clear hcz21_1
              try clear hcz21_2
              try clear hcz21_3
              try clear hcz24_0
              try clear hcz24_1
              try clear hcz24_2
              try clear hcz24_3
              try clear hcz26_0
              try clear hcz26_1
              try clear hcz26_2
              try clear hcz26_3
              try clear hcz29_0
              try clear hcz29_1
              try clear hcz29_2
              try clear hcz29_3
              try clear hcz31_0
              try clear hcz31_1
              try clear hcz31_2
              try clear hcz31_3
              try clear hcz32_0
              try clear hcz32_1
              try clear hcz32_2
              try clear hcz32_3
              try clear hcz33_0
              try clear hcz33_1
              try clear hcz33_2
              try clear hcz33_3
              try clear hcz36_0
              try clear hcz36_1
              try clear hcz36_2
              try clear hcz36_3
              try clear hcz6_0
              try clear hcz6_1
              try clear hcz6_2
              try clear hcz6_3
              try clear hfz13_0
              try clear hfz13_1
              try clear hfz13_2
              try clear hfz13_3
              try clear hfz15_0
              try clear hfz15_1
              try clear hfz15_2
              try clear hfz15_3
              try clear hfz19_0
              try clear hfz19_1
              try clear hfz19_2
              try clear hfz19_3
              try clear hfz21_0
              try clear hfz21_1
              try clear hfz21_2
              try clear hfz21_3
              try clear hfz24_0
              try clear hfz24_1
              try clear hfz24_2
              try clear hfz24_3
              try clear hfz26_0
              try clear hfz26_1
              try clear hfz26_2
              try clear hfz26_3
              try clear hfz29_0
              try clear hfz29_1
              try clear hfz29_2
              try clear hfz29_3
              try clear hfz31_0
              try clear hfz31_1
              try clear hfz31_2
              try clear hfz31_3
              try clear hfz32_0
              try clear hfz32_1
              try clear hfz32_2
              try clear hfz32_3
              try clear hfz33_0
              try clear hfz33_1
              try clear hfz33_2
              try clear hfz33_3
              try clear hfz36_0
              try clear hfz36_1
              try clear hfz36_2
              try clear hfz36_3
              try clear hfz6_0
              try clear hfz6_1
              try clear hfz6_2
              try clear hfz6_3
              try clear p2
              obtain ⟨x9_2, x78_2, rfl, rfl, HA, HK2, HO_76, BK350, HB⟩ := hrel
              cases gk with
              | zero => exact absurd HA.out (by simp [credenzalaw20_PickPicks.l0])
              | succ k2 =>
                have H := HA.out
                clear HA
                simp only [credenzalaw20_PickPicks.l0] at H
                by_cases c39 : x78_2 < (t357.length : Int)
                · rw [if_pos c39] at H
                  have c39b0 : decide (x78_2 < (t357.length : Int)) = true := decide_eq_true c39
                  clear c39
                  by_cases c40 : 0 ≤ x78_2
                  · rw [if_pos c40] at H
                    have c40b0 : decide (0 ≤ x78_2) = true := decide_eq_true c40
                    clear c40
                    by_cases c41 : x78_2 < (t357.length : Int)
                    · rw [if_pos c41] at H
                      have c41b0 : decide (x78_2 < (t357.length : Int)) = true := decide_eq_true c41
                      clear c41
                      by_cases c42 : x9_2 = true
                      · subst c42
                        have H1 : (credenzalaw20_PickPicks.l0 k2 a1 t352 t353 true t357 (t357.length : Int) (wrap64 (x78_2 + 1)) l0_0 a0_1 a0_2 a0_3) = some r := by rw [if_pos rfl] at H; exact H
                        clear H
                        have H := H1
                        clear H1
                        have H' := Aside0.mk H
                        clear H
                        have p360 : 0 ≤ (x78_2 : Int) := of_decide_eq_true (by first | (with_reducible assumption) | assumption)
                        have q360 : x78_2 < (t357.length : Int) := of_decide_eq_true (by first | (with_reducible assumption) | assumption)
                        obtain ⟨ad360, e360, hx360_0⟩ := Kd.at_int (Kd.R_reads' HO_76.out).2.2 x78_2 p360 q360
                        cases e360
                        replace p360 := eq_true p360
                        replace q360 := eq_true q360
                        go_wp2
                        go_roundg k2
                        case measure => have := HJ16.out; have := HK2.out; omega
                        case rel => exact ⟨(true), (wrap64 (x78_2 + 1)), (by first | rfl | (simp; done) | (simp [*]; done)), (by first | rfl | (simp; done) | (simp [*]; done)), H', ⟨by have := HJ16.out; have := HK2.out; omega⟩, ⟨by (with_reducible repeat (first | apply Kd.R_alloc | apply Kd.R_drewN | apply Kd.R_drew)); exact HO_76.out⟩, ⟨by (with_reducible repeat (first | refine blk_drewN ?_ _ | refine blk_drew ?_ | refine blk_alloc ?_ _)); exact BK350.out⟩, ⟨by repeat (first | (with_reducible first | exact HB.out | apply below_alloc | apply pw_below_drewN | apply below_drew1 | refine below_set ?_ GE350.out) | exact HB.out)⟩⟩
                      · replace c42 := Bool.eq_false_iff.mpr c42
                        subst c42
                        have H1 : (credenzalaw20_PickPicks.l0 k2 a1 t352 t353 ((rd t357 x78_2) == t352) t357 (t357.length : Int) (wrap64 (x78_2 + 1)) l0_0 a0_1 a0_2 a0_3) = some r := by rw [if_neg (show ¬ (false = true) by decide)] at H; exact H
                        clear H
                        have H := H1
                        clear H1
                        have H' := Aside0.mk H
                        clear H
                        have p360 : 0 ≤ (x78_2 : Int) := of_decide_eq_true (by first | (with_reducible assumption) | assumption)
                        have q360 : x78_2 < (t357.length : Int) := of_decide_eq_true (by first | (with_reducible assumption) | assumption)
                        obtain ⟨ad360, e360, hx360_0⟩ := Kd.at_int (Kd.R_reads' HO_76.out).2.2 x78_2 p360 q360
                        cases e360
                        replace p360 := eq_true p360
                        replace q360 := eq_true q360
                        go_wp2
                        go_roundg k2
                        case measure => have := HJ16.out; have := HK2.out; omega
                        case rel => exact ⟨(((rd t357 x78_2) == t352)), (wrap64 (x78_2 + 1)), (by first | rfl | (simp; done) | (simp [*]; done)), (by first | rfl | (simp; done) | (simp [*]; done)), H', ⟨by have := HJ16.out; have := HK2.out; omega⟩, ⟨by (with_reducible repeat (first | apply Kd.R_alloc | apply Kd.R_drewN | apply Kd.R_drew)); exact HO_76.out⟩, ⟨by (with_reducible repeat (first | refine blk_drewN ?_ _ | refine blk_drew ?_ | refine blk_alloc ?_ _)); exact BK350.out⟩, ⟨by repeat (first | (with_reducible first | exact HB.out | apply below_alloc | apply pw_below_drewN | apply below_drew1 | refine below_set ?_ GE350.out) | exact HB.out)⟩⟩
                    · rw [if_neg c41] at H
                      exact absurd H (by simp)
                  · rw [if_neg c40] at H
                    exact absurd H (by simp)
                · rw [if_neg c39] at H
                  have c39b0 : decide (x78_2 < (t357.length : Int)) = false := decide_eq_false c39
                  clear c39
                  by_cases c43 : t353 = 0
                  · rw [if_pos c43] at H
                    have c43b0 : (t353 == 0) = true := beq_iff_eq.mpr c43
                    have c43b1 : (t353 != 0) = false := bne_eq_false_iff_eq.mpr c43
                    clear c43
                    by_cases c44 : x9_2 = true
                    · subst c44
                      have H1 : ((credenzaref20_Pick.f k2 l0_0 a0_1 a0_2 a0_3 a1).bind fun t361 => (if t352 = t361 then ((credenzalaw20_awake.f k2).bind fun t362 => (some t362)) else (some false))) = some r := by rw [if_pos rfl] at H; exact H
                      clear H
                      have H := H1
                      clear H1
                      replace H := Option.bind_eq_some_iff.mp H
                      obtain ⟨t361, A450, H⟩ := H
                      replace H : (if t352 = t361 then ((credenzalaw20_awake.f k2).bind fun t362 => (some t362)) else (some false)) = some r := H
                      have A45 := Aside0.mk A450
                      clear A450
                      by_cases c46 : t352 = t361
                      · rw [if_pos c46] at H
                        have c46b0 : (t352 == t361) = true := beq_iff_eq.mpr c46
                        have c46b1 : (t352 != t361) = false := bne_eq_false_iff_eq.mpr c46
                        clear c46
                        replace H := Option.bind_eq_some_iff.mp H
                        obtain ⟨t362, A470, H⟩ := H
                        replace H : (some t362) = some r := H
                        have A47 := Aside0.mk A470
                        clear A470
                        obtain rfl := Option.some.inj H
                        have hcz48_0 : wr.cell? ⟨gb350, 0, none⟩ = some (.slice A0_0 l0_0.length c0_0) := (blk_cell BK350.out 0).trans rfl
                        have hcz48_1 : wr.cell? ⟨gb350, 1, none⟩ = some (.int .i32 a0_1) := (blk_cell BK350.out 1).trans rfl
                        have hcz48_2 : wr.cell? ⟨gb350, 2, none⟩ = some (.int .i64 a0_2) := (blk_cell BK350.out 2).trans rfl
                        have hcz48_3 : wr.cell? ⟨gb350, 3, none⟩ = some (.int .u64 a0_3) := (blk_cell BK350.out 3).trans rfl
                        have hfz48_0 := blk_frozen BK350.out 0
                        have hfz48_1 := blk_frozen BK350.out 1
                        have hfz48_2 := blk_frozen BK350.out 2
                        have hfz48_3 := blk_frozen BK350.out 3
                        go_wp2_with (first | (go_at_call 13; (with_reducible refine (credenzaref20_Pick.calls k2 _ _ l0_0 a0_1 a0_2 a0_3 a1 t361 _ ?side1 ?side2 A45.out).mono ?_); (case side1 => repeat (first | exact (Kd.C_below HR0_0.out HB.out) | (with_reducible refine Kd.C_alloc ?_ _) | (with_reducible refine Kd.C_drewN ?_ _) | (with_reducible refine Kd.C_drew ?_))); (case side2 => exact HC0_0.out); rintro e w49 ⟨rfl, hb⟩; have n0_ := Aside0.mk (Kd.R_below (by (with_reducible repeat (first | apply Kd.R_alloc | apply Kd.R_drewN | apply Kd.R_drew)); exact HO_76.out) hb); have n1_ := Aside0.mk (blk_below (g := gb350) (o := .cells #[.slice A0_0 l0_0.length c0_0, .int .i32 a0_1, .int .i64 a0_2, .int .u64 a0_3] 27 (0, 0)) (by (with_reducible repeat (first | refine blk_drewN ?_ _ | refine blk_drew ?_ | refine blk_alloc ?_ _)); exact BK350.out) hb); have n2_ := Aside0.mk (below_step (by repeat (first | (with_reducible first | exact HB.out | apply below_alloc | apply pw_below_drewN | apply below_drew1 | refine below_set ?_ GE350.out) | exact HB.out)) hb); clear HO_76; clear BK350; clear HB; have HO_76 := n0_; have BK350 := n1_; have HB := n2_; clear n0_ n1_ n2_; (try clear hb); (try clear hb2); (try clear hk); (try clear hi)) | (go_at_call 8; (with_reducible refine (credenzalaw20_awake.calls k2  t362 _ A47.out).mono ?_); rintro e w50 ⟨rfl, hb⟩; have n0_ := Aside0.mk (Kd.R_below (by (with_reducible repeat (first | apply Kd.R_alloc | apply Kd.R_drewN | apply Kd.R_drew)); exact HO_76.out) hb); have n1_ := Aside0.mk (blk_below (g := gb350) (o := .cells #[.slice A0_0 l0_0.length c0_0, .int .i32 a0_1, .int .i64 a0_2, .int .u64 a0_3] 27 (0, 0)) (by (with_reducible repeat (first | refine blk_drewN ?_ _ | refine blk_drew ?_ | refine blk_alloc ?_ _)); exact BK350.out) hb); have n2_ := Aside0.mk (below_step (by repeat (first | (with_reducible first | exact HB.out | apply below_alloc | apply pw_below_drewN | apply below_drew1 | refine below_set ?_ GE350.out) | exact HB.out)) hb); clear HO_76; clear BK350; clear HB; have HO_76 := n0_; have BK350 := n1_; have HB := n2_; clear n0_ n1_ n2_; (try clear hb); (try clear hb2); (try clear hk); (try clear hi)))
                        go_ret
                        exact ⟨by first | rfl | (simp [errW_none, errW_some] <;> rfl) | (simp [*, errW_none, errW_some] <;> rfl), by repeat (first | (with_reducible first | exact HB.out | apply below_alloc | apply pw_below_drewN | apply below_drew1 | refine below_set ?_ GE350.out) | exact HB.out)⟩
                      · rw [if_neg c46] at H
                        have c46b0 : (t352 == t361) = false := beq_eq_false_iff_ne.mpr c46
                        have c46b1 : (t352 != t361) = true := bne_iff_ne.mpr c46
                        obtain rfl := Option.some.inj H
                        have hcz51_0 : wr.cell? ⟨gb350, 0, none⟩ = some (.slice A0_0 l0_0.length c0_0) := (blk_cell BK350.out 0).trans rfl
                        have hcz51_1 : wr.cell? ⟨gb350, 1, none⟩ = some (.int .i32 a0_1) := (blk_cell BK350.out 1).trans rfl
                        have hcz51_2 : wr.cell? ⟨gb350, 2, none⟩ = some (.int .i64 a0_2) := (blk_cell BK350.out 2).trans rfl
                        have hcz51_3 : wr.cell? ⟨gb350, 3, none⟩ = some (.int .u64 a0_3) := (blk_cell BK350.out 3).trans rfl
                        have hfz51_0 := blk_frozen BK350.out 0
                        have hfz51_1 := blk_frozen BK350.out 1
                        have hfz51_2 := blk_frozen BK350.out 2
                        have hfz51_3 := blk_frozen BK350.out 3
                        go_wp2_with (first | (go_at_call 13; (with_reducible refine (credenzaref20_Pick.calls k2 _ _ l0_0 a0_1 a0_2 a0_3 a1 t361 _ ?side1 ?side2 A45.out).mono ?_); (case side1 => repeat (first | exact (Kd.C_below HR0_0.out HB.out) | (with_reducible refine Kd.C_alloc ?_ _) | (with_reducible refine Kd.C_drewN ?_ _) | (with_reducible refine Kd.C_drew ?_))); (case side2 => exact HC0_0.out); rintro e w52 ⟨rfl, hb⟩; have n0_ := Aside0.mk (Kd.R_below (by (with_reducible repeat (first | apply Kd.R_alloc | apply Kd.R_drewN | apply Kd.R_drew)); exact HO_76.out) hb); have n1_ := Aside0.mk (blk_below (g := gb350) (o := .cells #[.slice A0_0 l0_0.length c0_0, .int .i32 a0_1, .int .i64 a0_2, .int .u64 a0_3] 27 (0, 0)) (by (with_reducible repeat (first | refine blk_drewN ?_ _ | refine blk_drew ?_ | refine blk_alloc ?_ _)); exact BK350.out) hb); have n2_ := Aside0.mk (below_step (by repeat (first | (with_reducible first | exact HB.out | apply below_alloc | apply pw_below_drewN | apply below_drew1 | refine below_set ?_ GE350.out) | exact HB.out)) hb); clear HO_76; clear BK350; clear HB; have HO_76 := n0_; have BK350 := n1_; have HB := n2_; clear n0_ n1_ n2_; (try clear hb); (try clear hb2); (try clear hk); (try clear hi)))
                        go_ret
                        exact ⟨by first | rfl | (simp [errW_none, errW_some] <;> rfl) | (simp [*, errW_none, errW_some] <;> rfl), by repeat (first | (with_reducible first | exact HB.out | apply below_alloc | apply pw_below_drewN | apply below_drew1 | refine below_set ?_ GE350.out) | exact HB.out)⟩
                    · replace c44 := Bool.eq_false_iff.mpr c44
                      subst c44
                      have H1 : (some false) = some r := by rw [if_neg (show ¬ (false = true) by decide)] at H; exact H
                      clear H
                      have H := H1
                      clear H1
                      obtain rfl := Option.some.inj H
                      go_wp2
                      go_ret
                      exact ⟨by first | rfl | (simp [errW_none, errW_some] <;> rfl) | (simp [*, errW_none, errW_some] <;> rfl), by repeat (first | (with_reducible first | exact HB.out | apply below_alloc | apply pw_below_drewN | apply below_drew1 | refine below_set ?_ GE350.out) | exact HB.out)⟩
                  · rw [if_neg c43] at H
                    have c43b0 : (t353 == 0) = false := beq_eq_false_iff_ne.mpr c43
                    have c43b1 : (t353 != 0) = true := bne_iff_ne.mpr c43
                    obtain rfl := Option.some.inj H
                    go_wp2
                    go_ret
                    exact ⟨by first | rfl | (simp [errW_none, errW_some] <;> rfl) | (simp [*, errW_none, errW_some] <;> rfl), by repeat (first | (with_reducible first | exact HB.out | apply below_alloc | apply pw_below_drewN | apply below_drew1 | refine below_set ?_ GE350.out) | exact HB.out)⟩
          · rw [if_neg c34] at H
            have c34b0 : (x8_16 == 0) = false := beq_eq_false_iff_ne.mpr c34
            have c34b1 : (x8_16 != 0) = true := bne_iff_ne.mpr c34
            by_cases c53 : t353 = x8_16
            · rw [if_pos c53] at H
              have c53b0 : (t353 == x8_16) = true := beq_iff_eq.mpr c53
              have c53b1 : (t353 != x8_16) = false := bne_eq_false_iff_eq.mpr c53
              clear c53
              by_cases c54 : t352 = 0
              · rw [if_pos c54] at H
                have c54b0 : (t352 == 0) = true := beq_iff_eq.mpr c54
                have c54b1 : (t352 != 0) = false := bne_eq_false_iff_eq.mpr c54
                clear c54
                replace H := Option.bind_eq_some_iff.mp H
                obtain ⟨t356, A550, H⟩ := H
                replace H : (some t356) = some r := H
                have A55 := Aside0.mk A550
                clear A550
                obtain rfl := Option.some.inj H
                go_wp2_with (first | (go_at_call 8; (with_reducible refine (credenzalaw20_awake.calls kj16  t356 _ A55.out).mono ?_); rintro e w56 ⟨rfl, hb⟩; have n0_ := Aside0.mk (blk_below (g := gb350) (o := .cells #[.slice A0_0 l0_0.length c0_0, .int .i32 a0_1, .int .i64 a0_2, .int .u64 a0_3] 27 (0, 0)) (by (with_reducible repeat (first | refine blk_drewN ?_ _ | refine blk_drew ?_ | refine blk_alloc ?_ _)); exact BK350.out) hb); have n1_ := Aside0.mk (below_step (by repeat (first | (with_reducible first | exact HB.out | apply below_alloc | apply pw_below_drewN | apply below_drew1 | refine below_set ?_ GE350.out) | exact HB.out)) hb); clear BK350; clear HB; have BK350 := n0_; have HB := n1_; clear n0_ n1_; (try clear hb); (try clear hb2); (try clear hk); (try clear hi)))
                go_ret
                exact ⟨by first | rfl | (simp [errW_none, errW_some] <;> rfl) | (simp [*, errW_none, errW_some] <;> rfl), by repeat (first | (with_reducible first | exact HB.out | apply below_alloc | apply pw_below_drewN | apply below_drew1 | refine below_set ?_ GE350.out) | exact HB.out)⟩
              · rw [if_neg c54] at H
                have c54b0 : (t352 == 0) = false := beq_eq_false_iff_ne.mpr c54
                have c54b1 : (t352 != 0) = true := bne_iff_ne.mpr c54
                obtain rfl := Option.some.inj H
                go_wp2
                go_ret
                exact ⟨by first | rfl | (simp [errW_none, errW_some] <;> rfl) | (simp [*, errW_none, errW_some] <;> rfl), by repeat (first | (with_reducible first | exact HB.out | apply below_alloc | apply pw_below_drewN | apply below_drew1 | refine below_set ?_ GE350.out) | exact HB.out)⟩
            · rw [if_neg c53] at H
              have c53b0 : (t353 == x8_16) = false := beq_eq_false_iff_ne.mpr c53
              have c53b1 : (t353 != x8_16) = true := bne_iff_ne.mpr c53
              obtain rfl := Option.some.inj H
              go_wp2
              go_ret
              exact ⟨by first | rfl | (simp [errW_none, errW_some] <;> rfl) | (simp [*, errW_none, errW_some] <;> rfl), by repeat (first | (with_reducible first | exact HB.out | apply below_alloc | apply pw_below_drewN | apply below_drew1 | refine below_set ?_ GE350.out) | exact HB.out)⟩

end Go.Proofs.Ytmldhpnkkkmloaa.Q

namespace Go.Proofs.Ytmldhpnkkkmloaa.Pure
open Go.RowKit Go.Proofs.Ytmldhpnkkkmloaa.Q Go.Proofs.YtmldhpnkkkmloaaW.PrintWords Go.Proofs.YtmldhpnkkkmloaaW.PrintLast Go.Proofs.Ytmldhpnkkkmloaa.SortM
set_option linter.unusedVariables false

theorem awake_p {k : Nat} (hk : 100 ≤ k) : ((credenzalaw20_awake.f k).bind fun t => some t) = some true := by rw [awake20 hk, Option.bind_some]

theorem picks_l0 (idx v : Int) (g : List Int) (hg : g.length ≤ 1000000) (l : List Int) (t top seed : Int) {r : Bool}
    (hend : Ev (fun k => (credenzaref20_Pick.f k l t top seed idx).bind fun t361 => (if v = t361 then ((credenzalaw20_awake.f k).bind fun t362 => some t362) else some false)) r) :
    ∀ (d p : Nat) (b : Bool), p + d = g.length → (b = true ∨ v ∈ g.drop p) → Ev (fun k => credenzalaw20_PickPicks.l0 k idx v 0 b g (g.length : Int) (p : Int) l t top seed) r := by
  intro d
  induction d with
  | zero =>
    intro p b hp hb
    refine Ev.step (fun k => ?_) hend
    have hbt : b = true := by
      rcases hb with h | h
      · exact h
      · rw [List.drop_of_length_le (by omega)] at h; simp at h
    rw [credenzalaw20_PickPicks.l0, if_neg (by omega), if_pos rfl, if_pos hbt]
  | succ d ih =>
    intro p b hp hb
    have hlt : p < g.length := by omega
    by_cases c : b = true
    · refine Ev.step (fun k => ?_) (ih (p + 1) true (by omega) (.inl rfl))
      rw [credenzalaw20_PickPicks.l0, if_pos (by omega), if_pos (by omega), if_pos (by omega), if_pos c, wnext hlt (by omega)]
    · refine Ev.step (fun k => ?_) (ih (p + 1) (rd g (p : Int) == v) (by omega) ?_)
      · rw [credenzalaw20_PickPicks.l0, if_pos (by omega), if_pos (by omega), if_pos (by omega), if_neg c, wnext hlt (by omega)]
      · rcases hb with h | h
        · exact absurd h c
        · rw [drop_rd hlt] at h
          rcases List.mem_cons.1 h with h | h
          · left; rw [h]; simp
          · exact .inr h

theorem picks_pure (l : List Int) (t top seed idx : Int) (hA : A32 l) : ∃ k, credenzalaw20_PickPicks.f k l t top seed idx = some true := by
  refine Ev.rounds ?_
  by_cases h200 : (l.length : Int) > 200
  · refine ⟨100, fun k hk => ?_⟩
    show credenzalaw20_PickPicks.f k l t top seed idx = _
    rw [credenzalaw20_PickPicks.f, if_pos h200, awake_p hk]
  -- what Right tells
  have hxx : ((rightR t top != rightR t top) = true) = False := by simp
  -- a refusal
  have refused : ∀ c : Int, c ≠ 0 → Ev (fun k => credenzalaw20_PickPicks.j0 k idx 0 c c l t top seed) true := by
    intro c hc
    refine ⟨101, fun k hk => ?_⟩
    obtain ⟨k, rfl⟩ : ∃ m, k = m + 1 := ⟨k - 1, by omega⟩
    show credenzalaw20_PickPicks.j0 (k + 1) idx 0 c c l t top seed = _
    rw [credenzalaw20_PickPicks.j0, if_neg hc, if_pos rfl, if_pos rfl, awake_p (by omega)]
  by_cases h0 : (l.length : Int) = 0
  · obtain ⟨K, hK⟩ := refused 14 (by omega)
    refine ⟨K, fun k hk => ?_⟩
    show credenzalaw20_PickPicks.f k l t top seed idx = _
    rw [credenzalaw20_PickPicks.f, if_neg h200, pick_Pick.f, if_pos h0, Option.bind_some, ref_Right_some, Option.bind_some, pick_Right_some, Option.bind_some, if_neg (by simp), if_pos h0]
    exact hK k hk
  by_cases h64 : (l.length : Int) > 64
  · obtain ⟨K, hK⟩ := refused 12 (by omega)
    refine ⟨K, fun k hk => ?_⟩
    show credenzalaw20_PickPicks.f k l t top seed idx = _
    rw [credenzalaw20_PickPicks.f, if_neg h200, pick_Pick.f, if_neg h0, if_pos h64, Option.bind_some, ref_Right_some, Option.bind_some, pick_Right_some, Option.bind_some, if_neg (by simp), if_neg h0, if_pos h64]
    exact hK k hk
  by_cases hR : rightR t top = true
  · by_cases h1 : idx < 0
    · obtain ⟨K, hK⟩ := refused 11 (by omega)
      refine ⟨K + 1, fun k hk => ?_⟩
      obtain ⟨k, rfl⟩ : ∃ m, k = m + 1 := ⟨k - 1, by omega⟩
      show credenzalaw20_PickPicks.f (k + 1) l t top seed idx = _
      rw [credenzalaw20_PickPicks.f, if_neg h200, pick_Pick.f, if_neg h0, if_neg h64, pick_Right_some, hR, Option.bind_some, if_pos rfl, if_pos h1, pick_Pick.j0, if_pos rfl, Option.bind_some, ref_Right_some, Option.bind_some, Option.bind_some, hR, if_neg (by simp), if_neg h0, if_neg h64, if_pos rfl, if_pos h1]
      exact hK _ (by omega)
    · by_cases h2 : idx > 1024
      · obtain ⟨K, hK⟩ := refused 11 (by omega)
        refine ⟨K + 1, fun k hk => ?_⟩
        obtain ⟨k, rfl⟩ : ∃ m, k = m + 1 := ⟨k - 1, by omega⟩
        show credenzalaw20_PickPicks.f (k + 1) l t top seed idx = _
        rw [credenzalaw20_PickPicks.f, if_neg h200, pick_Pick.f, if_neg h0, if_neg h64, pick_Right_some, hR, Option.bind_some, if_pos rfl, if_neg h1, decide_eq_true h2, pick_Pick.j0, if_pos rfl, Option.bind_some, ref_Right_some, Option.bind_some, Option.bind_some, hR, if_neg (by simp), if_neg h0, if_neg h64, if_pos rfl, if_neg h1, if_pos h2]
        exact hK _ (by omega)
      · have hR' := hR
        unfold rightR at hR'
        rw [decide_eq_true_iff] at hR'
        have q1 : 0 < l.length := by omega
        have q2 : l.length ≤ 64 := by omega
        have q3 : (0 : Int) ≤ idx := by omega
        have q4 : idx ≤ 1024 := by omega
        have q5 : (0 : Int) ≤ top := by omega
        have q6 : l.length ≤ 1000000 := by omega
        have q7 : (kpt l top).length ≤ 1000000 := by have := (warm_facts t q1 q2 (top := top) q5).2.1; omega
        obtain ⟨v, _, hv2, hv3, hv4⟩ := pick_some (l := l) hA q1 q2 (t := t) (top := top) seed (idx := idx) hR q3 q4 (k := 300) (Nat.le_refl _)
        have hp : ∀ k, 300 ≤ k → pick_Pick.f k l t top seed idx = some (v, 0) := by
          intro k hk
          obtain ⟨v', e1, e2, e3, e4⟩ := pick_some (l := l) hA q1 q2 (t := t) (top := top) seed (idx := idx) hR q3 q4 hk
          rw [e1]
          congr 2
          by_cases ht : t = 0
          · obtain ⟨i, hi, rfl⟩ := e3 ht
            obtain ⟨j, hj, rfl⟩ := hv3 ht
            rw [firstT_uniq hi hj]
          · rw [e4 ht, hv4 ht]
        have hend : Ev (fun k => (credenzaref20_Pick.f k l t top seed idx).bind fun t361 => (if v = t361 then ((credenzalaw20_awake.f k).bind fun t362 => some t362) else some false)) true :=
          Ev.bind (ref_pick_ev hA q1 q2 seed hR hv3 hv4) ⟨100, fun k hk => by show (if v = v then _ else _) = _; rw [if_pos rfl, awake_p hk]⟩
        have hloop : Ev (fun k => credenzalaw20_PickPicks.l0 k idx v 0 false (kpt l top) ((kpt l top).length : Int) 0 l t top seed) true :=
          picks_l0 idx v (kpt l top) q7 l t top seed hend (kpt l top).length 0 false (Nat.zero_add _) (.inr (by rw [List.drop_zero]; exact hv2))
        have hj : Ev (fun k => credenzalaw20_PickPicks.j0 k idx v 0 0 l t top seed) true := by
          refine Ev.step (f := fun k => (credenzaref20_Kept.f k l top).bind fun t357 => credenzalaw20_PickPicks.l0 k idx v 0 false t357 (t357.length : Int) 0 l t top seed) (fun k => ?_) (Ev.bind (ref_Kept_ev l top q6) hloop)
          rw [credenzalaw20_PickPicks.j0, if_pos rfl]
        obtain ⟨K, hK⟩ := hj
        clear hv3 hv4 hend hloop
        refine ⟨max K 300, fun k hk => ?_⟩
        show credenzalaw20_PickPicks.f k l t top seed idx = _
        rw [credenzalaw20_PickPicks.f, if_neg h200, hp k (by omega), Option.bind_some, ref_Right_some, Option.bind_some, pick_Right_some, Option.bind_some, hR, if_neg (by simp), if_neg h0, if_neg h64, if_pos rfl, if_neg h1, if_neg h2]
        exact hK k (by omega)
  · obtain ⟨K, hK⟩ := refused 11 (by omega)
    have hRf : rightR t top = false := Bool.eq_false_iff.2 hR
    refine ⟨K + 1, fun k hk => ?_⟩
    obtain ⟨k, rfl⟩ : ∃ m, k = m + 1 := ⟨k - 1, by omega⟩
    show credenzalaw20_PickPicks.f (k + 1) l t top seed idx = _
    rw [credenzalaw20_PickPicks.f, if_neg h200, pick_Pick.f, if_neg h0, if_neg h64, pick_Right_some, hRf, Option.bind_some, if_neg (by simp), pick_Pick.j0, if_pos rfl, Option.bind_some, ref_Right_some, Option.bind_some, Option.bind_some, hRf, if_neg (by simp), if_neg h0, if_neg h64, if_neg (by simp)]
    exact hK _ (by omega)
end Go.Proofs.Ytmldhpnkkkmloaa.Pure

namespace Go.Proofs.Ytmldhpnkkkmloaa.pickPicks
open Go.ChangeShapes Go.WideShapes Go.ChangeAt Go.RowKit Go.Proofs.YtmldhpnkkkmloaaW.PrintWords Go.Proofs.YtmldhpnkkkmloaaW.PrintLast Go.Proofs.Ytmldhpnkkkmloaa.Pure
open Go.ChangeMaps (open_string shut_string)
set_option linter.unusedVariables false
theorem own : ownKnob Try.prog.godebug = none := by kernel_rfl
theorem laidOut : laidOutB Try.prog = true := by kernel_rfl
def IsRow (k : IntKind) (w : World) (a : Option Addr) (len cap : Nat) (zs : List Int) : Prop :=
  (a = none ∧ len = 0 ∧ cap = 0 ∧ zs = []) ∨
  ∃ x, a = some x ∧ len ≤ cap ∧ cap ≤ maxLen ∧ zs.length = cap ∧ (∀ i, i < zs.length → w.cell? (x.add i) = some (.int k (zs.getD i 0))) ∧ ∀ n ∈ zs, (Lit.int k n).wf = true
set_option maxRecDepth 100000 in
theorem lifted (os : Os) (started : os.Started) (H : Type) (enc : TypeId × Value → H) :
    ReturnsInHanded {} Try.checked os 3 .any (Rows.pickPicksSpec.pre6 enc Try.prog Try.f3 Rows.pickPicksRow.domain false) (Rows.pickPicksSpec.post enc Try.prog Try.f3 false true false false) := by
  refine returnsInHanded_of_change_sized (C := Try.checked) own started (by kernel_rfl) Try.func3
    (ChangeSpec.witness6 (enc := enc) (C := Try.checked) false ⟨#[], #[.agg #[.slice none 0 0, .int .i32 0, .int .i64 0, .int .u64 0], .int .i64 0], []⟩ 8 (by kernel_rfl) (by kernel_rfl) (by kernel_rfl) (by kernel_rfl)) ?_
  intro W base args ds gs before hval0 hW hcnd hsz0 _
  have hsz : (DataW.weightsEach Try.prog (Try.f3.params.toList ++ Rows.pickPicksSpec.plain.varTypes Try.prog) (ds ++ gs)).all (· ≤ reachBytes) = true := hsz0
  have hval : ∀ (j : Nat) t v, Try.f3.params[j]? = some t → args[j]? = some v → Value.okWide Try.prog W .any base t v := hval0
  have hW' := hW
  obtain ⟨p, q, hA0, hV, rfl, hfz, hnd⟩ := hW
  have hA : DataW.TrodAll enc Try.prog W 0 (fun _ => true) true Try.f3.params.toList args.toList ds p := hA0
  rw [Try.params3] at hA hval hsz
  obtain ⟨v0, vs0, d0, ds0, p0, q0, hargs, rfl, rfl, h0, r0⟩ := trodAll_cons hA
  obtain ⟨v1, vs1, d1, ds1, p1, q1, rfl, rfl, rfl, h1, r1⟩ := trodAll_cons r0
  obtain ⟨rfl, rfl, rfl⟩ := trodAll_nil r1
  obtain rfl : args = #[v0, v1] := by cases args; simp_all
  obtain ⟨rfl, rfl⟩ := trodVars_none hV
  have k0 := h0
  have lt0 : ∀ x ∈ p0, x.block < W.heap.size := by obtain ⟨m, hm⟩ := k0; exact DataW.trod_lt m _ _ _ hm
  obtain ⟨u0, u1, u2, u3, y0, y1, y2, y3, n0, m0, rfl, g0, g1, g2, g3⟩ := open_case13 Try.underlying27 Try.underlying25 (by kernel_rfl) (by kernel_rfl) (by kernel_rfl) (hval 0 27 v0 rfl rfl) h0
  obtain ⟨A, len, cap, e0⟩ := Go.Joins.slice_form Try.underlying22 g0
  obtain ⟨b1, e1, _, _⟩ := DataW.trod_int Try.underlying21 g1
  obtain ⟨b2, e2, _, _⟩ := DataW.trod_int Try.underlying3 g2
  obtain ⟨b3, e3, _, _⟩ := DataW.trod_int Try.underlying23 g3
  simp only [List.cons.injEq, and_true] at e0 e1 e2 e3
  subst e0 e1 e2 e3
  obtain ⟨z0, wz0⟩ : ∃ zs, IsRow .i32 W A len cap zs := by
    rcases open_ints Try.underlying22 Try.underlying21 (by kernel_rfl) g0 with ⟨hcs, _⟩ | ⟨x, l, c, zs, hcs, _, hl, hm, hz, _, hcell, hwz⟩
    · simp at hcs
      obtain ⟨rfl, rfl, rfl⟩ := hcs
      exact ⟨[], .inl ⟨rfl, rfl, rfl, rfl⟩⟩
    · simp at hcs
      obtain ⟨rfl, rfl, rfl⟩ := hcs
      exact ⟨zs, .inr ⟨_, rfl, hl, hm, by simpa using hz, hcell, hwz⟩⟩
  obtain ⟨l0, rfl, hr0, hm0, hw0, hc0⟩ := ReadsInt.ofRowC wz0
  obtain ⟨a1, rfl, rfl, rfl, w1⟩ := open_int Try.underlying3 (hval 1 3 v1 rfl rfl) h1
  clear hA0 hval0 hsz0 hsz
  obtain ⟨k, hk⟩ := Pure.picks_pure l0 b1 b2 b3 a1 (A32_of_wf hw0)
  refine (Q.credenzalaw20_PickPicks.calls k _ _ l0 b1 b2 b3 a1 true W (Kd.C_of_reads (d := (0 : Int)) (h1 := fun _ => rfl) hr0) hc0 hk).mono ?_
  rintro e W' ⟨rfl, bel⟩
  exact ⟨_, rfl, _, _, _, [], _, [], hW', trodAll_mk1 (shut_bool Try.underlying4 _), (trodAll_cons_mk (Below.trod laidOut (by kernel_rfl) (of_decide_eq_true (by kernel_rfl)) k0 bel lt0) (trodAll_cons_mk (shut_int Try.underlying3 w1) trodAll_mk0)), rfl, bel.frame _, fun h => by cases h⟩
theorem over : Rows.pickPicksRow.holds Try.pinned (OpenSpec.ofChange Rows.pickPicksSpec) :=
  OpenClaim.holds_of_wide 3 Try.f3 rfl rfl rfl rfl rfl rfl rfl ⟨rfl, rfl, rfl, rfl, rfl⟩ rfl rfl rfl rfl rfl (by kernel_rfl) Try.func3 (by kernel_rfl)
    (of_decide_eq_true (by kernel_rfl)) (by unfold Func.isWrapper; first | (rw [if_pos (by decide +kernel)]; kernel_rfl) | (rw [if_neg (by decide +kernel)]; exact ⟨rfl, rfl⟩))
    (fun os started H enc _ => lifted os started H enc)
theorem proved : Rows.PickPicksSaid := over
end Go.Proofs.Ytmldhpnkkkmloaa.pickPicks
namespace Go.Proofs.Ytmldhpnkkkmloaa
/-- The row, under a short name, for the claim. -/
theorem pickPicks_holds : Rows.PickPicksSaid := pickPicks.proved
end Go.Proofs.Ytmldhpnkkkmloaa
