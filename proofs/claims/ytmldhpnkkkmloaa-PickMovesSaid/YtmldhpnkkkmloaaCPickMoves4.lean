/- A number put to all scores, such that none is cut, changes nothing, if it is a whole number of times Temp; without Temp any such number. Conditions: as each theorem states; the last one has none. -/
import Derived.Test.YtmldhpnkkkmloaaRows
import Derived.WalkKit
import Derived.ProofKit
import Derived.OpenShut
import Derived.ShutString
import Derived.ChangeOld
import Derived.Below
import Derived.SizedLaws
import Derived.Test.YtmldhpnkkkmloaaWSized
import Derived.Test.YtmldhpnkkkmloaaCPickMoves1
import Derived.Test.YtmldhpnkkkmloaaCPickMoves2
import Derived.Test.YtmldhpnkkkmloaaCPickMoves3
namespace Go.Proofs.Ytmldhpnkkkmloaa.Pure
open Go.RowKit Go.Proofs.Ytmldhpnkkkmloaa.Q Go.Proofs.YtmldhpnkkkmloaaW.PrintWords Go.Proofs.YtmldhpnkkkmloaaW.PrintLast Go.Proofs.Ytmldhpnkkkmloaa.SortM
set_option linter.unusedVariables false

/-! ### quotients -/
def divR (a t : Int) : Int := wideR (rnd (a * 65536) t)
theorem divR_bd (a t : Int) : I32 (divR a t) := wideR_bd _
theorem fix_Div_some {a t : Int} (ha : I32 a) (ht : 0 < t) (ht2 : t ≤ 1048576) {k : Nat} (hk : 2 ≤ k) : fix_Div.f k a t = some (divR a t) := by
  obtain ⟨k, rfl⟩ : ∃ m, k = m + 2 := ⟨k - 2, by omega⟩
  obtain ⟨h1, h2⟩ := ha
  rw [fix_Div.f, w64 (x := t) (by omega) (by omega), w64 (x := a) (by omega) (by omega), w64 (x := a * 65536) (by omega) (by omega), if_neg (by omega), if_neg (by omega), fix_Div.j0, if_neg (by simp), if_neg (by omega), fix_Div.j1, if_neg (by simp), fix_Ratio_some ht (by omega) (by omega) (by omega), Option.bind_some, fix_Wide_some, Option.bind_some]
  rfl
theorem ref_Div_some {a t : Int} (ha : I32 a) (ht : 0 < t) (ht2 : t ≤ 1048576) : credenzaref01_Div.f a t = some (divR a t) := by
  obtain ⟨h1, h2⟩ := ha
  rw [credenzaref01_Div.f, if_neg (by omega), if_neg (by omega), w64 (x := t) (by omega) (by omega), w64 (x := a) (by omega) (by omega), w64 (x := a * 65536) (by omega) (by omega), ref_Ratio_some ht (by omega) (by omega) (by omega), Option.bind_some, ref_Wide_some, Option.bind_some]
  rfl

/-! ### sums -/
def sumR : List Int → Int
  | [] => 0
  | x :: l => x + sumR l
def WB (l : List Int) : Prop := ∀ x ∈ l, 0 ≤ x ∧ x ≤ 131072
theorem sumR_bd : ∀ {l : List Int}, WB l → 0 ≤ sumR l ∧ sumR l ≤ l.length * 131072
  | [], _ => by simp [sumR]
  | x :: l, h => by
    have h1 := h x (by simp)
    have h2 := sumR_bd (l := l) (fun y hy => h y (by simp [hy]))
    simp only [sumR, List.length_cons]
    omega
theorem sumR_ge : ∀ {l : List Int}, WB l → ∀ x ∈ l, x ≤ sumR l
  | y :: l, h, x, hx => by
    have h1 := h y (by simp)
    have h0 : WB l := fun z hz => h z (by simp [hz])
    have h2 := sumR_bd h0
    simp only [sumR]
    rcases List.mem_cons.1 hx with rfl | hx
    · omega
    · have := sumR_ge h0 x hx; omega
theorem soft_sum_loop (l : List Int) (hl : l.length ≤ 1024) (hw : WB l) : ∀ (d k p : Nat) (s : Int), p + d = l.length → d < k → 0 ≤ s → s ≤ p * 131072 → soft_Sum.l0 k s l (l.length : Int) (p : Int) = some (s + sumR (l.drop p)) := by
  intro d
  induction d with
  | zero =>
    intro k p s hp hk h0 h1
    obtain ⟨k, rfl⟩ : ∃ m, k = m + 1 := ⟨k - 1, by omega⟩
    rw [soft_Sum.l0, if_neg (by omega), List.drop_of_length_le (by omega)]
    simp [sumR]
  | succ d ih =>
    intro k p s hp hk h0 h1
    obtain ⟨k, rfl⟩ : ∃ m, k = m + 1 := ⟨k - 1, by omega⟩
    have hlt : p < l.length := by omega
    have hb := hw _ (rd_mem hlt)
    rw [soft_Sum.l0, if_pos (by omega), if_pos (by omega), if_pos (by omega), wnext hlt (by omega), w64 (x := s + rd l (p : Int)) (by omega) (by omega), ih k (p + 1) _ (by omega) (by omega) (by omega) (by omega), drop_rd hlt]
    simp only [sumR]
    congr 1; omega
theorem soft_Sum_some {l : List Int} (hl : l.length ≤ 1024) (hw : WB l) {k : Nat} (hk : l.length < k) : soft_Sum.f k l = some (sumR l) := by
  have := soft_sum_loop l hl hw l.length k 0 0 (by omega) hk (by omega) (by omega)
  rw [soft_Sum.f]
  simpa using this
theorem ref_sum_loop (l : List Int) (hl : l.length ≤ 1024) (hw : WB l) : ∀ (d k p : Nat) (s : Int), p + d = l.length → d < k → 0 ≤ s → s ≤ p * 131072 → credenzaref04_Sum.l0 k l s (p : Int) = some (s + sumR (l.drop p)) := by
  intro d
  induction d with
  | zero =>
    intro k p s hp hk h0 h1
    obtain ⟨k, rfl⟩ : ∃ m, k = m + 1 := ⟨k - 1, by omega⟩
    rw [credenzaref04_Sum.l0, if_neg (by omega), List.drop_of_length_le (by omega)]
    simp [sumR]
  | succ d ih =>
    intro k p s hp hk h0 h1
    obtain ⟨k, rfl⟩ : ∃ m, k = m + 1 := ⟨k - 1, by omega⟩
    have hlt : p < l.length := by omega
    have hb := hw _ (rd_mem hlt)
    rw [credenzaref04_Sum.l0, if_pos (by omega), if_pos (by omega), wnext hlt (by omega), w64 (x := s + rd l (p : Int)) (by omega) (by omega), ih k (p + 1) _ (by omega) (by omega) (by omega) (by omega), drop_rd hlt]
    simp only [sumR]
    congr 1; omega
theorem ref_Sum_some {l : List Int} (hl : l.length ≤ 1024) (hw : WB l) {k : Nat} (hk : l.length < k) : credenzaref04_Sum.f k l = some (sumR l) := by
  have := ref_sum_loop l hl hw l.length k 0 0 (by omega) hk (by omega) (by omega)
  rw [credenzaref04_Sum.f]
  simpa using this

/-! ### weights -/
theorem wR_top (t : Int) : wR t t = 65536 := by
  unfold wR
  rw [Int.sub_self, show wideR 0 = 0 from rfl, expR_0]
theorem wR_bd (t x : Int) : 0 ≤ wR t x ∧ wR t x ≤ 131072 := expR_bd (wideR_bd _)
theorem weightsR_wb (l : List Int) : WB (weightsR l) := by
  intro x hx
  obtain ⟨y, _, rfl⟩ := List.mem_map.1 hx
  exact wR_bd _ _
theorem weightsR_sum {l : List Int} (h : 0 < l.length) (hl : l.length ≤ 1024) : 65536 ≤ sumR (weightsR l) ∧ sumR (weightsR l) ≤ 134217728 := by
  have h1 := sumR_bd (weightsR_wb l)
  have h2 := sumR_ge (weightsR_wb l) 65536 (by rw [← wR_top (topR l)]; exact List.mem_map.2 ⟨_, topR_mem h, rfl⟩)
  have h3 : (weightsR l).length = l.length := by simp [weightsR]
  rw [h3] at h1
  omega

/-! ### the place where the weights' sum passes a number -/
def atR : List Int → Int → Nat
  | [], _ => 0
  | w :: l, d => if w ≤ d then atR l (d - w) + 1 else 0
theorem atR_lt : ∀ {l : List Int} {d : Int}, WB l → d < sumR l → 0 ≤ d → atR l d < l.length
  | [], d, _, h, h0 => by simp [sumR] at h; omega
  | w :: l, d, hw, h, h0 => by
    simp only [sumR] at h
    simp only [atR, List.length_cons]
    by_cases c : w ≤ d
    · rw [if_pos c]
      have := atR_lt (l := l) (d := d - w) (fun x hx => hw x (by simp [hx])) (by omega) (by omega)
      omega
    · rw [if_neg c]; omega
theorem pick_l1 (g ws : List Int) (hg : g.length = ws.length) (hl : ws.length ≤ 1024) (hw : WB ws) : ∀ (d p k : Nat) (x : Int), p + d = ws.length → d < k → 0 ≤ x → x < sumR (ws.drop p) → x ≤ 134217728 → pick_Pick.l1 k g ws x (p : Int) = some (rd g ((p + atR (ws.drop p) x : Nat) : Int), 0) := by
  intro d
  induction d with
  | zero =>
    intro p k x hp hk h0 h1 h2
    rw [List.drop_of_length_le (by omega)] at h1
    simp [sumR] at h1
    omega
  | succ d ih =>
    intro p k x hp hk h0 h1 h2
    obtain ⟨k, rfl⟩ : ∃ m, k = m + 1 := ⟨k - 1, by omega⟩
    have hlt : p < ws.length := by omega
    have hb := hw _ (rd_mem hlt)
    rw [drop_rd hlt] at h1 ⊢
    simp only [sumR] at h1
    rw [pick_Pick.l1, if_pos (by omega), if_pos (by omega)]
    simp only [atR]
    by_cases c : rd ws (p : Int) ≤ x
    · rw [if_pos c, if_pos c, w64 (x := x - rd ws (p : Int)) (by omega) (by omega), wnext hlt (by omega), ih (p + 1) k _ (by omega) (by omega) (by omega) (by omega) (by omega)]
      congr 3
      omega
    · rw [if_neg c, if_neg c, if_pos (by omega)]
      rfl
theorem ref_pick_l1 (g ws : List Int) (hg : g.length = ws.length) (hl : ws.length ≤ 1024) (hw : WB ws) (x : Int) (hx : x ≤ 134217728) : ∀ (d p k : Nat) (s : Int), p + d = ws.length → d < k → 0 ≤ s → s ≤ x → x - s < sumR (ws.drop p) → credenzaref20_Pick.l1 k g ws x s (p : Int) = some (rd g ((p + atR (ws.drop p) (x - s) : Nat) : Int)) := by
  intro d
  induction d with
  | zero =>
    intro p k s hp hk h0 h1 h2
    rw [List.drop_of_length_le (by omega)] at h2
    simp [sumR] at h2
    omega
  | succ d ih =>
    intro p k s hp hk h0 h1 h2
    obtain ⟨k, rfl⟩ : ∃ m, k = m + 1 := ⟨k - 1, by omega⟩
    have hlt : p < ws.length := by omega
    have hb := hw _ (rd_mem hlt)
    rw [drop_rd hlt] at h2 ⊢
    simp only [sumR] at h2
    have e1 : IntKind.u64.wrap (s + IntKind.u64.wrap (rd ws (p : Int))) = s + rd ws (p : Int) := by rw [IntKind.wrap_u64, IntKind.wrap_u64]; omega
    rw [credenzaref20_Pick.l1, if_pos (by omega), if_pos (by omega), if_pos (by omega), e1]
    simp only [atR]
    by_cases c : rd ws (p : Int) ≤ x - s
    · rw [if_pos c, if_neg (by omega), wnext hlt (by omega), ih (p + 1) k _ (by omega) (by omega) (by omega) (by omega) (by omega)]
      congr 2
      rw [show x - (s + rd ws (p : Int)) = x - s - rd ws (p : Int) by omega]
      omega
    · rw [if_neg c, if_pos (by omega)]
      rfl

/-! ### the greatest score's first place -/
def FirstT (l : List Int) (i : Nat) : Prop := i < l.length ∧ rd l (i : Int) = topR l ∧ ∀ j : Nat, j < i → rd l (j : Int) ≠ topR l
theorem firstT_uniq {l : List Int} {i j : Nat} (h1 : FirstT l i) (h2 : FirstT l j) : i = j := by
  rcases Nat.lt_trichotomy i j with h | h | h
  · exact absurd h1.2.1 (h2.2.2 i h)
  · exact h
  · exact absurd h2.2.1 (h1.2.2 j h)
theorem topR_ge {l : List Int} : ∀ p : Nat, 0 < p → p ≤ l.length → ∀ j : Nat, j < p → rd l (j : Int) ≤ topR (l.take p) := by
  intro p
  induction p with
  | zero => intro h0; omega
  | succ p ih =>
    intro _ hp j hj
    by_cases c : p = 0
    · subst c
      obtain rfl : j = 0 := by omega
      rw [take_one (by omega)]; exact Int.le_refl _
    · have hf := fold_take (l := l) (p := p) (by omega) (by omega)
      rw [hf]
      by_cases e : j = p
      · subst e; split <;> omega
      · have := ih (by omega) (by omega) j (by omega)
        split <;> omega
theorem index_first (l : List Int) (a : Int) (hl : l.length ≤ 1000000) : ∀ (d k p : Nat), p + d = l.length → d < k → (∃ j : Nat, p ≤ j ∧ j < l.length ∧ rd l (j : Int) = a) → (∀ j : Nat, j < p → rd l (j : Int) ≠ a) →
    ∃ r : Nat, r < l.length ∧ rd l (r : Int) = a ∧ (∀ j : Nat, j < r → rd l (j : Int) ≠ a) ∧ slices_Index_int32_int32.l0 k l a (l.length : Int) (p : Int) = some (r : Int) := by
  intro d
  induction d with
  | zero =>
    intro k p hp hk ⟨j, h1, h2, _⟩ _
    omega
  | succ d ih =>
    intro k p hp hk hex hno
    obtain ⟨k, rfl⟩ : ∃ m, k = m + 1 := ⟨k - 1, by omega⟩
    have hlt : p < l.length := by omega
    rw [slices_Index_int32_int32.l0, if_pos (by omega), if_pos (by omega), if_pos (by omega)]
    by_cases c : a = rd l (p : Int)
    · exact ⟨p, hlt, c.symm, hno, by rw [if_pos c]⟩
    · rw [if_neg c, wnext hlt (by omega)]
      refine ih k (p + 1) (by omega) (by omega) ?_ ?_
      · obtain ⟨j, h1, h2, h3⟩ := hex
        refine ⟨j, ?_, h2, h3⟩
        rcases Nat.lt_or_ge p j with h | h
        · omega
        · obtain rfl : j = p := by omega
          exact absurd h3.symm c
      · intro j hj
        by_cases e : j = p
        · subst e; exact fun h => c h.symm
        · exact hno j (by omega)
theorem dot_Top_first {l : List Int} (h : 0 < l.length) (hl : l.length ≤ 1000000) {k : Nat} (hk : l.length < k) : ∃ r : Nat, FirstT l r ∧ dot_Top.f k l = some ((r : Int), topR l, 0) := by
  obtain ⟨q, hq, e⟩ := topR_key h l.length h (Nat.le_refl _)
  rw [List.take_length] at e
  obtain ⟨r, h1, h2, h3, h4⟩ := index_first l (topR l) hl l.length k 0 (by omega) hk ⟨q, by omega, hq, e⟩ (by omega)
  refine ⟨r, ⟨h1, h2, h3⟩, ?_⟩
  have h4' : slices_Index_int32_int32.f k l (topR l) = some (r : Int) := h4
  rw [dot_Top.f, if_neg (by omega), max_some h hl hk, Option.bind_some, h4', Option.bind_some]
theorem ref_first_loop (l : List Int) (hl : l.length ≤ 1000000) : ∀ (d k p q : Nat), p + d = l.length → d < k → 0 < p → q < p → rd l (q : Int) = topR (l.take p) → (∀ j : Nat, j < q → rd l (j : Int) ≠ topR (l.take p)) →
    ∃ r : Nat, FirstT l r ∧ credenzaref03_Top.l0 k l (q : Int) (p : Int) = some (r : Int) := by
  intro d
  induction d with
  | zero =>
    intro k p q hp hk h0 hq h hno
    obtain ⟨k, rfl⟩ : ∃ m, k = m + 1 := ⟨k - 1, by omega⟩
    rw [List.take_of_length_le (by omega)] at h hno
    exact ⟨q, ⟨by omega, h, hno⟩, by rw [credenzaref03_Top.l0, if_neg (by omega)]⟩
  | succ d ih =>
    intro k p q hp hk h0 hq h hno
    obtain ⟨k, rfl⟩ : ∃ m, k = m + 1 := ⟨k - 1, by omega⟩
    have hlt : p < l.length := by omega
    have hf := fold_take hlt h0
    have hge := topR_ge (l := l) p h0 (by omega)
    rw [credenzaref03_Top.l0, if_pos (by omega), if_pos (by omega), if_pos (by omega), if_pos (by omega), wnext hlt (by omega)]
    by_cases c : rd l (p : Int) > rd l (q : Int)
    · rw [if_pos c]
      exact ih k (p + 1) p (by omega) (by omega) (by omega) (by omega) (by rw [hf, if_pos (by omega)]) (fun j hj => by rw [hf, if_pos (by omega)]; have := hge j hj; omega)
    · rw [if_neg c]
      exact ih k (p + 1) q (by omega) (by omega) (by omega) (by omega) (by rw [hf, if_neg (by omega), h]) (fun j hj => by rw [hf, if_neg (by omega)]; exact hno j hj)
theorem ref_Top_first {l : List Int} (h : 0 < l.length) (hl : l.length ≤ 1000000) {k : Nat} (hk : l.length < k) : ∃ r : Nat, FirstT l r ∧ credenzaref03_Top.f k l = some (r : Int) := by
  obtain ⟨k, rfl⟩ : ∃ m, k = m + 1 := ⟨k - 1, by omega⟩
  have := ref_first_loop l hl (l.length - 1) k 1 0 (by omega) (by omega) (by omega) (by omega) (take_one h).symm (by omega)
  rw [credenzaref03_Top.f, credenzaref03_Top.l0, if_pos (by omega), if_pos (by omega), if_pos (by omega), if_pos (by omega), if_neg (by simp), show wrap64 ((0 : Int) + 1) = ((1 : Nat) : Int) from w64 (by omega) (by omega)]
  exact this
/-- The greatest score's first place is always kept. -/
theorem first_in {l : List Int} {t : Int} {i : Nat} (h : FirstT l i) (ht : 0 ≤ t) : (i : Int) ∈ kpt l t := by
  rw [kpt_mem]
  obtain ⟨h1, h2, h3⟩ := h
  refine ⟨⟨by omega, by omega⟩, ?_⟩
  unfold inK
  rw [decide_eq_true_iff]
  have h0 : SortM.ahead l (i : Int) = 0 := by
    unfold SortM.ahead
    rw [List.countP_eq_zero]
    intro y hy hb
    rw [before_iff] at hb
    obtain ⟨y1, y2⟩ := mem_iota.1 hy
    have hge := topR_ge (l := l) l.length (by omega) (Nat.le_refl _) y.toNat (by omega)
    rw [List.take_length, show ((y.toNat : Nat) : Int) = y by omega] at hge
    unfold Bef at hb
    rcases hb with hb | ⟨hb, hlt⟩
    · omega
    · have := h3 y.toNat (by omega)
      rw [show ((y.toNat : Nat) : Int) = y by omega] at this
      omega
  omega

/-! ### the pick -/
def rightR (a b : Int) : Bool := decide (0 ≤ a ∧ a ≤ 1048576 ∧ 0 ≤ b ∧ b ≤ 64)
theorem pick_Right_some (a b c : Int) : pick_Right.f a b c = some (rightR a b) := by
  unfold pick_Right.f rightR
  by_cases h1 : a ≥ 0
  · rw [if_pos h1]
    by_cases h2 : a ≤ 1048576
    · rw [if_pos h2]
      by_cases h3 : b ≥ 0
      · rw [if_pos h3]; congr 2; apply propext; omega
      · rw [if_neg h3]; congr 1; exact (decide_eq_false (by omega)).symm
    · rw [if_neg h2]; congr 1; exact (decide_eq_false (by omega)).symm
  · rw [if_neg h1]; congr 1; exact (decide_eq_false (by omega)).symm
theorem ref_Right_some (a b : Int) : credenzaref20_Right.f a b = some (rightR a b) := pick_Right_some a b 0

def warmR (l : List Int) (t top : Int) : List Int := (kpt l top).map (fun x => divR (rd l x) t)
/-- What is picked by warmth. -/
def pickR (l : List Int) (t top seed idx : Int) : Int := rd (kpt l top) ((atR (weightsR (warmR l t top)) ((fin (seedOf seed idx) : Int) % sumR (weightsR (warmR l t top))) : Nat) : Int)

theorem warm_facts {l : List Int} (t : Int) {top : Int} (h : 0 < l.length) (hl : l.length ≤ 64) (ht : 0 ≤ top) :
    0 < (kpt l top).length ∧ (kpt l top).length ≤ 64 ∧ (warmR l t top).length = (kpt l top).length ∧ A32 (warmR l t top) := by
  have h1 := kpt_length l top ht
  unfold mn at h1
  refine ⟨by split at h1 <;> (try split at h1) <;> omega, by split at h1 <;> (try split at h1) <;> omega, by simp [warmR], ?_⟩
  intro x hx
  obtain ⟨y, _, rfl⟩ := List.mem_map.1 hx
  exact divR_bd _ _

theorem pick_l0 (l : List Int) (hA : A32 l) (h : 0 < l.length) (hl : l.length ≤ 64) (t top seed idx : Int) (ht : 0 < t) (ht2 : t ≤ 1048576) (hp : 0 ≤ top) : ∀ (d p k : Nat), p + d = (kpt l top).length → d + 200 < k →
    pick_Pick.l0 k l idx (kpt l top) (((kpt l top).take p).map (fun x => divR (rd l x) t)) (kpt l top) ((kpt l top).length : Int) (p : Int) t top seed = some (pickR l t top seed idx, 0) := by
  obtain ⟨f1, f2, f3, f4⟩ := warm_facts t h hl hp
  intro d
  induction d with
  | zero =>
    intro p k hpd hk
    obtain ⟨k, rfl⟩ : ∃ m, k = m + 1 := ⟨k - 1, by omega⟩
    have hs := weightsR_sum (l := warmR l t top) (by omega) (by omega)
    have hwl : (weightsR (warmR l t top)).length = (kpt l top).length := by rw [weightsR, List.length_map, f3]
    rw [pick_Pick.l0, if_neg (by omega), List.take_of_length_le (by omega)]
    show ((soft_Weights.f k (warmR l t top)).bind _) = _
    rw [soft_Weights_some (by omega) (by omega) f4 (by omega), Option.bind_some, if_pos rfl, draw_some, Option.bind_some, soft_Sum_some (by omega) (weightsR_wb _) (by omega), Option.bind_some]
    have e1 : IntKind.u64.wrap (sumR (weightsR (warmR l t top))) = sumR (weightsR (warmR l t top)) := by rw [IntKind.wrap_u64]; omega
    rw [e1, if_neg (by omega)]
    have e2 : Int.tmod (fin (seedOf seed idx) : Int) (sumR (weightsR (warmR l t top))) = (fin (seedOf seed idx) : Int) % sumR (weightsR (warmR l t top)) := Int.tmod_eq_emod_of_nonneg (by omega)
    have b1 := Int.emod_nonneg (fin (seedOf seed idx) : Int) (show sumR (weightsR (warmR l t top)) ≠ 0 by omega)
    have b2 := Int.emod_lt_of_pos (fin (seedOf seed idx) : Int) (show 0 < sumR (weightsR (warmR l t top)) by omega)
    rw [e2, w64 (by omega) (by omega)]
    have := pick_l1 (kpt l top) (weightsR (warmR l t top)) hwl.symm (by omega) (weightsR_wb _) (weightsR (warmR l t top)).length 0 k ((fin (seedOf seed idx) : Int) % sumR (weightsR (warmR l t top))) (by omega) (by omega) b1 (by rw [List.drop_zero]; exact b2) (by omega)
    rw [List.drop_zero, Nat.zero_add] at this
    exact this
  | succ d ih =>
    intro p k hpd hk
    obtain ⟨k, rfl⟩ : ∃ m, k = m + 1 := ⟨k - 1, by omega⟩
    have hlt : p < (kpt l top).length := by omega
    have hr := kpt_rd hlt
    have hI : I32 (rd l (rd (kpt l top) (p : Int))) := by
      obtain ⟨q, hq⟩ : ∃ q : Nat, rd (kpt l top) (p : Int) = (q : Int) := ⟨(rd (kpt l top) (p : Int)).toNat, by omega⟩
      rw [hq]; exact hA _ (rd_mem (by omega))
    have hml : (((kpt l top).take p).map (fun x => divR (rd l x) t)).length ≤ 64 := by rw [List.length_map, List.length_take]; omega
    rw [pick_Pick.l0, if_pos (by omega), if_pos (by omega), if_pos (by omega), if_pos (by omega), if_pos (by omega), fix_Div_some hI ht ht2 (by omega), Option.bind_some, if_pos (by omega), wnext hlt (by omega)]
    have := ih (p + 1) k (by omega) (by omega)
    rw [take_rd hlt, List.map_append] at this
    exact this
theorem ref_pick_l0 (l : List Int) (hA : A32 l) (h : 0 < l.length) (hl : l.length ≤ 64) (t top seed idx : Int) (ht : 0 < t) (ht2 : t ≤ 1048576) (hp : 0 ≤ top) : ∀ (d p k : Nat), p + d = (kpt l top).length → d + 200 < k →
    credenzaref20_Pick.l0 k l t seed idx (kpt l top) (((kpt l top).take p).map (fun x => divR (rd l x) t)) (p : Int) = some (pickR l t top seed idx) := by
  obtain ⟨f1, f2, f3, f4⟩ := warm_facts t h hl hp
  intro d
  induction d with
  | zero =>
    intro p k hpd hk
    obtain ⟨k, rfl⟩ : ∃ m, k = m + 1 := ⟨k - 1, by omega⟩
    have hs := weightsR_sum (l := warmR l t top) (by omega) (by omega)
    have hwl : (weightsR (warmR l t top)).length = (kpt l top).length := by rw [weightsR, List.length_map, f3]
    rw [credenzaref20_Pick.l0, if_neg (by omega), List.take_of_length_le (by omega)]
    show ((credenzaref04_Weights.f k (warmR l t top)).bind _) = _
    rw [ref_Weights_some (by omega) (by omega) f4 (by omega), Option.bind_some, ref_draw seed idx (by omega), Option.bind_some, ref_Sum_some (by omega) (weightsR_wb _) (by omega), Option.bind_some]
    have e1 : IntKind.u64.wrap (sumR (weightsR (warmR l t top))) = sumR (weightsR (warmR l t top)) := by rw [IntKind.wrap_u64]; omega
    rw [e1, if_neg (by omega)]
    have e2 : Int.tmod (fin (seedOf seed idx) : Int) (sumR (weightsR (warmR l t top))) = (fin (seedOf seed idx) : Int) % sumR (weightsR (warmR l t top)) := Int.tmod_eq_emod_of_nonneg (by omega)
    have b1 := Int.emod_nonneg (fin (seedOf seed idx) : Int) (show sumR (weightsR (warmR l t top)) ≠ 0 by omega)
    have b2 := Int.emod_lt_of_pos (fin (seedOf seed idx) : Int) (show 0 < sumR (weightsR (warmR l t top)) by omega)
    rw [e2]
    have := ref_pick_l1 (kpt l top) (weightsR (warmR l t top)) hwl.symm (by omega) (weightsR_wb _) ((fin (seedOf seed idx) : Int) % sumR (weightsR (warmR l t top))) (by omega) (weightsR (warmR l t top)).length 0 k 0 (by omega) (by omega) (by omega) b1 (by rw [List.drop_zero, Int.sub_zero]; exact b2)
    rw [List.drop_zero, Nat.zero_add, Int.sub_zero] at this
    exact this
  | succ d ih =>
    intro p k hpd hk
    obtain ⟨k, rfl⟩ : ∃ m, k = m + 1 := ⟨k - 1, by omega⟩
    have hlt : p < (kpt l top).length := by omega
    have hr := kpt_rd hlt
    have hI : I32 (rd l (rd (kpt l top) (p : Int))) := by
      obtain ⟨q, hq⟩ : ∃ q : Nat, rd (kpt l top) (p : Int) = (q : Int) := ⟨(rd (kpt l top) (p : Int)).toNat, by omega⟩
      rw [hq]; exact hA _ (rd_mem (by omega))
    have hml : (((kpt l top).take p).map (fun x => divR (rd l x) t)).length ≤ 64 := by rw [List.length_map, List.length_take]; omega
    rw [credenzaref20_Pick.l0, if_pos (by omega), if_pos (by omega), if_pos (by omega), if_pos (by omega), ref_Div_some hI ht ht2, Option.bind_some, if_pos (by omega), wnext hlt (by omega)]
    have := ih (p + 1) k (by omega) (by omega)
    rw [take_rd hlt, List.map_append] at this
    exact this

/-- The pick, where it may be. -/
theorem pick_some {l : List Int} (hA : A32 l) (h : 0 < l.length) (hl : l.length ≤ 64) {t top : Int} (seed : Int) {idx : Int} (hR : rightR t top = true) (h0 : 0 ≤ idx) (h1 : idx ≤ 1024) {k : Nat} (hk : 300 ≤ k) :
    ∃ v : Int, pick_Pick.f k l t top seed idx = some (v, 0) ∧ v ∈ kpt l top ∧ (t = 0 → ∃ i : Nat, FirstT l i ∧ v = (i : Int)) ∧ (t ≠ 0 → v = pickR l t top seed idx) := by
  obtain ⟨k, rfl⟩ : ∃ m, k = m + 1 := ⟨k - 1, by omega⟩
  have hR' := hR
  unfold rightR at hR'
  rw [decide_eq_true_iff] at hR'
  rw [pick_Pick.f, if_neg (by omega), if_neg (by omega), pick_Right_some, hR, Option.bind_some, if_pos rfl, if_neg (by omega), decide_eq_false (by omega), pick_Pick.j0, if_neg (by simp)]
  by_cases ht : t = 0
  · rw [if_pos ht]
    obtain ⟨r, hr, he⟩ := dot_Top_first h (by omega) (k := k) (by omega)
    rw [he, Option.bind_some]
    exact ⟨_, rfl, first_in hr (by omega), fun _ => ⟨r, hr, rfl⟩, fun e => absurd ht e⟩
  · rw [if_neg ht, pick_Kept_some (by omega) (by omega), Option.bind_some]
    have := pick_l0 l hA h hl t top seed idx (by omega) (by omega) (by omega) (kpt l top).length 0 k (by omega) (by have := (warm_facts t h hl (top := top) (by omega)).2.1; omega)
    obtain ⟨f1, f2, f3, f4⟩ := warm_facts t h hl (top := top) (by omega)
    have hs := weightsR_sum (l := warmR l t top) (by omega) (by omega)
    have hwl : (weightsR (warmR l t top)).length = (kpt l top).length := by rw [weightsR, List.length_map, f3]
    refine ⟨_, this, ?_, fun e => absurd e ht, fun _ => rfl⟩
    have hlt := atR_lt (weightsR_wb (warmR l t top)) (Int.emod_lt_of_pos (fin (seedOf seed idx) : Int) (show 0 < sumR (weightsR (warmR l t top)) by omega)) (Int.emod_nonneg (fin (seedOf seed idx) : Int) (by omega))
    exact rd_mem (by omega)
theorem ref_pick_ev {l : List Int} (hA : A32 l) (h : 0 < l.length) (hl : l.length ≤ 64) {t top : Int} (seed : Int) {idx : Int} (hR : rightR t top = true) {v : Int} (h1 : t = 0 → ∃ i : Nat, FirstT l i ∧ v = (i : Int)) (h2 : t ≠ 0 → v = pickR l t top seed idx) :
    Ev (fun k => credenzaref20_Pick.f k l t top seed idx) v := by
  have hR' := hR
  unfold rightR at hR'
  rw [decide_eq_true_iff] at hR'
  by_cases ht : t = 0
  · obtain ⟨i, hi, rfl⟩ := h1 ht
    refine ⟨l.length + 1, fun k hk => ?_⟩
    obtain ⟨r, hr, he⟩ := ref_Top_first h (by omega) (k := k) (by omega)
    show credenzaref20_Pick.f k l t top seed idx = _
    rw [credenzaref20_Pick.f, if_pos ht, he, Option.bind_some, firstT_uniq hi hr]
  · rw [h2 ht]
    refine Ev.congr (f := fun k => (credenzaref20_Kept.f k l top).bind fun t334 => credenzaref20_Pick.l0 k l t seed idx t334 ([] : List Int) 0) (fun k => by rw [credenzaref20_Pick.f, if_neg ht]) (Ev.bind (ref_Kept_ev l top (by omega)) ⟨300, fun k hk => ?_⟩)
    exact ref_pick_l0 l hA h hl t top seed idx (by omega) (by omega) (by omega) (kpt l top).length 0 k (by omega) (by have := (warm_facts t h hl (top := top) (by omega)).2.1; omega)
end Go.Proofs.Ytmldhpnkkkmloaa.Pure

namespace Go.Proofs.Ytmldhpnkkkmloaa.Q
open Go.RowKit Go.Proofs.YtmldhpnkkkmloaaW.PrintWords Go.Proofs.YtmldhpnkkkmloaaW.PrintLast Go.Proofs.YtmldhpnkkkmloaaW.PrintMore
attribute [local go_sem] max2_int min2_int max_two min_two max_three min_three max_four min_four   -- for this text's walks alone
set_option linter.unusedVariables false
set_option linter.unusedSimpArgs false

/-! ### credenzalaw20_PickMoves: function 6 -/
mutual
def credenzalaw20_PickMoves.j0 : Nat → Int → Int → Bool → List Int → Int → Int → Int → Option (Bool)
  | 0, _, _, _, _, _, _, _ => none
  | k + 1, x1, x2, x50, x388000, x388001, x388002, x388003 => if x50 = true then ((credenzalaw20_awake.f k).bind fun t389 => (some t389)) else (if x388001 > 0 then (credenzalaw20_PickMoves.j1 k x1 x2 (decide (x388001 < 32768)) x388000 x388001 x388002 x388003) else (credenzalaw20_PickMoves.j1 k x1 x2 false x388000 x388001 x388002 x388003))
def credenzalaw20_PickMoves.j1 : Nat → Int → Int → Bool → List Int → Int → Int → Int → Option (Bool)
  | 0, _, _, _, _, _, _, _ => none
  | k + 1, x1, x2, x61, x388000, x388001, x388002, x388003 => if x61 = true then ((credenzalaw20_awake.f k).bind fun t390 => (some t390)) else (if x388001 = 0 then (credenzalaw20_PickMoves.j2 k x2 (wrap32 (x1)) x388000 x388001 x388002 x388003) else (credenzalaw20_PickMoves.j2 k x2 (wrap32 ((wrap32 (x1)) * x388001)) x388000 x388001 x388002 x388003))
def credenzalaw20_PickMoves.j2 : Nat → Int → Int → List Int → Int → Int → Int → Option (Bool)
  | 0, _, _, _, _, _, _ => none
  | k + 1, x2, x7, x388000, x388001, x388002, x388003 => credenzalaw20_PickMoves.l0 k x2 x7 ([] : List Int) x388000 (x388000.length : Int) 0 x388000 x388001 x388002 x388003
def credenzalaw20_PickMoves.l0 : Nat → Int → Int → List Int → List Int → Int → Int → List Int → Int → Int → Int → Option (Bool)
  | 0, _, _, _, _, _, _, _, _, _, _ => none
  | k + 1, x2, x7, x8, x76, x77, x78, x388000, x388001, x388002, x388003 => if x78 < x77 then (if 0 ≤ x78 then (if x78 < (x76.length : Int) then (if (rd x76 x78) < (-8388608) then ((credenzalaw20_awake.f k).bind fun t392 => (some t392)) else (if (rd x76 x78) > 8388608 then ((credenzalaw20_awake.f k).bind fun t393 => (some t393)) else (if x8.length < 35184372088832 then (credenzalaw20_PickMoves.l0 k x2 x7 (x8 ++ [wrap32 ((rd x76 x78) + x7)]) x76 x77 (wrap64 (x78 + 1)) x388000 x388001 x388002 x388003) else (none)))) else (none)) else (none)) else ((pick_Pick.f k x388000 x388001 x388002 x388003 x2).bind fun bt397 => ((pick_Pick.f k x8 x388001 x388002 x388003 x2).bind fun bt399 => (if bt397.2 = 0 then (if bt399.2 = 0 then (if bt397.1 = bt399.1 then ((credenzalaw20_awake.f k).bind fun t401 => (some t401)) else (some false)) else (some false)) else (some false))))
end
def credenzalaw20_PickMoves.f (k : Nat) (l0_0 : List Int) (a0_1 : Int) (a0_2 : Int) (a0_3 : Int) (a1 : Int) (a2 : Int) : Option (Bool) := if (l0_0.length : Int) = 0 then (credenzalaw20_PickMoves.j0 k a1 a2 true l0_0 a0_1 a0_2 a0_3) else (if (l0_0.length : Int) > 64 then (credenzalaw20_PickMoves.j0 k a1 a2 true l0_0 a0_1 a0_2 a0_3) else ((credenzaref20_Right.f a0_1 a0_2).bind fun t388 => (if t388 = true then (if a2 < 0 then (credenzalaw20_PickMoves.j0 k a1 a2 true l0_0 a0_1 a0_2 a0_3) else (if a2 > 1024 then (credenzalaw20_PickMoves.j0 k a1 a2 true l0_0 a0_1 a0_2 a0_3) else (if a1 < (-200) then (credenzalaw20_PickMoves.j0 k a1 a2 true l0_0 a0_1 a0_2 a0_3) else (credenzalaw20_PickMoves.j0 k a1 a2 (decide (a1 > 200)) l0_0 a0_1 a0_2 a0_3)))) else (credenzalaw20_PickMoves.j0 k a1 a2 true l0_0 a0_1 a0_2 a0_3))))
theorem credenzalaw20_PickMoves.mono_l : ∀ k, (∀ y0 y1 y2 y3 y4 y5 y6, LeO (credenzalaw20_PickMoves.j0 k y0 y1 y2 y3 y4 y5 y6) (credenzalaw20_PickMoves.j0 (k + 1) y0 y1 y2 y3 y4 y5 y6)) ∧ (∀ y0 y1 y2 y3 y4 y5 y6, LeO (credenzalaw20_PickMoves.j1 k y0 y1 y2 y3 y4 y5 y6) (credenzalaw20_PickMoves.j1 (k + 1) y0 y1 y2 y3 y4 y5 y6)) ∧ (∀ y0 y1 y2 y3 y4 y5, LeO (credenzalaw20_PickMoves.j2 k y0 y1 y2 y3 y4 y5) (credenzalaw20_PickMoves.j2 (k + 1) y0 y1 y2 y3 y4 y5)) ∧ (∀ y0 y1 y2 y3 y4 y5 y6 y7 y8 y9, LeO (credenzalaw20_PickMoves.l0 k y0 y1 y2 y3 y4 y5 y6 y7 y8 y9) (credenzalaw20_PickMoves.l0 (k + 1) y0 y1 y2 y3 y4 y5 y6 y7 y8 y9))
  | 0 => ⟨fun _ _ _ _ _ _ _ r h => by simp [credenzalaw20_PickMoves.j0] at h, fun _ _ _ _ _ _ _ r h => by simp [credenzalaw20_PickMoves.j1] at h, fun _ _ _ _ _ _ r h => by simp [credenzalaw20_PickMoves.j2] at h, fun _ _ _ _ _ _ _ _ _ _ r h => by simp [credenzalaw20_PickMoves.l0] at h⟩
  | k + 1 => by
    obtain ⟨ih0, ih1, ih2, ih3⟩ := credenzalaw20_PickMoves.mono_l k
    refine ⟨?_, ?_, ?_, ?_⟩
    · intro y0 y1 y2 y3 y4 y5 y6
      unfold credenzalaw20_PickMoves.j0
      repeat' first
      | (with_reducible exact ih0 _ _ _ _ _ _ _)
      | (with_reducible exact ih1 _ _ _ _ _ _ _)
      | (with_reducible exact ih2 _ _ _ _ _ _)
      | (with_reducible exact ih3 _ _ _ _ _ _ _ _ _ _)
      | (with_reducible exact credenzalaw20_awake.mono _)
      | (with_reducible exact pick_Pick.mono _ _ _ _ _ _)
      | (with_reducible exact LeO.refl _)
      | (with_reducible exact LeO.none _)
      | (with_reducible refine LeO.ite ?_ ?_)
      | (with_reducible refine LeO.bind ?_ (fun _ => ?_))
      | exact ih0 _ _ _ _ _ _ _
      | exact ih1 _ _ _ _ _ _ _
      | exact ih2 _ _ _ _ _ _
      | exact ih3 _ _ _ _ _ _ _ _ _ _
      | exact credenzalaw20_awake.mono _
      | exact pick_Pick.mono _ _ _ _ _ _
      | exact LeO.none _
      | refine LeO.ite ?_ ?_
      | refine LeO.bind ?_ (fun _ => ?_)
    · intro y0 y1 y2 y3 y4 y5 y6
      unfold credenzalaw20_PickMoves.j1
      repeat' first
      | (with_reducible exact ih0 _ _ _ _ _ _ _)
      | (with_reducible exact ih1 _ _ _ _ _ _ _)
      | (with_reducible exact ih2 _ _ _ _ _ _)
      | (with_reducible exact ih3 _ _ _ _ _ _ _ _ _ _)
      | (with_reducible exact credenzalaw20_awake.mono _)
      | (with_reducible exact pick_Pick.mono _ _ _ _ _ _)
      | (with_reducible exact LeO.refl _)
      | (with_reducible exact LeO.none _)
      | (with_reducible refine LeO.ite ?_ ?_)
      | (with_reducible refine LeO.bind ?_ (fun _ => ?_))
      | exact ih0 _ _ _ _ _ _ _
      | exact ih1 _ _ _ _ _ _ _
      | exact ih2 _ _ _ _ _ _
      | exact ih3 _ _ _ _ _ _ _ _ _ _
      | exact credenzalaw20_awake.mono _
      | exact pick_Pick.mono _ _ _ _ _ _
      | exact LeO.none _
      | refine LeO.ite ?_ ?_
      | refine LeO.bind ?_ (fun _ => ?_)
    · intro y0 y1 y2 y3 y4 y5
      unfold credenzalaw20_PickMoves.j2
      repeat' first
      | (with_reducible exact ih0 _ _ _ _ _ _ _)
      | (with_reducible exact ih1 _ _ _ _ _ _ _)
      | (with_reducible exact ih2 _ _ _ _ _ _)
      | (with_reducible exact ih3 _ _ _ _ _ _ _ _ _ _)
      | (with_reducible exact credenzalaw20_awake.mono _)
      | (with_reducible exact pick_Pick.mono _ _ _ _ _ _)
      | (with_reducible exact LeO.refl _)
      | (with_reducible exact LeO.none _)
      | (with_reducible refine LeO.ite ?_ ?_)
      | (with_reducible refine LeO.bind ?_ (fun _ => ?_))
      | exact ih0 _ _ _ _ _ _ _
      | exact ih1 _ _ _ _ _ _ _
      | exact ih2 _ _ _ _ _ _
      | exact ih3 _ _ _ _ _ _ _ _ _ _
      | exact credenzalaw20_awake.mono _
      | exact pick_Pick.mono _ _ _ _ _ _
      | exact LeO.none _
      | refine LeO.ite ?_ ?_
      | refine LeO.bind ?_ (fun _ => ?_)
    · intro y0 y1 y2 y3 y4 y5 y6 y7 y8 y9
      unfold credenzalaw20_PickMoves.l0
      repeat' first
      | (with_reducible exact ih0 _ _ _ _ _ _ _)
      | (with_reducible exact ih1 _ _ _ _ _ _ _)
      | (with_reducible exact ih2 _ _ _ _ _ _)
      | (with_reducible exact ih3 _ _ _ _ _ _ _ _ _ _)
      | (with_reducible exact credenzalaw20_awake.mono _)
      | (with_reducible exact pick_Pick.mono _ _ _ _ _ _)
      | (with_reducible exact LeO.refl _)
      | (with_reducible exact LeO.none _)
      | (with_reducible refine LeO.ite ?_ ?_)
      | (with_reducible refine LeO.bind ?_ (fun _ => ?_))
      | exact ih0 _ _ _ _ _ _ _
      | exact ih1 _ _ _ _ _ _ _
      | exact ih2 _ _ _ _ _ _
      | exact ih3 _ _ _ _ _ _ _ _ _ _
      | exact credenzalaw20_awake.mono _
      | exact pick_Pick.mono _ _ _ _ _ _
      | exact LeO.none _
      | refine LeO.ite ?_ ?_
      | refine LeO.bind ?_ (fun _ => ?_)
theorem credenzalaw20_PickMoves.mono : ∀ a0 a1 a2 a3 a4 a5 k, LeO (credenzalaw20_PickMoves.f k a0 a1 a2 a3 a4 a5) (credenzalaw20_PickMoves.f (k + 1) a0 a1 a2 a3 a4 a5) := by
  intro a0 a1 a2 a3 a4 a5 k
  obtain ⟨ih0, ih1, ih2, ih3⟩ := credenzalaw20_PickMoves.mono_l k
  unfold credenzalaw20_PickMoves.f
  repeat' first
      | (with_reducible exact ih0 _ _ _ _ _ _ _)
      | (with_reducible exact ih1 _ _ _ _ _ _ _)
      | (with_reducible exact ih2 _ _ _ _ _ _)
      | (with_reducible exact ih3 _ _ _ _ _ _ _ _ _ _)
      | (with_reducible exact credenzalaw20_awake.mono _)
      | (with_reducible exact pick_Pick.mono _ _ _ _ _ _)
      | (with_reducible exact LeO.refl _)
      | (with_reducible exact LeO.none _)
      | (with_reducible refine LeO.ite ?_ ?_)
      | (with_reducible refine LeO.bind ?_ (fun _ => ?_))
      | exact ih0 _ _ _ _ _ _ _
      | exact ih1 _ _ _ _ _ _ _
      | exact ih2 _ _ _ _ _ _
      | exact ih3 _ _ _ _ _ _ _ _ _ _
      | exact credenzalaw20_awake.mono _
      | exact pick_Pick.mono _ _ _ _ _ _
      | exact LeO.none _
      | refine LeO.ite ?_ ?_
      | refine LeO.bind ?_ (fun _ => ?_)
set_option maxHeartbeats 8000000 in
set_option maxRecDepth 100000 in
theorem credenzalaw20_PickMoves.calls (k : Nat) (A0_0 : Option Addr) (c0_0 : Nat) (l0_0 : List Int) (a0_1 : Int) (a0_2 : Int) (a0_3 : Int) (a1 : Int) (a2 : Int) (r : Bool) (w : World) (hr0_0 : Kd.C (Kd.int .i32) w A0_0 l0_0.length l0_0) (hc0_0 : l0_0.length ≤ c0_0) (h : credenzalaw20_PickMoves.f k l0_0 a0_1 a0_2 a0_3 a1 a2 = some r) :
    Calls Try.prog 6 #[.agg #[.slice A0_0 l0_0.length c0_0, .int .i32 a0_1, .int .i64 a0_2, .int .u64 a0_3], .int .i64 a1, .int .i64 a2] w fun e w' => e = .returned (.bool r) ∧ Below w.heap.size w w' := by
  have hu27 := Try.underlying27
  have hu25 := Try.underlying25
  have HR0_0 := Aside0.mk hr0_0
  have HC0_0 := Aside0.mk hc0_0
  clear hr0_0 hc0_0
  have HB := Aside0.mk (Below.refl w.heap.size w)
  have H : (if (l0_0.length : Int) = 0 then (credenzalaw20_PickMoves.j0 k a1 a2 true l0_0 a0_1 a0_2 a0_3) else (if (l0_0.length : Int) > 64 then (credenzalaw20_PickMoves.j0 k a1 a2 true l0_0 a0_1 a0_2 a0_3) else ((credenzaref20_Right.f a0_1 a0_2).bind fun t388 => (if t388 = true then (if a2 < 0 then (credenzalaw20_PickMoves.j0 k a1 a2 true l0_0 a0_1 a0_2 a0_3) else (if a2 > 1024 then (credenzalaw20_PickMoves.j0 k a1 a2 true l0_0 a0_1 a0_2 a0_3) else (if a1 < (-200) then (credenzalaw20_PickMoves.j0 k a1 a2 true l0_0 a0_1 a0_2 a0_3) else (credenzalaw20_PickMoves.j0 k a1 a2 (decide (a1 > 200)) l0_0 a0_1 a0_2 a0_3)))) else (credenzalaw20_PickMoves.j0 k a1 a2 true l0_0 a0_1 a0_2 a0_3))))) = some r := h
  clear h
  have HC4 := Aside0.mk H
  clear H
  go_enter Try.func6, Try.ntmps6
  go_upto_region 1 with (first | ((with_reducible refine gate_dst (N := 3) rfl ?_); (try (refine gate_guard (by rfl) ?_; dsimp only)); refine box_event ?hg (N := 3) ?hd (cs := #[.slice A0_0 l0_0.length c0_0, .int .i32 a0_1, .int .i64 a0_2, .int .u64 a0_3]) (t := 27) ?hr ?_; (case hd => rfl); (case hg => rfl); (case hr => first | (go_simp; done) | (go_simp; rfl)); intro gb387 hg w5 hbox hb; have n0_ := Aside0.mk (below_step (by repeat (first | (with_reducible first | exact HB.out | apply below_alloc | apply pw_below_drewN | apply below_drew1) | exact HB.out)) hb); have n1_ := Aside0.mk (hbox); have n2_ := Aside0.mk ((by rw [hg]; exact (below_size (by repeat (first | (with_reducible first | exact HB.out | apply below_alloc | apply pw_below_drewN | apply below_drew1) | exact HB.out))) : w.heap.size ≤ gb387)); have n3_ := Aside0.mk ((by rw [hg]; exact (below_size (by repeat (first | (with_reducible first | exact HB.out | apply below_alloc | apply pw_below_drewN | apply below_drew1) | exact HB.out))) : w.heap.size ≤ gb387)); clear HB; have HB := n0_; have BK387 := n1_; have GW387 := n2_; have GE387 := n3_; clear n0_ n1_ n2_ n3_; clear hb hbox hg))
  (try simp only [Act.put, List.setIfInBounds_toArray, List.set_cons_zero, List.set_cons_succ])
  go_cut [50] (fun v50 wc => ∃ (kq : Nat) (x50_3 : Bool), v50 = .bool x50_3 ∧ Aside0 (credenzalaw20_PickMoves.j0 kq a1 a2 x50_3 l0_0 a0_1 a0_2 a0_3 = some r) ∧ Aside0 (kq ≤ k) ∧ Aside0 (wc.heap[gb387]? = some (.cells #[(.slice A0_0 l0_0.length c0_0), .int .i32 a0_1, .int .i64 a0_2, .int .u64 a0_3] 27 (0, 0))) ∧ Aside0 (Below w.heap.size w wc))
  case first =>
    have H := HC4.out
    clear HC4
    by_cases c6 : (l0_0.length : Int) = 0
    · rw [if_pos c6] at H
      have c6b0 : ((l0_0.length : Int) == 0) = true := beq_iff_eq.mpr c6
      have c6b1 : ((l0_0.length : Int) != 0) = false := bne_eq_false_iff_eq.mpr c6
      clear c6
      (first | rw [c6b0] | (simp only [i64_w, i32_w]; rw [c6b0]) | skip)
      have H' := Aside0.mk H
      clear H
      have hcz7_0 : w5.cell? ⟨gb387, 0, none⟩ = some (.slice A0_0 l0_0.length c0_0) := (blk_cell BK387.out 0).trans rfl
      have hcz7_1 : w5.cell? ⟨gb387, 1, none⟩ = some (.int .i32 a0_1) := (blk_cell BK387.out 1).trans rfl
      have hcz7_2 : w5.cell? ⟨gb387, 2, none⟩ = some (.int .i64 a0_2) := (blk_cell BK387.out 2).trans rfl
      have hcz7_3 : w5.cell? ⟨gb387, 3, none⟩ = some (.int .u64 a0_3) := (blk_cell BK387.out 3).trans rfl
      have hfz7_0 := blk_frozen BK387.out 0
      have hfz7_1 := blk_frozen BK387.out 1
      have hfz7_2 := blk_frozen BK387.out 2
      have hfz7_3 := blk_frozen BK387.out 3
      go_wp2
      go_meet
      case rel => exact ⟨_, (true), (by first | rfl | (simp; done) | (simp [*]; done)), H', ⟨by first | omega | exact Nat.le_refl _⟩, ⟨by (with_reducible repeat (first | refine blk_drewN ?_ _ | refine blk_drew ?_ | refine blk_alloc ?_ _)); exact BK387.out⟩, ⟨by repeat (first | (with_reducible first | exact HB.out | apply below_alloc | apply pw_below_drewN | apply below_drew1 | refine below_set ?_ GE387.out) | exact HB.out)⟩⟩
    · rw [if_neg c6] at H
      have c6b0 : ((l0_0.length : Int) == 0) = false := beq_eq_false_iff_ne.mpr c6
      have c6b1 : ((l0_0.length : Int) != 0) = true := bne_iff_ne.mpr c6
      have c6b2 : ¬ (l0_0 = []) := fun h_ => c6 (by rw [h_]; rfl)
      (first | rw [c6b0] | (simp only [i64_w, i32_w]; rw [c6b0]) | skip)
      by_cases c8 : (l0_0.length : Int) > 64
      · rw [if_pos c8] at H
        have c8b0 : decide (64 < (l0_0.length : Int)) = true := decide_eq_true c8
        have c8b1 : decide (64 < l0_0.length) = true := decide_eq_true (by omega)
        clear c8
        have H' := Aside0.mk H
        clear H
        have hcz9_0 : w5.cell? ⟨gb387, 0, none⟩ = some (.slice A0_0 l0_0.length c0_0) := (blk_cell BK387.out 0).trans rfl
        have hcz9_1 : w5.cell? ⟨gb387, 1, none⟩ = some (.int .i32 a0_1) := (blk_cell BK387.out 1).trans rfl
        have hcz9_2 : w5.cell? ⟨gb387, 2, none⟩ = some (.int .i64 a0_2) := (blk_cell BK387.out 2).trans rfl
        have hcz9_3 : w5.cell? ⟨gb387, 3, none⟩ = some (.int .u64 a0_3) := (blk_cell BK387.out 3).trans rfl
        have hfz9_0 := blk_frozen BK387.out 0
        have hfz9_1 := blk_frozen BK387.out 1
        have hfz9_2 := blk_frozen BK387.out 2
        have hfz9_3 := blk_frozen BK387.out 3
        go_wp2
        go_meet
        case rel => exact ⟨_, (true), (by first | rfl | (simp; done) | (simp [*]; done)), H', ⟨by first | omega | exact Nat.le_refl _⟩, ⟨by (with_reducible repeat (first | refine blk_drewN ?_ _ | refine blk_drew ?_ | refine blk_alloc ?_ _)); exact BK387.out⟩, ⟨by repeat (first | (with_reducible first | exact HB.out | apply below_alloc | apply pw_below_drewN | apply below_drew1 | refine below_set ?_ GE387.out) | exact HB.out)⟩⟩
      · rw [if_neg c8] at H
        have c8b0 : decide (64 < (l0_0.length : Int)) = false := decide_eq_false c8
        have c8b1 : decide (64 < l0_0.length) = false := decide_eq_false (by omega)
        clear c8
        replace H := Option.bind_eq_some_iff.mp H
        obtain ⟨t388, A100, H⟩ := H
        replace H : (if t388 = true then (if a2 < 0 then (credenzalaw20_PickMoves.j0 k a1 a2 true l0_0 a0_1 a0_2 a0_3) else (if a2 > 1024 then (credenzalaw20_PickMoves.j0 k a1 a2 true l0_0 a0_1 a0_2 a0_3) else (if a1 < (-200) then (credenzalaw20_PickMoves.j0 k a1 a2 true l0_0 a0_1 a0_2 a0_3) else (credenzalaw20_PickMoves.j0 k a1 a2 (decide (a1 > 200)) l0_0 a0_1 a0_2 a0_3)))) else (credenzalaw20_PickMoves.j0 k a1 a2 true l0_0 a0_1 a0_2 a0_3)) = some r := H
        have A10 := Aside0.mk A100
        clear A100
        by_cases c11 : t388 = true
        · subst c11
          have H1 : (if a2 < 0 then (credenzalaw20_PickMoves.j0 k a1 a2 true l0_0 a0_1 a0_2 a0_3) else (if a2 > 1024 then (credenzalaw20_PickMoves.j0 k a1 a2 true l0_0 a0_1 a0_2 a0_3) else (if a1 < (-200) then (credenzalaw20_PickMoves.j0 k a1 a2 true l0_0 a0_1 a0_2 a0_3) else (credenzalaw20_PickMoves.j0 k a1 a2 (decide (a1 > 200)) l0_0 a0_1 a0_2 a0_3)))) = some r := by rw [if_pos rfl] at H; exact H
          clear H
          have H := H1
          clear H1
          by_cases c12 : a2 < 0
          · rw [if_pos c12] at H
            have c12b0 : decide (a2 < 0) = true := decide_eq_true c12
            clear c12
            have H' := Aside0.mk H
            clear H
            have hcz13_0 : w5.cell? ⟨gb387, 0, none⟩ = some (.slice A0_0 l0_0.length c0_0) := (blk_cell BK387.out 0).trans rfl
            have hcz13_1 : w5.cell? ⟨gb387, 1, none⟩ = some (.int .i32 a0_1) := (blk_cell BK387.out 1).trans rfl
            have hcz13_2 : w5.cell? ⟨gb387, 2, none⟩ = some (.int .i64 a0_2) := (blk_cell BK387.out 2).trans rfl
            have hcz13_3 : w5.cell? ⟨gb387, 3, none⟩ = some (.int .u64 a0_3) := (blk_cell BK387.out 3).trans rfl
            have hfz13_0 := blk_frozen BK387.out 0
            have hfz13_1 := blk_frozen BK387.out 1
            have hfz13_2 := blk_frozen BK387.out 2
            have hfz13_3 := blk_frozen BK387.out 3
            go_wp2_with (first | (go_at_call 10; (with_reducible refine (credenzaref20_Right.calls a0_1 a0_2 true _ A10.out).mono ?_); rintro e w' ⟨rfl, ⟨nd, rfl⟩⟩))
            go_meet
            case rel => exact ⟨_, (true), (by first | rfl | (simp; done) | (simp [*]; done)), H', ⟨by first | omega | exact Nat.le_refl _⟩, ⟨by (with_reducible repeat (first | refine blk_drewN ?_ _ | refine blk_drew ?_ | refine blk_alloc ?_ _)); exact BK387.out⟩, ⟨by repeat (first | (with_reducible first | exact HB.out | apply below_alloc | apply pw_below_drewN | apply below_drew1 | refine below_set ?_ GE387.out) | exact HB.out)⟩⟩
          · rw [if_neg c12] at H
            have c12b0 : decide (a2 < 0) = false := decide_eq_false c12
            clear c12
            by_cases c14 : a2 > 1024
            · rw [if_pos c14] at H
              have c14b0 : decide (1024 < a2) = true := decide_eq_true c14
              clear c14
              have H' := Aside0.mk H
              clear H
              have hcz15_0 : w5.cell? ⟨gb387, 0, none⟩ = some (.slice A0_0 l0_0.length c0_0) := (blk_cell BK387.out 0).trans rfl
              have hcz15_1 : w5.cell? ⟨gb387, 1, none⟩ = some (.int .i32 a0_1) := (blk_cell BK387.out 1).trans rfl
              have hcz15_2 : w5.cell? ⟨gb387, 2, none⟩ = some (.int .i64 a0_2) := (blk_cell BK387.out 2).trans rfl
              have hcz15_3 : w5.cell? ⟨gb387, 3, none⟩ = some (.int .u64 a0_3) := (blk_cell BK387.out 3).trans rfl
              have hfz15_0 := blk_frozen BK387.out 0
              have hfz15_1 := blk_frozen BK387.out 1
              have hfz15_2 := blk_frozen BK387.out 2
              have hfz15_3 := blk_frozen BK387.out 3
              go_wp2_with (first | (go_at_call 10; (with_reducible refine (credenzaref20_Right.calls a0_1 a0_2 true _ A10.out).mono ?_); rintro e w' ⟨rfl, ⟨nd, rfl⟩⟩))
              go_meet
              case rel => exact ⟨_, (true), (by first | rfl | (simp; done) | (simp [*]; done)), H', ⟨by first | omega | exact Nat.le_refl _⟩, ⟨by (with_reducible repeat (first | refine blk_drewN ?_ _ | refine blk_drew ?_ | refine blk_alloc ?_ _)); exact BK387.out⟩, ⟨by repeat (first | (with_reducible first | exact HB.out | apply below_alloc | apply pw_below_drewN | apply below_drew1 | refine below_set ?_ GE387.out) | exact HB.out)⟩⟩
            · rw [if_neg c14] at H
              have c14b0 : decide (1024 < a2) = false := decide_eq_false c14
              clear c14
              by_cases c16 : a1 < (-200)
              · rw [if_pos c16] at H
                have c16b0 : decide (a1 < (-200)) = true := decide_eq_true c16
                clear c16
                have H' := Aside0.mk H
                clear H
                have hcz17_0 : w5.cell? ⟨gb387, 0, none⟩ = some (.slice A0_0 l0_0.length c0_0) := (blk_cell BK387.out 0).trans rfl
                have hcz17_1 : w5.cell? ⟨gb387, 1, none⟩ = some (.int .i32 a0_1) := (blk_cell BK387.out 1).trans rfl
                have hcz17_2 : w5.cell? ⟨gb387, 2, none⟩ = some (.int .i64 a0_2) := (blk_cell BK387.out 2).trans rfl
                have hcz17_3 : w5.cell? ⟨gb387, 3, none⟩ = some (.int .u64 a0_3) := (blk_cell BK387.out 3).trans rfl
                have hfz17_0 := blk_frozen BK387.out 0
                have hfz17_1 := blk_frozen BK387.out 1
                have hfz17_2 := blk_frozen BK387.out 2
                have hfz17_3 := blk_frozen BK387.out 3
                go_wp2_with (first | (go_at_call 10; (with_reducible refine (credenzaref20_Right.calls a0_1 a0_2 true _ A10.out).mono ?_); rintro e w' ⟨rfl, ⟨nd, rfl⟩⟩))
                go_meet
                case rel => exact ⟨_, (true), (by first | rfl | (simp; done) | (simp [*]; done)), H', ⟨by first | omega | exact Nat.le_refl _⟩, ⟨by (with_reducible repeat (first | refine blk_drewN ?_ _ | refine blk_drew ?_ | refine blk_alloc ?_ _)); exact BK387.out⟩, ⟨by repeat (first | (with_reducible first | exact HB.out | apply below_alloc | apply pw_below_drewN | apply below_drew1 | refine below_set ?_ GE387.out) | exact HB.out)⟩⟩
              · rw [if_neg c16] at H
                have c16b0 : decide (a1 < (-200)) = false := decide_eq_false c16
                clear c16
                have H' := Aside0.mk H
                clear H
                have hcz18_0 : w5.cell? ⟨gb387, 0, none⟩ = some (.slice A0_0 l0_0.length c0_0) := (blk_cell BK387.out 0).trans rfl
                have hcz18_1 : w5.cell? ⟨gb387, 1, none⟩ = some (.int .i32 a0_1) := (blk_cell BK387.out 1).trans rfl
                have hcz18_2 : w5.cell? ⟨gb387, 2, none⟩ = some (.int .i64 a0_2) := (blk_cell BK387.out 2).trans rfl
                have hcz18_3 : w5.cell? ⟨gb387, 3, none⟩ = some (.int .u64 a0_3) := (blk_cell BK387.out 3).trans rfl
                have hfz18_0 := blk_frozen BK387.out 0
                have hfz18_1 := blk_frozen BK387.out 1
                have hfz18_2 := blk_frozen BK387.out 2
                have hfz18_3 := blk_frozen BK387.out 3
                go_wp2_with (first | (go_at_call 10; (with_reducible refine (credenzaref20_Right.calls a0_1 a0_2 true _ A10.out).mono ?_); rintro e w' ⟨rfl, ⟨nd, rfl⟩⟩))
                go_meet
                case rel => exact ⟨_, (decide (a1 > 200)), (by first | rfl | (simp; done) | (simp [*]; done)), H', ⟨by first | omega | exact Nat.le_refl _⟩, ⟨by (with_reducible repeat (first | refine blk_drewN ?_ _ | refine blk_drew ?_ | refine blk_alloc ?_ _)); exact BK387.out⟩, ⟨by repeat (first | (with_reducible first | exact HB.out | apply below_alloc | apply pw_below_drewN | apply below_drew1 | refine below_set ?_ GE387.out) | exact HB.out)⟩⟩
        · replace c11 := Bool.eq_false_iff.mpr c11
          subst c11
          have H1 : (credenzalaw20_PickMoves.j0 k a1 a2 true l0_0 a0_1 a0_2 a0_3) = some r := by rw [if_neg (show ¬ (false = true) by decide)] at H; exact H
          clear H
          have H := H1
          clear H1
          have H' := Aside0.mk H
          clear H
          have hcz19_0 : w5.cell? ⟨gb387, 0, none⟩ = some (.slice A0_0 l0_0.length c0_0) := (blk_cell BK387.out 0).trans rfl
          have hcz19_1 : w5.cell? ⟨gb387, 1, none⟩ = some (.int .i32 a0_1) := (blk_cell BK387.out 1).trans rfl
          have hcz19_2 : w5.cell? ⟨gb387, 2, none⟩ = some (.int .i64 a0_2) := (blk_cell BK387.out 2).trans rfl
          have hcz19_3 : w5.cell? ⟨gb387, 3, none⟩ = some (.int .u64 a0_3) := (blk_cell BK387.out 3).trans rfl
          have hfz19_0 := blk_frozen BK387.out 0
          have hfz19_1 := blk_frozen BK387.out 1
          have hfz19_2 := blk_frozen BK387.out 2
          have hfz19_3 := blk_frozen BK387.out 3
          go_wp2_with (first | (go_at_call 10; (with_reducible refine (credenzaref20_Right.calls a0_1 a0_2 false _ A10.out).mono ?_); rintro e w' ⟨rfl, ⟨nd, rfl⟩⟩))
          go_meet
          case rel => exact ⟨_, (true), (by first | rfl | (simp; done) | (simp [*]; done)), H', ⟨by first | omega | exact Nat.le_refl _⟩, ⟨by (with_reducible repeat (first | refine blk_drewN ?_ _ | refine blk_drew ?_ | refine blk_alloc ?_ _)); exact BK387.out⟩, ⟨by repeat (first | (with_reducible first | exact HB.out | apply below_alloc | apply pw_below_drewN | apply below_drew1 | refine below_set ?_ GE387.out) | exact HB.out)⟩⟩
  case rest =>
    clear HC4
    try clear c1
    try clear p2
    try clear c6
    try clear c6b0
    try clear c6b1
    try clear c6b2
    try clear c8
    try clear c8b0
    try clear c8b1
    try clear c11
    try clear c12
    try clear c12b0
    try clear c14
    try clear c14b0
    try clear c16
    try clear c16b0
    try clear hcz13_0
    try clear hcz13_1
    try clear hcz13_2
    try clear hcz13_3
    try clear hcz15_0
    try clear hcz15_1
    try clear hcz15_2
    try clear hcz15_3
    try clear hcz17_0
    try clear hcz17_1
    try clear hcz17_2
    try clear hcz17_3
    try clear hcz18_0
    try clear hcz18_1
    try clear hcz18_2
    try clear hcz18_3
    try clear hcz19_0
    try clear hcz19_1
    try clear hcz19_2
    try clear hcz19_3
    try clear hcz7_0
    try clear hcz7_1
    try clear hcz7_2
    try clear hcz7_3
    try clear hcz9_0
    try clear hcz9_1
    try clear hcz9_2
    try clear hcz9_3
    try clear hfz13_0
    try clear hfz13_1
    try clear hfz13_2
    try clear hfz13_3
    try clear hfz15_0
    try clear hfz15_1
    try clear hfz15_2
    try clear hfz15_3
    try clear hfz17_0
    try clear hfz17_1
    try clear hfz17_2
    try clear hfz17_3
    try clear hfz18_0
    try clear hfz18_1
    try clear hfz18_2
    try clear hfz18_3
    try clear hfz19_0
    try clear hfz19_1
    try clear hfz19_2
    try clear hfz19_3
    try clear hfz7_0
    try clear hfz7_1
    try clear hfz7_2
    try clear hfz7_3
    try clear hfz9_0
    try clear hfz9_1
    try clear hfz9_2
    try clear hfz9_3
    obtain ⟨kq, x50_3, rfl, HA, HJ3, BK387, HB⟩ := hcut
    cases kq with
    | zero => exact absurd HA.out (by simp [credenzalaw20_PickMoves.j0])
    | succ kj3 =>
      have H := HA.out
      clear HA
      simp only [credenzalaw20_PickMoves.j0] at H
      by_cases c20 : x50_3 = true
      · subst c20
        have H1 : ((credenzalaw20_awake.f kj3).bind fun t389 => (some t389)) = some r := by rw [if_pos rfl] at H; exact H
        clear H
        have H := H1
        clear H1
        replace H := Option.bind_eq_some_iff.mp H
        obtain ⟨t389, A210, H⟩ := H
        replace H : (some t389) = some r := H
        have A21 := Aside0.mk A210
        clear A210
        obtain rfl := Option.some.inj H
        go_wp2_with (first | ((with_reducible refine gate_callee (f := 8) rfl ?_); refine goesL_ (some 51) rfl rfl Try.func8 (by kernel_rfl) rfl #[] rfl (by (try simp only [List.map_toArray, List.map_cons, List.map_nil]); first | done | rfl | (simp only [List.length_drop, List.length_take]; rfl)) ?_; (with_reducible refine (credenzalaw20_awake.calls kj3  t389 _ A21.out).mono ?_); rintro e w22 ⟨rfl, hb⟩; refine ⟨_, rfl, ?_⟩; have n0_ := Aside0.mk (blk_below (g := gb387) (o := .cells #[.slice A0_0 l0_0.length c0_0, .int .i32 a0_1, .int .i64 a0_2, .int .u64 a0_3] 27 (0, 0)) (by (with_reducible repeat (first | refine blk_drewN ?_ _ | refine blk_drew ?_ | refine blk_alloc ?_ _)); exact BK387.out) hb); have n1_ := Aside0.mk (below_step (by repeat (first | (with_reducible first | exact HB.out | apply below_alloc | apply pw_below_drewN | apply below_drew1 | refine below_set ?_ GE387.out) | exact HB.out)) hb); clear BK387; clear HB; have BK387 := n0_; have HB := n1_; clear n0_ n1_; (try clear hb); (try clear hb2); (try clear hk); (try clear hi)))
        go_ret
        exact ⟨by first | rfl | (simp [errW_none, errW_some] <;> rfl) | (simp [*, errW_none, errW_some] <;> rfl), by repeat (first | (with_reducible first | exact HB.out | apply below_alloc | apply pw_below_drewN | apply below_drew1 | refine below_set ?_ GE387.out) | exact HB.out)⟩
      · replace c20 := Bool.eq_false_iff.mpr c20
        subst c20
        have H1 : (if a0_1 > 0 then (credenzalaw20_PickMoves.j1 kj3 a1 a2 (decide (a0_1 < 32768)) l0_0 a0_1 a0_2 a0_3) else (credenzalaw20_PickMoves.j1 kj3 a1 a2 false l0_0 a0_1 a0_2 a0_3)) = some r := by rw [if_neg (show ¬ (false = true) by decide)] at H; exact H
        clear H
        have H := H1
        clear H1
        have HC23 := Aside0.mk H
        clear H
        go_upto_region 3 with (fail)
        go_cut [61] (fun v61 wc => ∃ (kq : Nat) (x61_22 : Bool), v61 = .bool x61_22 ∧ Aside0 (credenzalaw20_PickMoves.j1 kq a1 a2 x61_22 l0_0 a0_1 a0_2 a0_3 = some r) ∧ Aside0 (kq ≤ kj3) ∧ Aside0 (wc.heap[gb387]? = some (.cells #[(.slice A0_0 l0_0.length c0_0), .int .i32 a0_1, .int .i64 a0_2, .int .u64 a0_3] 27 (0, 0))) ∧ Aside0 (Below w.heap.size w wc))
        case first =>
          have H := HC23.out
          clear HC23
          by_cases c24 : a0_1 > 0
          · rw [if_pos c24] at H
            have c24b0 : decide (0 < a0_1) = true := decide_eq_true c24
            clear c24
            (first | rw [c24b0] | (simp only [i64_w, i32_w]; rw [c24b0]) | skip)
            have H' := Aside0.mk H
            clear H
            have hcz25_0 : wc.cell? ⟨gb387, 0, none⟩ = some (.slice A0_0 l0_0.length c0_0) := (blk_cell BK387.out 0).trans rfl
            have hcz25_1 : wc.cell? ⟨gb387, 1, none⟩ = some (.int .i32 a0_1) := (blk_cell BK387.out 1).trans rfl
            have hcz25_2 : wc.cell? ⟨gb387, 2, none⟩ = some (.int .i64 a0_2) := (blk_cell BK387.out 2).trans rfl
            have hcz25_3 : wc.cell? ⟨gb387, 3, none⟩ = some (.int .u64 a0_3) := (blk_cell BK387.out 3).trans rfl
            have hfz25_0 := blk_frozen BK387.out 0
            have hfz25_1 := blk_frozen BK387.out 1
            have hfz25_2 := blk_frozen BK387.out 2
            have hfz25_3 := blk_frozen BK387.out 3
            go_wp2
            go_meet
            case rel => exact ⟨_, (decide (a0_1 < 32768)), (by first | rfl | (simp; done) | (simp [*]; done)), H', ⟨by have := HJ3.out; first | omega | exact Nat.le_refl _⟩, ⟨by (with_reducible repeat (first | refine blk_drewN ?_ _ | refine blk_drew ?_ | refine blk_alloc ?_ _)); exact BK387.out⟩, ⟨by repeat (first | (with_reducible first | exact HB.out | apply below_alloc | apply pw_below_drewN | apply below_drew1 | refine below_set ?_ GE387.out) | exact HB.out)⟩⟩
          · rw [if_neg c24] at H
            have c24b0 : decide (0 < a0_1) = false := decide_eq_false c24
            clear c24
            (first | rw [c24b0] | (simp only [i64_w, i32_w]; rw [c24b0]) | skip)
            have H' := Aside0.mk H
            clear H
            have hcz26_0 : wc.cell? ⟨gb387, 0, none⟩ = some (.slice A0_0 l0_0.length c0_0) := (blk_cell BK387.out 0).trans rfl
            have hcz26_1 : wc.cell? ⟨gb387, 1, none⟩ = some (.int .i32 a0_1) := (blk_cell BK387.out 1).trans rfl
            have hcz26_2 : wc.cell? ⟨gb387, 2, none⟩ = some (.int .i64 a0_2) := (blk_cell BK387.out 2).trans rfl
            have hcz26_3 : wc.cell? ⟨gb387, 3, none⟩ = some (.int .u64 a0_3) := (blk_cell BK387.out 3).trans rfl
            have hfz26_0 := blk_frozen BK387.out 0
            have hfz26_1 := blk_frozen BK387.out 1
            have hfz26_2 := blk_frozen BK387.out 2
            have hfz26_3 := blk_frozen BK387.out 3
            go_wp2
            go_meet
            case rel => exact ⟨_, (false), (by first | rfl | (simp; done) | (simp [*]; done)), H', ⟨by have := HJ3.out; first | omega | exact Nat.le_refl _⟩, ⟨by (with_reducible repeat (first | refine blk_drewN ?_ _ | refine blk_drew ?_ | refine blk_alloc ?_ _)); exact BK387.out⟩, ⟨by repeat (first | (with_reducible first | exact HB.out | apply below_alloc | apply pw_below_drewN | apply below_drew1 | refine below_set ?_ GE387.out) | exact HB.out)⟩⟩
        case rest =>
          clear HC23
          try clear c1
          try clear c2
          try clear p2
          try clear c6
          try clear c6b0
          try clear c6b1
          try clear c6b2
          try clear c8
          try clear c8b0
          try clear c8b1
          try clear c11
          try clear c12
          try clear c12b0
          try clear c14
          try clear c14b0
          try clear c16
          try clear c16b0
          try clear c20
          try clear c24
          try clear c24b0
          try clear hcz13_0
          try clear hcz13_1
          try clear hcz13_2
          try clear hcz13_3
          try clear hcz15_0
          try clear hcz15_1
          try clear hcz15_2
          try clear hcz15_3
          try clear hcz17_0
          try clear hcz17_1
          try clear hcz17_2
          try clear hcz17_3
          try clear hcz18_0
          try clear hcz18_1
          try clear hcz18_2
          try clear hcz18_3
          try clear hcz19_0
          try clear hcz19_1
          try clear hcz19_2
          try clear hcz19_3
          try clear hcz25_0
          try clear hcz25_1
          try clear hcz25_2
          try clear hcz25_3
          try clear hcz26_0
          try clear hcz26_1
          try clear hcz26_2
          try clear hcz26_3
          try clear hcz7_0
          try clear hcz7_1
          try clear hcz7_2
          try clear hcz7_3
          try clear hcz9_0
          try clear hcz9_1
          try clear hcz9_2
          try clear hcz9_3
          try clear hfz13_0
          try clear hfz13_1
          try clear hfz13_2
          try clear hfz13_3
          try clear hfz15_0
          try clear hfz15_1
          try clear hfz15_2
          try clear hfz15_3
          try clear hfz17_0
          try clear hfz17_1
          try clear hfz17_2
          try clear hfz17_3
          try clear hfz18_0
          try clear hfz18_1
          try clear hfz18_2
          try clear hfz18_3
          try clear hfz19_0
          try clear hfz19_1
          try clear hfz19_2
          try clear hfz19_3
          try clear hfz25_0
          try clear hfz25_1
          try clear hfz25_2
          try clear hfz25_3
          try clear hfz26_0
          try clear hfz26_1
          try clear hfz26_2
          try clear hfz26_3
          try clear hfz7_0
          try clear hfz7_1
          try clear hfz7_2
          try clear hfz7_3
          try clear hfz9_0
          try clear hfz9_1
          try clear hfz9_2
          try clear hfz9_3
          try clear p2
          obtain ⟨kq, x61_22, rfl, HA, HJ22, BK387, HB⟩ := hcut
          cases kq with
          | zero => exact absurd HA.out (by simp [credenzalaw20_PickMoves.j1])
          | succ kj22 =>
            have H := HA.out
            clear HA
            simp only [credenzalaw20_PickMoves.j1] at H
            by_cases c27 : x61_22 = true
            · subst c27
              have H1 : ((credenzalaw20_awake.f kj22).bind fun t390 => (some t390)) = some r := by rw [if_pos rfl] at H; exact H
              clear H
              have H := H1
              clear H1
              replace H := Option.bind_eq_some_iff.mp H
              obtain ⟨t390, A280, H⟩ := H
              replace H : (some t390) = some r := H
              have A28 := Aside0.mk A280
              clear A280
              obtain rfl := Option.some.inj H
              go_wp2_with (first | ((with_reducible refine gate_callee (f := 8) rfl ?_); refine goesL_ (some 62) rfl rfl Try.func8 (by kernel_rfl) rfl #[] rfl (by (try simp only [List.map_toArray, List.map_cons, List.map_nil]); first | done | rfl | (simp only [List.length_drop, List.length_take]; rfl)) ?_; (with_reducible refine (credenzalaw20_awake.calls kj22  t390 _ A28.out).mono ?_); rintro e w29 ⟨rfl, hb⟩; refine ⟨_, rfl, ?_⟩; have n0_ := Aside0.mk (blk_below (g := gb387) (o := .cells #[.slice A0_0 l0_0.length c0_0, .int .i32 a0_1, .int .i64 a0_2, .int .u64 a0_3] 27 (0, 0)) (by (with_reducible repeat (first | refine blk_drewN ?_ _ | refine blk_drew ?_ | refine blk_alloc ?_ _)); exact BK387.out) hb); have n1_ := Aside0.mk (below_step (by repeat (first | (with_reducible first | exact HB.out | apply below_alloc | apply pw_below_drewN | apply below_drew1 | refine below_set ?_ GE387.out) | exact HB.out)) hb); clear BK387; clear HB; have BK387 := n0_; have HB := n1_; clear n0_ n1_; (try clear hb); (try clear hb2); (try clear hk); (try clear hi)))
              go_ret
              exact ⟨by first | rfl | (simp [errW_none, errW_some] <;> rfl) | (simp [*, errW_none, errW_some] <;> rfl), by repeat (first | (with_reducible first | exact HB.out | apply below_alloc | apply pw_below_drewN | apply below_drew1 | refine below_set ?_ GE387.out) | exact HB.out)⟩
            · replace c27 := Bool.eq_false_iff.mpr c27
              subst c27
              have H1 : (if a0_1 = 0 then (credenzalaw20_PickMoves.j2 kj22 a2 (wrap32 (a1)) l0_0 a0_1 a0_2 a0_3) else (credenzalaw20_PickMoves.j2 kj22 a2 (wrap32 ((wrap32 (a1)) * a0_1)) l0_0 a0_1 a0_2 a0_3)) = some r := by rw [if_neg (show ¬ (false = true) by decide)] at H; exact H
              clear H
              have H := H1
              clear H1
              have HC30 := Aside0.mk H
              clear H
              have hcz31_0 : wc.cell? ⟨gb387, 0, none⟩ = some (.slice A0_0 l0_0.length c0_0) := (blk_cell BK387.out 0).trans rfl
              have hcz31_1 : wc.cell? ⟨gb387, 1, none⟩ = some (.int .i32 a0_1) := (blk_cell BK387.out 1).trans rfl
              have hcz31_2 : wc.cell? ⟨gb387, 2, none⟩ = some (.int .i64 a0_2) := (blk_cell BK387.out 2).trans rfl
              have hcz31_3 : wc.cell? ⟨gb387, 3, none⟩ = some (.int .u64 a0_3) := (blk_cell BK387.out 3).trans rfl
              have hfz31_0 := blk_frozen BK387.out 0
              have hfz31_1 := blk_frozen BK387.out 1
              have hfz31_2 := blk_frozen BK387.out 2
              have hfz31_3 := blk_frozen BK387.out 3
              go_upto_if 72 with (fail)
              go_cut [7] (fun v7 wc => ∃ (kq : Nat) (x7_29 : Int), v7 = .int .i32 x7_29 ∧ Aside0 (credenzalaw20_PickMoves.j2 kq a2 x7_29 l0_0 a0_1 a0_2 a0_3 = some r) ∧ Aside0 (kq ≤ kj22) ∧ Aside0 (wc.heap[gb387]? = some (.cells #[(.slice A0_0 l0_0.length c0_0), .int .i32 a0_1, .int .i64 a0_2, .int .u64 a0_3] 27 (0, 0))) ∧ Aside0 (Below w.heap.size w wc))
              case first =>
                have H := HC30.out
                clear HC30
                by_cases c32 : a0_1 = 0
                · rw [if_pos c32] at H
                  have c32b0 : (a0_1 == 0) = true := beq_iff_eq.mpr c32
                  have c32b1 : (a0_1 != 0) = false := bne_eq_false_iff_eq.mpr c32
                  clear c32
                  (first | rw [c32b0] | (simp only [i64_w, i32_w]; rw [c32b0]) | skip)
                  have H' := Aside0.mk H
                  clear H
                  go_wp2
                  go_meet
                  case rel => exact ⟨_, (wrap32 (a1)), (by first | rfl | (simp; done) | (simp [*]; done)), H', ⟨by have := HJ3.out; have := HJ22.out; first | omega | exact Nat.le_refl _⟩, ⟨by (with_reducible repeat (first | refine blk_drewN ?_ _ | refine blk_drew ?_ | refine blk_alloc ?_ _)); exact BK387.out⟩, ⟨by repeat (first | (with_reducible first | exact HB.out | apply below_alloc | apply pw_below_drewN | apply below_drew1 | refine below_set ?_ GE387.out) | exact HB.out)⟩⟩
                · rw [if_neg c32] at H
                  have c32b0 : (a0_1 == 0) = false := beq_eq_false_iff_ne.mpr c32
                  have c32b1 : (a0_1 != 0) = true := bne_iff_ne.mpr c32
                  (first | rw [c32b0] | (simp only [i64_w, i32_w]; rw [c32b0]) | skip)
                  have H' := Aside0.mk H
                  clear H
                  go_wp2
                  go_meet
                  case rel => exact ⟨_, (wrap32 ((wrap32 (a1)) * a0_1)), (by first | rfl | (simp; done) | (simp [*]; done)), H', ⟨by have := HJ3.out; have := HJ22.out; first | omega | exact Nat.le_refl _⟩, ⟨by (with_reducible repeat (first | refine blk_drewN ?_ _ | refine blk_drew ?_ | refine blk_alloc ?_ _)); exact BK387.out⟩, ⟨by repeat (first | (with_reducible first | exact HB.out | apply below_alloc | apply pw_below_drewN | apply below_drew1 | refine below_set ?_ GE387.out) | exact HB.out)⟩⟩
              case rest =>
                clear HC30
                try clear c1
                try clear c2
                try clear p2
                try clear c3
                try clear p3
                try clear c6
                try clear c6b0
                try clear c6b1
                try clear c6b2
                try clear c8
                try clear c8b0
                try clear c8b1
                try clear c11
                try clear c12
                try clear c12b0
                try clear c14
                try clear c14b0
                try clear c16
                try clear c16b0
                try clear c20
                try clear c24
                try clear c24b0
                try clear c27
                try clear c32
                try clear c32b0
                try clear c32b1
                try clear p32
                try clear hcz13_0
                try clear hcz13_1
                try clear hcz13_2
                try clear hcz13_3
                try clear hcz15_0
                try clear hcz15_1
                try clear hcz15_2
                try clear hcz15_3
                try clear hcz17_0
                try clear hcz17_1
                try clear hcz17_2
                try clear hcz17_3
                try clear hcz18_0
                try clear hcz18_1
                try clear hcz18_2
                try clear hcz18_3
                try clear hcz19_0
                try clear hcz19_1
                try clear hcz19_2
                try clear hcz19_3
                try clear hcz25_0
                try clear hcz25_1
                try clear hcz25_2
                try clear hcz25_3
                try clear hcz26_0
                try clear hcz26_1
                try clear hcz26_2
                try clear hcz26_3
                try clear hcz31_0
                try clear hcz31_1
                try clear hcz31_2
                try clear hcz31_3
                try clear hcz7_0
                try clear hcz7_1
                try clear hcz7_2
                try clear hcz7_3
                try clear hcz9_0
                try clear hcz9_1
                try clear hcz9_2
                try clear hcz9_3
                try clear hfz13_0
                try clear hfz13_1
                try clear hfz13_2
                try clear hfz13_3
                try clear hfz15_0
                try clear hfz15_1
                try clear hfz15_2
                try clear hfz15_3
                try clear hfz17_0
                try clear hfz17_1
                try clear hfz17_2
                try clear hfz17_3
                try clear hfz18_0
                try clear hfz18_1
                try clear hfz18_2
                try clear hfz18_3
                try clear hfz19_0
                try clear hfz19_1
                try clear hfz19_2
                try clear hfz19_3
                try clear hfz25_0
                try clear hfz25_1
                try clear hfz25_2
                try clear hfz25_3
                try clear hfz26_0
                try clear hfz26_1
                try clear hfz26_2
                try clear hfz26_3
                try clear hfz31_0
                try clear hfz31_1
                try clear hfz31_2
                try clear hfz31_3
                try clear hfz7_0
                try clear hfz7_1
                try clear hfz7_2
                try clear hfz7_3
                try clear hfz9_0
                try clear hfz9_1
                try clear hfz9_2
                try clear hfz9_3
                try clear p2
                obtain ⟨kq, x7_29, rfl, HA, HJ29, BK387, HB⟩ := hcut
                cases kq with
                | zero => exact absurd HA.out (by simp [credenzalaw20_PickMoves.j2])
                | succ kj29 =>
                  have H := HA.out
                  clear HA
                  simp only [credenzalaw20_PickMoves.j2] at H
                  have H' := Aside0.mk H
                  clear H
                  have hcz33_0 : wc.cell? ⟨gb387, 0, none⟩ = some (.slice A0_0 l0_0.length c0_0) := (blk_cell BK387.out 0).trans rfl
                  have hcz33_1 : wc.cell? ⟨gb387, 1, none⟩ = some (.int .i32 a0_1) := (blk_cell BK387.out 1).trans rfl
                  have hcz33_2 : wc.cell? ⟨gb387, 2, none⟩ = some (.int .i64 a0_2) := (blk_cell BK387.out 2).trans rfl
                  have hcz33_3 : wc.cell? ⟨gb387, 3, none⟩ = some (.int .u64 a0_3) := (blk_cell BK387.out 3).trans rfl
                  have hfz33_0 := blk_frozen BK387.out 0
                  have hfz33_1 := blk_frozen BK387.out 1
                  have hfz33_2 := blk_frozen BK387.out 2
                  have hfz33_3 := blk_frozen BK387.out 3
                  go_wp2
                  go_loopg [8, 78] kj29 (fun kq v8 v78 w' => ∃ (x8_4 : List Int) (x78_4 : Int), v78 = .int .i64 x78_4 ∧ Aside0 (credenzalaw20_PickMoves.l0 kq a2 x7_29 x8_4 l0_0 (l0_0.length : Int) x78_4 l0_0 a0_1 a0_2 a0_3 = some r) ∧ Aside0 (kq ≤ kj29) ∧ Aside0 (Kd.R (Kd.int .i32) 21 w' w.heap.size (fun _ => True) v8 x8_4) ∧ Aside0 (w'.heap[gb387]? = some (.cells #[(.slice A0_0 l0_0.length c0_0), .int .i32 a0_1, .int .i64 a0_2, .int .u64 a0_3] 27 (0, 0))) ∧ Aside0 (Below w.heap.size w w'))
                  case atStart => exact ⟨(([] : List Int)), (0), (by first | rfl | (simp; done) | (simp [*]; done)), H', ⟨Nat.le_refl _⟩, ⟨by first | exact Kd.R_nil _ _ _ _ _ | exact Kd.N_nil _ _ _ _ _ | exact Kd.V_nil _ _ _ _ _ | exact Kd.Q_nil _ _ _ _ _ | exact Kd.S_nil _ _ _ _ _⟩, ⟨by (with_reducible repeat (first | refine blk_drewN ?_ _ | refine blk_drew ?_ | refine blk_alloc ?_ _)); exact BK387.out⟩, ⟨by repeat (first | (with_reducible first | exact HB.out | apply below_alloc | apply pw_below_drewN | apply below_drew1 | refine below_set ?_ GE387.out) | exact HB.out)⟩⟩
                  case round =>
                    clear H'
                    try clear c1
                    try clear c2
                    try clear p2
                    try clear c3
                    try clear p3
                    try clear c6
                    try clear c6b0
                    try clear c6b1
                    try clear c6b2
                    try clear c8
                    try clear c8b0
                    try clear c8b1
                    try clear c11
                    try clear c12
                    try clear c12b0
                    try clear c14
                    try clear c14b0
                    try clear c16
                    try clear c16b0
                    try clear c20
                    try clear c24
                    try clear c24b0
                    try clear c27
                    try clear c32
                    try clear c32b0
                    try clear c32b1
                    try clear p32
                    try clear hcz13_0
                    try clear hcz13_1
                    try clear hcz13_2
                    try clear hcz13_3
                    try clear hcz15_0
                    try clear hcz15_1
                    try clear hcz15_2
                    try clear hcz15_3
                    try clear hcz17_0
                    try clear hcz17_1
                    try clear hcz17_2
                    try clear hcz17_3
                    try clear hcz18_0
                    try clear hcz18_1
                    try clear hcz18_2
                    try clear hcz18_3
                    try clear hcz19_0
                    try clear hcz19_1
                    try clear hcz19_2
                    try clear hcz19_3
                    try clear hcz25_0
                    try clear hcz25_1
                    try clear hcz25_2
                    try clear hcz25_3
                    try clear hcz26_0
                    try clear hcz26_1
                    try clear hcz26_2
                    try clear hcz26_3
                    try clear hcz31_0
                    try clear hcz31_1
                    try clear hcz31_2
                    try clear hcz31_3
                    try clear hcz33_0
                    try clear hcz33_1
                    try clear hcz33_2
                    try clear hcz33_3
                    try clear hcz7_0
                    try clear hcz7_1
                    try clear hcz7_2
                    try clear hcz7_3
                    try clear hcz9_0
                    try clear hcz9_1
                    try clear hcz9_2
                    try clear hcz9_3
                    try clear hfz13_0
                    try clear hfz13_1
                    try clear hfz13_2
                    try clear hfz13_3
                    try clear hfz15_0
                    try clear hfz15_1
                    try clear hfz15_2
                    try clear hfz15_3
                    try clear hfz17_0
                    try clear hfz17_1
                    try clear hfz17_2
                    try clear hfz17_3
                    try clear hfz18_0
                    try clear hfz18_1
                    try clear hfz18_2
                    try clear hfz18_3
                    try clear hfz19_0
                    try clear hfz19_1
                    try clear hfz19_2
                    try clear hfz19_3
                    try clear hfz25_0
                    try clear hfz25_1
                    try clear hfz25_2
                    try clear hfz25_3
                    try clear hfz26_0
                    try clear hfz26_1
                    try clear hfz26_2
                    try clear hfz26_3
                    try clear hfz31_0
                    try clear hfz31_1
                    try clear hfz31_2
                    try clear hfz31_3
                    try clear hfz33_0
                    try clear hfz33_1
                    try clear hfz33_2
                    try clear hfz33_3
                    try clear hfz7_0
                    try clear hfz7_1
                    try clear hfz7_2
                    try clear hfz7_3
                    try clear hfz9_0
                    try clear hfz9_1
                    try clear hfz9_2
                    try clear hfz9_3
                    try clear p2
                    try clear p3
                    try clear p32
                    obtain ⟨x8_4, x78_4, rfl, HA, HK4, HO_8, BK387, HB⟩ := hrel
                    cases gk with
                    | zero => exact absurd HA.out (by simp [credenzalaw20_PickMoves.l0])
                    | succ k4 =>
                      have H := HA.out
                      clear HA
                      simp only [credenzalaw20_PickMoves.l0] at H
                      by_cases c34 : x78_4 < (l0_0.length : Int)
                      · rw [if_pos c34] at H
                        have c34b0 : decide (x78_4 < (l0_0.length : Int)) = true := decide_eq_true c34
                        clear c34
                        by_cases c35 : 0 ≤ x78_4
                        · rw [if_pos c35] at H
                          have c35b0 : decide (0 ≤ x78_4) = true := decide_eq_true c35
                          clear c35
                          by_cases c36 : x78_4 < (l0_0.length : Int)
                          · rw [if_pos c36] at H
                            have c36b0 : decide (x78_4 < (l0_0.length : Int)) = true := decide_eq_true c36
                            clear c36
                            by_cases c37 : (rd l0_0 x78_4) < (-8388608)
                            · rw [if_pos c37] at H
                              have c37b0 : decide ((rd l0_0 x78_4) < (-8388608)) = true := decide_eq_true c37
                              clear c37
                              replace H := Option.bind_eq_some_iff.mp H
                              obtain ⟨t392, A380, H⟩ := H
                              replace H : (some t392) = some r := H
                              have A38 := Aside0.mk A380
                              clear A380
                              obtain rfl := Option.some.inj H
                              have p391 : 0 ≤ (x78_4 : Int) := of_decide_eq_true (by first | (with_reducible assumption) | assumption)
                              have q391 : x78_4 < (l0_0.length : Int) := of_decide_eq_true (by first | (with_reducible assumption) | assumption)
                              obtain ⟨ad391, e391, hx391_0⟩ := Kd.at_int HR0_0.out x78_4 p391 q391
                              cases e391
                              replace hx391_0 := (HB.out.cell (World.block_lt_of_cell? w _ hx391_0)).trans hx391_0
                              replace p391 := eq_true p391
                              replace q391 := eq_true q391
                              go_wp2_with (first | ((with_reducible refine gate_callee (f := 8) rfl ?_); refine goesL_ (some 88) rfl rfl Try.func8 (by kernel_rfl) rfl #[] rfl (by (try simp only [List.map_toArray, List.map_cons, List.map_nil]); first | done | rfl | (simp only [List.length_drop, List.length_take]; rfl)) ?_; (with_reducible refine (credenzalaw20_awake.calls k4  t392 _ A38.out).mono ?_); rintro e w39 ⟨rfl, hb⟩; refine ⟨_, rfl, ?_⟩; have n0_ := Aside0.mk (Kd.R_below (by (with_reducible repeat (first | apply Kd.R_alloc | apply Kd.R_drewN | apply Kd.R_drew)); exact HO_8.out) hb); have n1_ := Aside0.mk (blk_below (g := gb387) (o := .cells #[.slice (some ad391) l0_0.length c0_0, .int .i32 a0_1, .int .i64 a0_2, .int .u64 a0_3] 27 (0, 0)) (by (with_reducible repeat (first | refine blk_drewN ?_ _ | refine blk_drew ?_ | refine blk_alloc ?_ _)); exact BK387.out) hb); have n2_ := Aside0.mk (below_step (by repeat (first | (with_reducible first | exact HB.out | apply below_alloc | apply pw_below_drewN | apply below_drew1 | refine below_set ?_ GE387.out) | exact HB.out)) hb); clear HO_8; clear BK387; clear HB; have HO_8 := n0_; have BK387 := n1_; have HB := n2_; clear n0_ n1_ n2_; (try clear hb); (try clear hb2); (try clear hk); (try clear hi)))
                              go_ret
                              exact ⟨by first | rfl | (simp [errW_none, errW_some] <;> rfl) | (simp [*, errW_none, errW_some] <;> rfl), by repeat (first | (with_reducible first | exact HB.out | apply below_alloc | apply pw_below_drewN | apply below_drew1 | refine below_set ?_ GE387.out) | exact HB.out)⟩
                            · rw [if_neg c37] at H
                              have c37b0 : decide ((rd l0_0 x78_4) < (-8388608)) = false := decide_eq_false c37
                              clear c37
                              by_cases c40 : (rd l0_0 x78_4) > 8388608
                              · rw [if_pos c40] at H
                                have c40b0 : decide (8388608 < (rd l0_0 x78_4)) = true := decide_eq_true c40
                                clear c40
                                replace H := Option.bind_eq_some_iff.mp H
                                obtain ⟨t393, A410, H⟩ := H
                                replace H : (some t393) = some r := H
                                have A41 := Aside0.mk A410
                                clear A410
                                obtain rfl := Option.some.inj H
                                have p391 : 0 ≤ (x78_4 : Int) := of_decide_eq_true (by first | (with_reducible assumption) | assumption)
                                have q391 : x78_4 < (l0_0.length : Int) := of_decide_eq_true (by first | (with_reducible assumption) | assumption)
                                obtain ⟨ad391, e391, hx391_0⟩ := Kd.at_int HR0_0.out x78_4 p391 q391
                                cases e391
                                replace hx391_0 := (HB.out.cell (World.block_lt_of_cell? w _ hx391_0)).trans hx391_0
                                replace p391 := eq_true p391
                                replace q391 := eq_true q391
                                go_wp2_with (first | ((with_reducible refine gate_callee (f := 8) rfl ?_); refine goesL_ (some 88) rfl rfl Try.func8 (by kernel_rfl) rfl #[] rfl (by (try simp only [List.map_toArray, List.map_cons, List.map_nil]); first | done | rfl | (simp only [List.length_drop, List.length_take]; rfl)) ?_; (with_reducible refine (credenzalaw20_awake.calls k4  t393 _ A41.out).mono ?_); rintro e w42 ⟨rfl, hb⟩; refine ⟨_, rfl, ?_⟩; have n0_ := Aside0.mk (Kd.R_below (by (with_reducible repeat (first | apply Kd.R_alloc | apply Kd.R_drewN | apply Kd.R_drew)); exact HO_8.out) hb); have n1_ := Aside0.mk (blk_below (g := gb387) (o := .cells #[.slice (some ad391) l0_0.length c0_0, .int .i32 a0_1, .int .i64 a0_2, .int .u64 a0_3] 27 (0, 0)) (by (with_reducible repeat (first | refine blk_drewN ?_ _ | refine blk_drew ?_ | refine blk_alloc ?_ _)); exact BK387.out) hb); have n2_ := Aside0.mk (below_step (by repeat (first | (with_reducible first | exact HB.out | apply below_alloc | apply pw_below_drewN | apply below_drew1 | refine below_set ?_ GE387.out) | exact HB.out)) hb); clear HO_8; clear BK387; clear HB; have HO_8 := n0_; have BK387 := n1_; have HB := n2_; clear n0_ n1_ n2_; (try clear hb); (try clear hb2); (try clear hk); (try clear hi)))
                                go_ret
                                exact ⟨by first | rfl | (simp [errW_none, errW_some] <;> rfl) | (simp [*, errW_none, errW_some] <;> rfl), by repeat (first | (with_reducible first | exact HB.out | apply below_alloc | apply pw_below_drewN | apply below_drew1 | refine below_set ?_ GE387.out) | exact HB.out)⟩
                              · rw [if_neg c40] at H
                                have c40b0 : decide (8388608 < (rd l0_0 x78_4)) = false := decide_eq_false c40
                                clear c40
                                by_cases c43 : x8_4.length < 35184372088832
                                · rw [if_pos c43] at H
                                  have LMc43 := Aside0.mk c43
                                  clear c43
                                  obtain ⟨y394, hy394⟩ : ∃ y_ : List Int, y_ = (x8_4 ++ [wrap32 ((rd l0_0 x78_4) + x7_29)]) := ⟨_, rfl⟩
                                  replace H : (credenzalaw20_PickMoves.l0 k4 a2 x7_29 y394 l0_0 (l0_0.length : Int) (wrap64 (x78_4 + 1)) l0_0 a0_1 a0_2 a0_3) = some r := by first | (rw [hy394]; with_reducible exact H) | (have H2_ := (Option.bind_some _ _).symm.trans H; rw [hy394]; with_reducible exact H2_) | (have H2_ := (Option.bind_some _ _).symm.trans H; with_reducible exact H2_) | with_reducible exact H | (rw [hy394]; exact H) | exact H
                                  have Ny394 := Aside0.mk hy394
                                  clear hy394
                                  have H' := Aside0.mk H
                                  clear H
                                  have p391 : 0 ≤ (x78_4 : Int) := of_decide_eq_true (by first | (with_reducible assumption) | assumption)
                                  have q391 : x78_4 < (l0_0.length : Int) := of_decide_eq_true (by first | (with_reducible assumption) | assumption)
                                  obtain ⟨ad391, e391, hx391_0⟩ := Kd.at_int HR0_0.out x78_4 p391 q391
                                  cases e391
                                  replace hx391_0 := (HB.out.cell (World.block_lt_of_cell? w _ hx391_0)).trans hx391_0
                                  replace p391 := eq_true p391
                                  replace q391 := eq_true q391
                                  go_wp2_with (first | ((with_reducible refine gate_builtin (b := .append) (xs := #[.tmp 89, .tmp 93]) rfl ?_); (try (refine gate_guard (by rfl) ?_; dsimp only)); at_builtin; refine Kd.R_append (Kd.int .i32) (w0 := w) w.heap.size rfl (.tmp 89) (.tmp 93) 22 21 (.int .i32 0) 4 rfl Try.underlying22 info21 rfl (by decide) (by omega) u8 x8_4 (wrap32 ((rd l0_0 x78_4) + x7_29)) [.int .i32 (wrap32 ((rd l0_0 x78_4) + x7_29))] (fun _ => True) (fun _ => False) rfl rfl ?aP (fun _ hk => hk.elim) ?aF ?aO ?aB ?aS ?aL ?_; (case aP => exact rfl); (case aB => exact (by repeat (first | (with_reducible first | exact HB.out | apply below_alloc | apply pw_below_drewN | apply below_drew1 | refine below_set ?_ GE387.out) | exact HB.out))); (case aF => exact (fun _ _ => trivial)); (case aO => exact (by (with_reducible repeat (first | apply Kd.R_alloc | apply Kd.R_drewN | apply Kd.R_drew)); exact HO_8.out)); (case aS => exact (below_size (by repeat (first | (with_reducible first | exact HB.out | apply below_alloc | apply pw_below_drewN | apply below_drew1 | refine below_set ?_ GE387.out) | exact HB.out)))); (case aL => have := LMc43.out; omega); intro v395 w44 ho hb hg hat; rw [← Ny394.out] at ho; have n0_ := Aside0.mk (blk_grown (g := gb387) (o := .cells #[.slice (some ad391) l0_0.length c0_0, .int .i32 a0_1, .int .i64 a0_2, .int .u64 a0_3] 27 (0, 0)) (by (with_reducible repeat (first | refine blk_drewN ?_ _ | refine blk_drew ?_ | refine blk_alloc ?_ _)); exact BK387.out) hg (Kd.R_ne HO_8.out BK387.out (by decide))); have n1_ := Aside0.mk (hb); have n2_ := Aside0.mk (ho); clear BK387; clear HB; clear HO_8; have BK387 := n0_; have HB := n1_; have HO396 := n2_; clear n0_ n1_ n2_; clear ho hb hg hat))
                                  go_roundg k4
                                  case measure => have := HJ3.out; have := HJ22.out; have := HJ29.out; have := HK4.out; omega
                                  case rel => exact ⟨(y394), (wrap64 (x78_4 + 1)), (by first | rfl | (simp; done) | (simp [*]; done)), H', ⟨by have := HJ3.out; have := HJ22.out; have := HJ29.out; have := HK4.out; omega⟩, ⟨by (with_reducible repeat (first | apply Kd.R_alloc | apply Kd.R_drewN | apply Kd.R_drew)); exact HO396.out⟩, ⟨by (with_reducible repeat (first | refine blk_drewN ?_ _ | refine blk_drew ?_ | refine blk_alloc ?_ _)); exact BK387.out⟩, ⟨by repeat (first | (with_reducible first | exact HB.out | apply below_alloc | apply pw_below_drewN | apply below_drew1 | refine below_set ?_ GE387.out) | exact HB.out)⟩⟩
                                · rw [if_neg c43] at H
                                  exact absurd H (by simp)
                          · rw [if_neg c36] at H
                            exact absurd H (by simp)
                        · rw [if_neg c35] at H
                          exact absurd H (by simp)
                      · rw [if_neg c34] at H
                        have c34b0 : decide (x78_4 < (l0_0.length : Int)) = false := decide_eq_false c34
                        clear c34
                        replace H := Option.bind_eq_some_iff.mp H
                        obtain ⟨⟨t397, t398⟩, A450, H⟩ := H
                        replace H : ((pick_Pick.f k4 x8_4 a0_1 a0_2 a0_3 a2).bind fun bt399 => (if t398 = 0 then (if bt399.2 = 0 then (if t397 = bt399.1 then ((credenzalaw20_awake.f k4).bind fun t401 => (some t401)) else (some false)) else (some false)) else (some false))) = some r := H
                        have A45 := Aside0.mk A450
                        clear A450
                        replace H := Option.bind_eq_some_iff.mp H
                        obtain ⟨⟨t399, t400⟩, A460, H⟩ := H
                        replace H : (if t398 = 0 then (if t400 = 0 then (if t397 = t399 then ((credenzalaw20_awake.f k4).bind fun t401 => (some t401)) else (some false)) else (some false)) else (some false)) = some r := H
                        have A46 := Aside0.mk A460
                        clear A460
                        by_cases c47 : t398 = 0
                        · rw [if_pos c47] at H
                          have c47b0 : (t398 == 0) = true := beq_iff_eq.mpr c47
                          have c47b1 : (t398 != 0) = false := bne_eq_false_iff_eq.mpr c47
                          clear c47
                          by_cases c48 : t400 = 0
                          · rw [if_pos c48] at H
                            have c48b0 : (t400 == 0) = true := beq_iff_eq.mpr c48
                            have c48b1 : (t400 != 0) = false := bne_eq_false_iff_eq.mpr c48
                            clear c48
                            by_cases c49 : t397 = t399
                            · rw [if_pos c49] at H
                              have c49b0 : (t397 == t399) = true := beq_iff_eq.mpr c49
                              have c49b1 : (t397 != t399) = false := bne_eq_false_iff_eq.mpr c49
                              clear c49
                              replace H := Option.bind_eq_some_iff.mp H
                              obtain ⟨t401, A500, H⟩ := H
                              replace H : (some t401) = some r := H
                              have A50 := Aside0.mk A500
                              clear A500
                              obtain rfl := Option.some.inj H
                              have hcz51_0 : wr.cell? ⟨gb387, 0, none⟩ = some (.slice A0_0 l0_0.length c0_0) := (blk_cell BK387.out 0).trans rfl
                              have hcz51_1 : wr.cell? ⟨gb387, 1, none⟩ = some (.int .i32 a0_1) := (blk_cell BK387.out 1).trans rfl
                              have hcz51_2 : wr.cell? ⟨gb387, 2, none⟩ = some (.int .i64 a0_2) := (blk_cell BK387.out 2).trans rfl
                              have hcz51_3 : wr.cell? ⟨gb387, 3, none⟩ = some (.int .u64 a0_3) := (blk_cell BK387.out 3).trans rfl
                              have hfz51_0 := blk_frozen BK387.out 0
                              have hfz51_1 := blk_frozen BK387.out 1
                              have hfz51_2 := blk_frozen BK387.out 2
                              have hfz51_3 := blk_frozen BK387.out 3
                              go_wp2_with (first | ((with_reducible refine gate_callee (f := 9) rfl ?_); refine goesL_ (some 102) rfl rfl Try.func9 (by kernel_rfl) rfl #[.slice A0_0 l0_0.length c0_0, .agg #[.int .i32 a0_1, .int .i64 a0_2, .int .u64 a0_3], .int .i64 a2] rfl (by (try simp only [List.map_toArray, List.map_cons, List.map_nil]); first | done | rfl | (simp only [List.length_drop, List.length_take]; rfl)) ?_; (with_reducible refine (pick_Pick.calls k4 _ _ l0_0 a0_1 a0_2 a0_3 a2 t397 t398 _ ?side1 ?side2 A45.out).mono ?_); (case side1 => repeat (first | exact (Kd.C_below HR0_0.out HB.out) | (with_reducible refine Kd.C_alloc ?_ _) | (with_reducible refine Kd.C_drewN ?_ _) | (with_reducible refine Kd.C_drew ?_))); (case side2 => exact HC0_0.out); rintro e w52 ⟨rfl, hb⟩; refine ⟨_, rfl, ?_⟩; have n0_ := Aside0.mk (Kd.R_below (by (with_reducible repeat (first | apply Kd.R_alloc | apply Kd.R_drewN | apply Kd.R_drew)); exact HO_8.out) hb); have n1_ := Aside0.mk (blk_below (g := gb387) (o := .cells #[.slice A0_0 l0_0.length c0_0, .int .i32 a0_1, .int .i64 a0_2, .int .u64 a0_3] 27 (0, 0)) (by (with_reducible repeat (first | refine blk_drewN ?_ _ | refine blk_drew ?_ | refine blk_alloc ?_ _)); exact BK387.out) hb); have n2_ := Aside0.mk (below_step (by repeat (first | (with_reducible first | exact HB.out | apply below_alloc | apply pw_below_drewN | apply below_drew1 | refine below_set ?_ GE387.out) | exact HB.out)) hb); clear HO_8; clear BK387; clear HB; have HO_8 := n0_; have BK387 := n1_; have HB := n2_; clear n0_ n1_ n2_; (try clear hb); (try clear hb2); (try clear hk); (try clear hi); have hcz53_0 : w52.cell? ⟨gb387, 0, none⟩ = some (.slice A0_0 l0_0.length c0_0) := (blk_cell BK387.out 0).trans rfl; have hcz53_1 : w52.cell? ⟨gb387, 1, none⟩ = some (.int .i32 a0_1) := (blk_cell BK387.out 1).trans rfl; have hcz53_2 : w52.cell? ⟨gb387, 2, none⟩ = some (.int .i64 a0_2) := (blk_cell BK387.out 2).trans rfl; have hcz53_3 : w52.cell? ⟨gb387, 3, none⟩ = some (.int .u64 a0_3) := (blk_cell BK387.out 3).trans rfl; have hfz53_0 := blk_frozen BK387.out 0; have hfz53_1 := blk_frozen BK387.out 1; have hfz53_2 := blk_frozen BK387.out 2; have hfz53_3 := blk_frozen BK387.out 3; obtain ⟨Ao54, co54, eo54⟩ := Kd.R_slice HO_8.out; subst eo54) | ((with_reducible refine gate_callee (f := 9) rfl ?_); refine goesL_ (some 110) rfl rfl Try.func9 (by kernel_rfl) rfl #[.slice Ao54 x8_4.length co54, .agg #[.int .i32 a0_1, .int .i64 a0_2, .int .u64 a0_3], .int .i64 a2] rfl (by (try simp only [List.map_toArray, List.map_cons, List.map_nil]); first | done | rfl | (simp only [List.length_drop, List.length_take]; rfl)) ?_; (with_reducible refine (pick_Pick.calls k4 _ _ x8_4 a0_1 a0_2 a0_3 a2 t399 t400 _ ?side1 ?side2 A46.out).mono ?_); (case side1 => repeat (first | exact (Kd.R_reads' HO_8.out).2.2 | (with_reducible refine Kd.C_alloc ?_ _) | (with_reducible refine Kd.C_drewN ?_ _) | (with_reducible refine Kd.C_drew ?_))); (case side2 => exact (Kd.R_reads' HO_8.out).2.1); rintro e w55 ⟨rfl, hb⟩; refine ⟨_, rfl, ?_⟩; have n0_ := Aside0.mk (Kd.R_below (by (with_reducible repeat (first | apply Kd.R_alloc | apply Kd.R_drewN | apply Kd.R_drew)); exact HO_8.out) hb); have n1_ := Aside0.mk (blk_below (g := gb387) (o := .cells #[.slice A0_0 l0_0.length c0_0, .int .i32 a0_1, .int .i64 a0_2, .int .u64 a0_3] 27 (0, 0)) (by (with_reducible repeat (first | refine blk_drewN ?_ _ | refine blk_drew ?_ | refine blk_alloc ?_ _)); exact BK387.out) hb); have n2_ := Aside0.mk (below_step (by repeat (first | (with_reducible first | exact HB.out | apply below_alloc | apply pw_below_drewN | apply below_drew1 | refine below_set ?_ GE387.out) | exact HB.out)) hb); clear HO_8; clear BK387; clear HB; have HO_8 := n0_; have BK387 := n1_; have HB := n2_; clear n0_ n1_ n2_; (try clear hb); (try clear hb2); (try clear hk); (try clear hi)) | (go_at_call 8; (with_reducible refine (credenzalaw20_awake.calls k4  t401 _ A50.out).mono ?_); rintro e w56 ⟨rfl, hb⟩; have n0_ := Aside0.mk (Kd.R_below (by (with_reducible repeat (first | apply Kd.R_alloc | apply Kd.R_drewN | apply Kd.R_drew)); exact HO_8.out) hb); have n1_ := Aside0.mk (blk_below (g := gb387) (o := .cells #[.slice A0_0 l0_0.length c0_0, .int .i32 a0_1, .int .i64 a0_2, .int .u64 a0_3] 27 (0, 0)) (by (with_reducible repeat (first | refine blk_drewN ?_ _ | refine blk_drew ?_ | refine blk_alloc ?_ _)); exact BK387.out) hb); have n2_ := Aside0.mk (below_step (by repeat (first | (with_reducible first | exact HB.out | apply below_alloc | apply pw_below_drewN | apply below_drew1 | refine below_set ?_ GE387.out) | exact HB.out)) hb); clear HO_8; clear BK387; clear HB; have HO_8 := n0_; have BK387 := n1_; have HB := n2_; clear n0_ n1_ n2_; (try clear hb); (try clear hb2); (try clear hk); (try clear hi)))
                              go_ret
                              exact ⟨by first | rfl | (simp [errW_none, errW_some] <;> rfl) | (simp [*, errW_none, errW_some] <;> rfl), by repeat (first | (with_reducible first | exact HB.out | apply below_alloc | apply pw_below_drewN | apply below_drew1 | refine below_set ?_ GE387.out) | exact HB.out)⟩
                            · rw [if_neg c49] at H
                              have c49b0 : (t397 == t399) = false := beq_eq_false_iff_ne.mpr c49
                              have c49b1 : (t397 != t399) = true := bne_iff_ne.mpr c49
                              obtain rfl := Option.some.inj H
                              have hcz57_0 : wr.cell? ⟨gb387, 0, none⟩ = some (.slice A0_0 l0_0.length c0_0) := (blk_cell BK387.out 0).trans rfl
                              have hcz57_1 : wr.cell? ⟨gb387, 1, none⟩ = some (.int .i32 a0_1) := (blk_cell BK387.out 1).trans rfl
                              have hcz57_2 : wr.cell? ⟨gb387, 2, none⟩ = some (.int .i64 a0_2) := (blk_cell BK387.out 2).trans rfl
                              have hcz57_3 : wr.cell? ⟨gb387, 3, none⟩ = some (.int .u64 a0_3) := (blk_cell BK387.out 3).trans rfl
                              have hfz57_0 := blk_frozen BK387.out 0
                              have hfz57_1 := blk_frozen BK387.out 1
                              have hfz57_2 := blk_frozen BK387.out 2
                              have hfz57_3 := blk_frozen BK387.out 3
                              go_wp2_with (first | ((with_reducible refine gate_callee (f := 9) rfl ?_); refine goesL_ (some 102) rfl rfl Try.func9 (by kernel_rfl) rfl #[.slice A0_0 l0_0.length c0_0, .agg #[.int .i32 a0_1, .int .i64 a0_2, .int .u64 a0_3], .int .i64 a2] rfl (by (try simp only [List.map_toArray, List.map_cons, List.map_nil]); first | done | rfl | (simp only [List.length_drop, List.length_take]; rfl)) ?_; (with_reducible refine (pick_Pick.calls k4 _ _ l0_0 a0_1 a0_2 a0_3 a2 t397 t398 _ ?side1 ?side2 A45.out).mono ?_); (case side1 => repeat (first | exact (Kd.C_below HR0_0.out HB.out) | (with_reducible refine Kd.C_alloc ?_ _) | (with_reducible refine Kd.C_drewN ?_ _) | (with_reducible refine Kd.C_drew ?_))); (case side2 => exact HC0_0.out); rintro e w58 ⟨rfl, hb⟩; refine ⟨_, rfl, ?_⟩; have n0_ := Aside0.mk (Kd.R_below (by (with_reducible repeat (first | apply Kd.R_alloc | apply Kd.R_drewN | apply Kd.R_drew)); exact HO_8.out) hb); have n1_ := Aside0.mk (blk_below (g := gb387) (o := .cells #[.slice A0_0 l0_0.length c0_0, .int .i32 a0_1, .int .i64 a0_2, .int .u64 a0_3] 27 (0, 0)) (by (with_reducible repeat (first | refine blk_drewN ?_ _ | refine blk_drew ?_ | refine blk_alloc ?_ _)); exact BK387.out) hb); have n2_ := Aside0.mk (below_step (by repeat (first | (with_reducible first | exact HB.out | apply below_alloc | apply pw_below_drewN | apply below_drew1 | refine below_set ?_ GE387.out) | exact HB.out)) hb); clear HO_8; clear BK387; clear HB; have HO_8 := n0_; have BK387 := n1_; have HB := n2_; clear n0_ n1_ n2_; (try clear hb); (try clear hb2); (try clear hk); (try clear hi); have hcz59_0 : w58.cell? ⟨gb387, 0, none⟩ = some (.slice A0_0 l0_0.length c0_0) := (blk_cell BK387.out 0).trans rfl; have hcz59_1 : w58.cell? ⟨gb387, 1, none⟩ = some (.int .i32 a0_1) := (blk_cell BK387.out 1).trans rfl; have hcz59_2 : w58.cell? ⟨gb387, 2, none⟩ = some (.int .i64 a0_2) := (blk_cell BK387.out 2).trans rfl; have hcz59_3 : w58.cell? ⟨gb387, 3, none⟩ = some (.int .u64 a0_3) := (blk_cell BK387.out 3).trans rfl; have hfz59_0 := blk_frozen BK387.out 0; have hfz59_1 := blk_frozen BK387.out 1; have hfz59_2 := blk_frozen BK387.out 2; have hfz59_3 := blk_frozen BK387.out 3; obtain ⟨Ao60, co60, eo60⟩ := Kd.R_slice HO_8.out; subst eo60) | ((with_reducible refine gate_callee (f := 9) rfl ?_); refine goesL_ (some 110) rfl rfl Try.func9 (by kernel_rfl) rfl #[.slice Ao60 x8_4.length co60, .agg #[.int .i32 a0_1, .int .i64 a0_2, .int .u64 a0_3], .int .i64 a2] rfl (by (try simp only [List.map_toArray, List.map_cons, List.map_nil]); first | done | rfl | (simp only [List.length_drop, List.length_take]; rfl)) ?_; (with_reducible refine (pick_Pick.calls k4 _ _ x8_4 a0_1 a0_2 a0_3 a2 t399 t400 _ ?side1 ?side2 A46.out).mono ?_); (case side1 => repeat (first | exact (Kd.R_reads' HO_8.out).2.2 | (with_reducible refine Kd.C_alloc ?_ _) | (with_reducible refine Kd.C_drewN ?_ _) | (with_reducible refine Kd.C_drew ?_))); (case side2 => exact (Kd.R_reads' HO_8.out).2.1); rintro e w61 ⟨rfl, hb⟩; refine ⟨_, rfl, ?_⟩; have n0_ := Aside0.mk (Kd.R_below (by (with_reducible repeat (first | apply Kd.R_alloc | apply Kd.R_drewN | apply Kd.R_drew)); exact HO_8.out) hb); have n1_ := Aside0.mk (blk_below (g := gb387) (o := .cells #[.slice A0_0 l0_0.length c0_0, .int .i32 a0_1, .int .i64 a0_2, .int .u64 a0_3] 27 (0, 0)) (by (with_reducible repeat (first | refine blk_drewN ?_ _ | refine blk_drew ?_ | refine blk_alloc ?_ _)); exact BK387.out) hb); have n2_ := Aside0.mk (below_step (by repeat (first | (with_reducible first | exact HB.out | apply below_alloc | apply pw_below_drewN | apply below_drew1 | refine below_set ?_ GE387.out) | exact HB.out)) hb); clear HO_8; clear BK387; clear HB; have HO_8 := n0_; have BK387 := n1_; have HB := n2_; clear n0_ n1_ n2_; (try clear hb); (try clear hb2); (try clear hk); (try clear hi)))
                              go_ret
                              exact ⟨by first | rfl | (simp [errW_none, errW_some] <;> rfl) | (simp [*, errW_none, errW_some] <;> rfl), by repeat (first | (with_reducible first | exact HB.out | apply below_alloc | apply pw_below_drewN | apply below_drew1 | refine below_set ?_ GE387.out) | exact HB.out)⟩
                          · rw [if_neg c48] at H
                            have c48b0 : (t400 == 0) = false := beq_eq_false_iff_ne.mpr c48
                            have c48b1 : (t400 != 0) = true := bne_iff_ne.mpr c48
                            obtain rfl := Option.some.inj H
                            have hcz62_0 : wr.cell? ⟨gb387, 0, none⟩ = some (.slice A0_0 l0_0.length c0_0) := (blk_cell BK387.out 0).trans rfl
                            have hcz62_1 : wr.cell? ⟨gb387, 1, none⟩ = some (.int .i32 a0_1) := (blk_cell BK387.out 1).trans rfl
                            have hcz62_2 : wr.cell? ⟨gb387, 2, none⟩ = some (.int .i64 a0_2) := (blk_cell BK387.out 2).trans rfl
                            have hcz62_3 : wr.cell? ⟨gb387, 3, none⟩ = some (.int .u64 a0_3) := (blk_cell BK387.out 3).trans rfl
                            have hfz62_0 := blk_frozen BK387.out 0
                            have hfz62_1 := blk_frozen BK387.out 1
                            have hfz62_2 := blk_frozen BK387.out 2
                            have hfz62_3 := blk_frozen BK387.out 3
                            go_wp2_with (first | ((with_reducible refine gate_callee (f := 9) rfl ?_); refine goesL_ (some 102) rfl rfl Try.func9 (by kernel_rfl) rfl #[.slice A0_0 l0_0.length c0_0, .agg #[.int .i32 a0_1, .int .i64 a0_2, .int .u64 a0_3], .int .i64 a2] rfl (by (try simp only [List.map_toArray, List.map_cons, List.map_nil]); first | done | rfl | (simp only [List.length_drop, List.length_take]; rfl)) ?_; (with_reducible refine (pick_Pick.calls k4 _ _ l0_0 a0_1 a0_2 a0_3 a2 t397 t398 _ ?side1 ?side2 A45.out).mono ?_); (case side1 => repeat (first | exact (Kd.C_below HR0_0.out HB.out) | (with_reducible refine Kd.C_alloc ?_ _) | (with_reducible refine Kd.C_drewN ?_ _) | (with_reducible refine Kd.C_drew ?_))); (case side2 => exact HC0_0.out); rintro e w63 ⟨rfl, hb⟩; refine ⟨_, rfl, ?_⟩; have n0_ := Aside0.mk (Kd.R_below (by (with_reducible repeat (first | apply Kd.R_alloc | apply Kd.R_drewN | apply Kd.R_drew)); exact HO_8.out) hb); have n1_ := Aside0.mk (blk_below (g := gb387) (o := .cells #[.slice A0_0 l0_0.length c0_0, .int .i32 a0_1, .int .i64 a0_2, .int .u64 a0_3] 27 (0, 0)) (by (with_reducible repeat (first | refine blk_drewN ?_ _ | refine blk_drew ?_ | refine blk_alloc ?_ _)); exact BK387.out) hb); have n2_ := Aside0.mk (below_step (by repeat (first | (with_reducible first | exact HB.out | apply below_alloc | apply pw_below_drewN | apply below_drew1 | refine below_set ?_ GE387.out) | exact HB.out)) hb); clear HO_8; clear BK387; clear HB; have HO_8 := n0_; have BK387 := n1_; have HB := n2_; clear n0_ n1_ n2_; (try clear hb); (try clear hb2); (try clear hk); (try clear hi); have hcz64_0 : w63.cell? ⟨gb387, 0, none⟩ = some (.slice A0_0 l0_0.length c0_0) := (blk_cell BK387.out 0).trans rfl; have hcz64_1 : w63.cell? ⟨gb387, 1, none⟩ = some (.int .i32 a0_1) := (blk_cell BK387.out 1).trans rfl; have hcz64_2 : w63.cell? ⟨gb387, 2, none⟩ = some (.int .i64 a0_2) := (blk_cell BK387.out 2).trans rfl; have hcz64_3 : w63.cell? ⟨gb387, 3, none⟩ = some (.int .u64 a0_3) := (blk_cell BK387.out 3).trans rfl; have hfz64_0 := blk_frozen BK387.out 0; have hfz64_1 := blk_frozen BK387.out 1; have hfz64_2 := blk_frozen BK387.out 2; have hfz64_3 := blk_frozen BK387.out 3; obtain ⟨Ao65, co65, eo65⟩ := Kd.R_slice HO_8.out; subst eo65) | ((with_reducible refine gate_callee (f := 9) rfl ?_); refine goesL_ (some 110) rfl rfl Try.func9 (by kernel_rfl) rfl #[.slice Ao65 x8_4.length co65, .agg #[.int .i32 a0_1, .int .i64 a0_2, .int .u64 a0_3], .int .i64 a2] rfl (by (try simp only [List.map_toArray, List.map_cons, List.map_nil]); first | done | rfl | (simp only [List.length_drop, List.length_take]; rfl)) ?_; (with_reducible refine (pick_Pick.calls k4 _ _ x8_4 a0_1 a0_2 a0_3 a2 t399 t400 _ ?side1 ?side2 A46.out).mono ?_); (case side1 => repeat (first | exact (Kd.R_reads' HO_8.out).2.2 | (with_reducible refine Kd.C_alloc ?_ _) | (with_reducible refine Kd.C_drewN ?_ _) | (with_reducible refine Kd.C_drew ?_))); (case side2 => exact (Kd.R_reads' HO_8.out).2.1); rintro e w66 ⟨rfl, hb⟩; refine ⟨_, rfl, ?_⟩; have n0_ := Aside0.mk (Kd.R_below (by (with_reducible repeat (first | apply Kd.R_alloc | apply Kd.R_drewN | apply Kd.R_drew)); exact HO_8.out) hb); have n1_ := Aside0.mk (blk_below (g := gb387) (o := .cells #[.slice A0_0 l0_0.length c0_0, .int .i32 a0_1, .int .i64 a0_2, .int .u64 a0_3] 27 (0, 0)) (by (with_reducible repeat (first | refine blk_drewN ?_ _ | refine blk_drew ?_ | refine blk_alloc ?_ _)); exact BK387.out) hb); have n2_ := Aside0.mk (below_step (by repeat (first | (with_reducible first | exact HB.out | apply below_alloc | apply pw_below_drewN | apply below_drew1 | refine below_set ?_ GE387.out) | exact HB.out)) hb); clear HO_8; clear BK387; clear HB; have HO_8 := n0_; have BK387 := n1_; have HB := n2_; clear n0_ n1_ n2_; (try clear hb); (try clear hb2); (try clear hk); (try clear hi)))
                            go_ret
                            exact ⟨by first | rfl | (simp [errW_none, errW_some] <;> rfl) | (simp [*, errW_none, errW_some] <;> rfl), by repeat (first | (with_reducible first | exact HB.out | apply below_alloc | apply pw_below_drewN | apply below_drew1 | refine below_set ?_ GE387.out) | exact HB.out)⟩
                        · rw [if_neg c47] at H
                          have c47b0 : (t398 == 0) = false := beq_eq_false_iff_ne.mpr c47
                          have c47b1 : (t398 != 0) = true := bne_iff_ne.mpr c47
                          obtain rfl := Option.some.inj H
                          have hcz67_0 : wr.cell? ⟨gb387, 0, none⟩ = some (.slice A0_0 l0_0.length c0_0) := (blk_cell BK387.out 0).trans rfl
                          have hcz67_1 : wr.cell? ⟨gb387, 1, none⟩ = some (.int .i32 a0_1) := (blk_cell BK387.out 1).trans rfl
                          have hcz67_2 : wr.cell? ⟨gb387, 2, none⟩ = some (.int .i64 a0_2) := (blk_cell BK387.out 2).trans rfl
                          have hcz67_3 : wr.cell? ⟨gb387, 3, none⟩ = some (.int .u64 a0_3) := (blk_cell BK387.out 3).trans rfl
                          have hfz67_0 := blk_frozen BK387.out 0
                          have hfz67_1 := blk_frozen BK387.out 1
                          have hfz67_2 := blk_frozen BK387.out 2
                          have hfz67_3 := blk_frozen BK387.out 3
                          go_wp2_with (first | ((with_reducible refine gate_callee (f := 9) rfl ?_); refine goesL_ (some 102) rfl rfl Try.func9 (by kernel_rfl) rfl #[.slice A0_0 l0_0.length c0_0, .agg #[.int .i32 a0_1, .int .i64 a0_2, .int .u64 a0_3], .int .i64 a2] rfl (by (try simp only [List.map_toArray, List.map_cons, List.map_nil]); first | done | rfl | (simp only [List.length_drop, List.length_take]; rfl)) ?_; (with_reducible refine (pick_Pick.calls k4 _ _ l0_0 a0_1 a0_2 a0_3 a2 t397 t398 _ ?side1 ?side2 A45.out).mono ?_); (case side1 => repeat (first | exact (Kd.C_below HR0_0.out HB.out) | (with_reducible refine Kd.C_alloc ?_ _) | (with_reducible refine Kd.C_drewN ?_ _) | (with_reducible refine Kd.C_drew ?_))); (case side2 => exact HC0_0.out); rintro e w68 ⟨rfl, hb⟩; refine ⟨_, rfl, ?_⟩; have n0_ := Aside0.mk (Kd.R_below (by (with_reducible repeat (first | apply Kd.R_alloc | apply Kd.R_drewN | apply Kd.R_drew)); exact HO_8.out) hb); have n1_ := Aside0.mk (blk_below (g := gb387) (o := .cells #[.slice A0_0 l0_0.length c0_0, .int .i32 a0_1, .int .i64 a0_2, .int .u64 a0_3] 27 (0, 0)) (by (with_reducible repeat (first | refine blk_drewN ?_ _ | refine blk_drew ?_ | refine blk_alloc ?_ _)); exact BK387.out) hb); have n2_ := Aside0.mk (below_step (by repeat (first | (with_reducible first | exact HB.out | apply below_alloc | apply pw_below_drewN | apply below_drew1 | refine below_set ?_ GE387.out) | exact HB.out)) hb); clear HO_8; clear BK387; clear HB; have HO_8 := n0_; have BK387 := n1_; have HB := n2_; clear n0_ n1_ n2_; (try clear hb); (try clear hb2); (try clear hk); (try clear hi); have hcz69_0 : w68.cell? ⟨gb387, 0, none⟩ = some (.slice A0_0 l0_0.length c0_0) := (blk_cell BK387.out 0).trans rfl; have hcz69_1 : w68.cell? ⟨gb387, 1, none⟩ = some (.int .i32 a0_1) := (blk_cell BK387.out 1).trans rfl; have hcz69_2 : w68.cell? ⟨gb387, 2, none⟩ = some (.int .i64 a0_2) := (blk_cell BK387.out 2).trans rfl; have hcz69_3 : w68.cell? ⟨gb387, 3, none⟩ = some (.int .u64 a0_3) := (blk_cell BK387.out 3).trans rfl; have hfz69_0 := blk_frozen BK387.out 0; have hfz69_1 := blk_frozen BK387.out 1; have hfz69_2 := blk_frozen BK387.out 2; have hfz69_3 := blk_frozen BK387.out 3; obtain ⟨Ao70, co70, eo70⟩ := Kd.R_slice HO_8.out; subst eo70) | ((with_reducible refine gate_callee (f := 9) rfl ?_); refine goesL_ (some 110) rfl rfl Try.func9 (by kernel_rfl) rfl #[.slice Ao70 x8_4.length co70, .agg #[.int .i32 a0_1, .int .i64 a0_2, .int .u64 a0_3], .int .i64 a2] rfl (by (try simp only [List.map_toArray, List.map_cons, List.map_nil]); first | done | rfl | (simp only [List.length_drop, List.length_take]; rfl)) ?_; (with_reducible refine (pick_Pick.calls k4 _ _ x8_4 a0_1 a0_2 a0_3 a2 t399 t400 _ ?side1 ?side2 A46.out).mono ?_); (case side1 => repeat (first | exact (Kd.R_reads' HO_8.out).2.2 | (with_reducible refine Kd.C_alloc ?_ _) | (with_reducible refine Kd.C_drewN ?_ _) | (with_reducible refine Kd.C_drew ?_))); (case side2 => exact (Kd.R_reads' HO_8.out).2.1); rintro e w71 ⟨rfl, hb⟩; refine ⟨_, rfl, ?_⟩; have n0_ := Aside0.mk (Kd.R_below (by (with_reducible repeat (first | apply Kd.R_alloc | apply Kd.R_drewN | apply Kd.R_drew)); exact HO_8.out) hb); have n1_ := Aside0.mk (blk_below (g := gb387) (o := .cells #[.slice A0_0 l0_0.length c0_0, .int .i32 a0_1, .int .i64 a0_2, .int .u64 a0_3] 27 (0, 0)) (by (with_reducible repeat (first | refine blk_drewN ?_ _ | refine blk_drew ?_ | refine blk_alloc ?_ _)); exact BK387.out) hb); have n2_ := Aside0.mk (below_step (by repeat (first | (with_reducible first | exact HB.out | apply below_alloc | apply pw_below_drewN | apply below_drew1 | refine below_set ?_ GE387.out) | exact HB.out)) hb); clear HO_8; clear BK387; clear HB; have HO_8 := n0_; have BK387 := n1_; have HB := n2_; clear n0_ n1_ n2_; (try clear hb); (try clear hb2); (try clear hk); (try clear hi)))
                          go_ret
                          exact ⟨by first | rfl | (simp [errW_none, errW_some] <;> rfl) | (simp [*, errW_none, errW_some] <;> rfl), by repeat (first | (with_reducible first | exact HB.out | apply below_alloc | apply pw_below_drewN | apply below_drew1 | refine below_set ?_ GE387.out) | exact HB.out)⟩

end Go.Proofs.Ytmldhpnkkkmloaa.Q

namespace Go.Proofs.Ytmldhpnkkkmloaa.Pure
open Go.RowKit Go.Proofs.Ytmldhpnkkkmloaa.Q Go.Proofs.YtmldhpnkkkmloaaW.PrintWords Go.Proofs.YtmldhpnkkkmloaaW.PrintLast Go.Proofs.Ytmldhpnkkkmloaa.SortM
set_option linter.unusedVariables false

theorem awake_m {k : Nat} (hk : 100 ≤ k) : ((credenzalaw20_awake.f k).bind fun t => some t) = some true := by rw [awake20 hk, Option.bind_some]

/-! ### all scores are moved by one number -/
def mv (l : List Int) (x : Int) : List Int := l.map (· + x)
theorem mv_length (l : List Int) (x : Int) : (mv l x).length = l.length := by simp [mv]
theorem mv_rd {l : List Int} {x : Int} {i : Int} (h0 : 0 ≤ i) (h : i < l.length) : rd (mv l x) i = rd l i + x := by
  obtain ⟨n, rfl⟩ : ∃ n : Nat, i = (n : Int) := ⟨i.toNat, by omega⟩
  rw [rd_at (l := l) (by omega), rd_at (l := mv l x) (by rw [mv_length]; omega)]
  simp [mv]
theorem mv_before {l : List Int} {x y z : Int} (hy0 : 0 ≤ y) (hy : y < l.length) (hz0 : 0 ≤ z) (hz : z < l.length) : before (mv l x) y z = before l y z := by
  unfold before
  rw [mv_rd hy0 hy, mv_rd hz0 hz]
  congr 1
  apply propext
  omega
theorem mv_ahead {l : List Int} {x z : Int} (hz0 : 0 ≤ z) (hz : z < l.length) : SortM.ahead (mv l x) z = SortM.ahead l z := by
  unfold SortM.ahead
  rw [mv_length]
  apply List.countP_congr
  intro y hy
  obtain ⟨h1, h2⟩ := mem_iota.1 hy
  rw [mv_before h1 h2 hz0 hz]
theorem mv_kpt (l : List Int) (x t : Int) : kpt (mv l x) t = kpt l t := by
  rw [kpt_filter, kpt_filter, mv_length]
  apply List.filter_congr
  intro y hy
  obtain ⟨h1, h2⟩ := mem_iota.1 hy
  unfold inK
  rw [mv_ahead h1 h2]
theorem mv_take (l : List Int) (x : Int) (p : Nat) : (mv l x).take p = mv (l.take p) x := by simp [mv, List.map_take]
theorem mv_topR : ∀ {l : List Int} (x : Int), 0 < l.length → topR (mv l x) = topR l + x
  | a :: l, x, _ => by
    simp only [mv, List.map_cons, topR]
    have key : ∀ (l : List Int) (a : Int), List.foldl (fun a b => if a < b then b else a) (a + x) (l.map (· + x)) = List.foldl (fun a b => if a < b then b else a) a l + x := by
      intro l
      induction l with
      | nil => intro a; rfl
      | cons b l ih =>
        intro a
        simp only [List.map_cons, List.foldl_cons]
        rw [← ih]
        congr 1
        by_cases c : a < b
        · rw [if_pos c, if_pos (by omega)]
        · rw [if_neg c, if_neg (by omega)]
    exact key l a
theorem mv_first {l : List Int} {x : Int} {i : Nat} (h : FirstT (mv l x) i) : FirstT l i := by
  obtain ⟨h1, h2, h3⟩ := h
  rw [mv_length] at h1
  have ht := mv_topR (l := l) x (by omega)
  rw [mv_rd (by omega) (by omega), ht] at h2
  refine ⟨h1, by omega, fun j hj e => ?_⟩
  have := h3 j hj
  rw [mv_rd (by omega) (by omega), ht] at this
  omega

/-! ### quotients move by whole numbers -/
theorem rnd_move {a b c : Int} (hb : 0 < b) (hc : c % 2 = 0) : rnd (a + b * c) b = rnd a b + c := by
  have e1 : (a + b * c) / b = a / b + c := Int.add_mul_ediv_left _ _ (by omega)
  have e2 : (a + b * c) % b = a % b := Int.add_mul_emod_self_left _ _ _
  unfold rnd
  rw [e1, e2]
  have e3 : (a / b + c) % 2 = a / b % 2 := by omega
  rw [e3]
  split <;> omega
theorem div_small {a t : Int} (ha : -8388608 ≤ a) (ha2 : a ≤ 8388608) (ht : 32768 ≤ t) : -16777217 ≤ rnd (a * 65536) t ∧ rnd (a * 65536) t ≤ 16777217 := by
  have h := Int.mul_ediv_add_emod (a * 65536) t
  have h1 := Int.emod_nonneg (a * 65536) (show t ≠ 0 by omega)
  have h2 := Int.emod_lt_of_pos (a * 65536) (show 0 < t by omega)
  obtain ⟨q, hq⟩ : ∃ q, q = (a * 65536) / t := ⟨_, rfl⟩
  rw [← hq] at h
  have hlo : -16777217 ≤ q := by
    by_cases c : q < -16777216
    · exfalso
      have : t * q ≤ t * (-16777217) := Int.mul_le_mul_of_nonneg_left (by omega) (by omega)
      omega
    · omega
  have hhi : q ≤ 16777216 := by
    by_cases c : 16777216 < q
    · exfalso
      have : t * 16777217 ≤ t * q := Int.mul_le_mul_of_nonneg_left (by omega) (by omega)
      omega
    · omega
  have hlo2 : -16777216 ≤ q := by
    by_cases c : q = -16777217
    · exfalso
      subst c
      omega
    · omega
  unfold rnd
  rw [← hq]
  split <;> omega
theorem div_move {a t by' : Int} (ha : -8388608 ≤ a) (ha2 : a ≤ 8388608) (ht : 32768 ≤ t) (h1 : -200 ≤ by') (h2 : by' ≤ 200) : divR (a + by' * t) t = divR a t + by' * 65536 := by
  have hs := div_small ha ha2 ht
  have e : (a + by' * t) * 65536 = a * 65536 + t * (by' * 65536) := by
    rw [Int.add_mul, Int.mul_comm by' t, Int.mul_assoc]
  unfold divR
  rw [e, rnd_move (by omega) (by omega)]
  unfold wideR cutR
  rw [if_neg (by omega), if_neg (by omega), if_neg (by omega), if_neg (by omega)]
theorem weights_move {l : List Int} (x : Int) (h : 0 < l.length) : weightsR (mv l x) = weightsR l := by
  unfold weightsR
  rw [mv_topR x h]
  unfold mv
  rw [List.map_map]
  apply List.map_congr_left
  intro y _
  show wR (topR l + x) (y + x) = _
  unfold wR
  rw [show y + x - (topR l + x) = y - topR l by omega]
theorem warm_move {l : List Int} {t by' top : Int} (hl : ∀ y ∈ l, -8388608 ≤ y ∧ y ≤ 8388608) (ht : 32768 ≤ t) (h1 : -200 ≤ by') (h2 : by' ≤ 200) : warmR (mv l (by' * t)) t top = mv (warmR l t top) (by' * 65536) := by
  unfold warmR
  rw [mv_kpt]
  unfold mv
  rw [List.map_map]
  apply List.map_congr_left
  intro y hy
  obtain ⟨⟨y1, y2⟩, _⟩ := kpt_mem.1 hy
  show divR (rd (mv l (by' * t)) y) t = divR (rd l y) t + by' * 65536
  rw [mv_rd y1 y2]
  obtain ⟨n, rfl⟩ : ∃ n : Nat, y = (n : Int) := ⟨y.toNat, by omega⟩
  have hb := hl _ (rd_mem (l := l) (p := n) (by omega))
  exact div_move hb.1 hb.2 ht h1 h2
theorem pick_move {l : List Int} {t by' top : Int} (seed idx : Int) (h : 0 < l.length) (h64 : l.length ≤ 64) (hp : 0 ≤ top) (hl : ∀ y ∈ l, -8388608 ≤ y ∧ y ≤ 8388608) (ht : 32768 ≤ t) (h1 : -200 ≤ by') (h2 : by' ≤ 200) : pickR (mv l (by' * t)) t top seed idx = pickR l t top seed idx := by
  unfold pickR
  rw [warm_move hl ht h1 h2, weights_move _ (by have := warm_facts t h h64 hp; omega), mv_kpt]

theorem moves_end {l : List Int} (hA : A32 l) {t top : Int} (seed : Int) {idx x by' : Int} (q1 : 0 < l.length) (q2 : l.length ≤ 64) (hR : rightR t top = true) (q3 : 0 ≤ idx) (q4 : idx ≤ 1024) (hl : ∀ y ∈ l, -8388608 ≤ y ∧ y ≤ 8388608) (h1 : -200 ≤ by') (h2 : by' ≤ 200) (ht : t = 0 ∨ 32768 ≤ t)
    (hx : x = if t = 0 then by' else by' * t) : ∃ v : Int, ∀ k, 300 ≤ k → pick_Pick.f k l t top seed idx = some (v, 0) ∧ pick_Pick.f k (mv l x) t top seed idx = some (v, 0) := by
  have hR' := hR
  unfold rightR at hR'
  rw [decide_eq_true_iff] at hR'
  have hxb : -209715200 ≤ x ∧ x ≤ 209715200 := by
    rw [hx]
    by_cases c : t = 0
    · rw [if_pos c]; omega
    · rw [if_neg c]
      have := mul_bd (a := by') (b := t) (A := 200) (B := 1048576) (by omega) (by omega) (by omega) (by omega)
      omega
  have hA2 : A32 (mv l x) := by
    intro y hy
    obtain ⟨z, hz, rfl⟩ := List.mem_map.1 hy
    have := hl z hz
    exact ⟨by omega, by omega⟩
  have p1 : 0 < (mv l x).length := by rw [mv_length]; exact q1
  have p2 : (mv l x).length ≤ 64 := by rw [mv_length]; exact q2
  by_cases c : t = 0
  · obtain ⟨r, hr, he⟩ := ref_Top_first (l := l) q1 (by omega) (k := 100) (by omega)
    refine ⟨(r : Int), fun k hk => ?_⟩
    obtain ⟨a, ha, _, ha2, _⟩ := pick_some hA q1 q2 (t := t) (top := top) seed hR q3 q4 hk
    obtain ⟨b, hb, _, hb2, _⟩ := pick_some hA2 p1 p2 (t := t) (top := top) seed hR q3 q4 hk
    obtain ⟨i, hi, rfl⟩ := ha2 c
    obtain ⟨j, hj, rfl⟩ := hb2 c
    rw [ha, hb, firstT_uniq hi hr, firstT_uniq (mv_first hj) hr]
    exact ⟨rfl, rfl⟩
  · refine ⟨pickR l t top seed idx, fun k hk => ?_⟩
    obtain ⟨a, ha, _, _, ha2⟩ := pick_some hA q1 q2 (t := t) (top := top) seed hR q3 q4 hk
    obtain ⟨b, hb, _, _, hb2⟩ := pick_some hA2 p1 p2 (t := t) (top := top) seed hR q3 q4 hk
    rw [ha, hb, ha2 c, hb2 c]
    refine ⟨rfl, ?_⟩
    rw [hx, if_neg c, pick_move seed idx q1 q2 (by omega) hl (by rcases ht with h | h; exact absurd h c; exact h) h1 h2]

theorem moves_l0 {l : List Int} (hA : A32 l) {t top : Int} (seed : Int) {idx x by' : Int} (q1 : 0 < l.length) (q2 : l.length ≤ 64) (hR : rightR t top = true) (q3 : 0 ≤ idx) (q4 : idx ≤ 1024) (h1 : -200 ≤ by') (h2 : by' ≤ 200) (ht : t = 0 ∨ 32768 ≤ t)
    (hx : x = if t = 0 then by' else by' * t) (hxb : -209715200 ≤ x ∧ x ≤ 209715200) : ∀ (d p k : Nat), p + d = l.length → d + 301 ≤ k → (∀ j : Nat, j < p → -8388608 ≤ rd l (j : Int) ∧ rd l (j : Int) ≤ 8388608) →
    credenzalaw20_PickMoves.l0 k idx x (mv (l.take p) x) l (l.length : Int) (p : Int) l t top seed = some true := by
  intro d
  induction d with
  | zero =>
    intro p k hp hk hj
    obtain ⟨k, rfl⟩ : ∃ m, k = m + 1 := ⟨k - 1, by omega⟩
    have hl : ∀ y ∈ l, -8388608 ≤ y ∧ y ≤ 8388608 := by
      intro y hy
      obtain ⟨j, hjl, rfl⟩ := List.getElem_of_mem hy
      have := hj j (by omega)
      rw [rd_at hjl] at this
      exact this
    obtain ⟨v, hv⟩ := moves_end hA seed q1 q2 hR q3 q4 hl h1 h2 ht hx
    obtain ⟨e1, e2⟩ := hv k (by omega)
    rw [credenzalaw20_PickMoves.l0, if_neg (by omega), List.take_of_length_le (by omega), e1, Option.bind_some, e2, Option.bind_some, if_pos rfl, if_pos rfl, if_pos rfl, awake_m (by omega)]
  | succ d ih =>
    intro p k hp hk hj
    obtain ⟨k, rfl⟩ : ∃ m, k = m + 1 := ⟨k - 1, by omega⟩
    have hlt : p < l.length := by omega
    have hml : (mv (l.take p) x).length ≤ 64 := by rw [mv_length, List.length_take]; omega
    rw [credenzalaw20_PickMoves.l0, if_pos (by omega), if_pos (by omega), if_pos (by omega)]
    by_cases c1 : rd l (p : Int) < -8388608
    · rw [if_pos c1, awake_m (by omega)]
    by_cases c2 : rd l (p : Int) > 8388608
    · rw [if_neg c1, if_pos c2, awake_m (by omega)]
    rw [if_neg c1, if_neg c2, if_pos (by omega), w32 (by omega) (by omega), wnext hlt (by omega)]
    have := ih (p + 1) k (by omega) (by omega) (fun j hjp => by
      by_cases e : j = p
      · subst e; omega
      · exact hj j (by omega))
    rw [take_rd hlt] at this
    unfold mv at this ⊢
    rw [List.map_append] at this
    exact this

theorem moves_pure (l : List Int) (t top seed by' idx : Int) (hA : A32 l) : ∃ k, credenzalaw20_PickMoves.f k l t top seed by' idx = some true := by
  have aw : credenzalaw20_PickMoves.j0 500 by' idx true l t top seed = some true := by rw [credenzalaw20_PickMoves.j0, if_pos rfl, awake_m (by omega)]
  refine ⟨500, ?_⟩
  rw [credenzalaw20_PickMoves.f]
  by_cases h0 : (l.length : Int) = 0
  · rw [if_pos h0, aw]
  rw [if_neg h0]
  by_cases h64 : (l.length : Int) > 64
  · rw [if_pos h64, aw]
  rw [if_neg h64, ref_Right_some, Option.bind_some]
  by_cases hR : rightR t top = true
  · rw [if_pos hR]
    by_cases h1 : idx < 0
    · rw [if_pos h1, aw]
    rw [if_neg h1]
    by_cases h2 : idx > 1024
    · rw [if_pos h2, aw]
    rw [if_neg h2]
    by_cases h3 : by' < -200
    · rw [if_pos h3, aw]
    rw [if_neg h3]
    by_cases h4 : by' > 200
    · rw [decide_eq_true h4, aw]
    rw [decide_eq_false h4, credenzalaw20_PickMoves.j0, if_neg (by simp)]
    have hR' := hR
    unfold rightR at hR'
    rw [decide_eq_true_iff] at hR'
    have fin1 : ∀ x : Int, (x = if t = 0 then by' else by' * t) → (-209715200 ≤ x ∧ x ≤ 209715200) → (t = 0 ∨ 32768 ≤ t) → credenzalaw20_PickMoves.j2 498 idx x l t top seed = some true := by
      intro x hx hxb ht
      rw [credenzalaw20_PickMoves.j2]
      exact moves_l0 hA seed (by omega) (by omega) hR (by omega) (by omega) (by omega) (by omega) ht hx hxb l.length 0 497 (by omega) (by omega) (by omega)
    have hb := mul_bd (a := by') (b := t) (A := 200) (B := 1048576) (by omega) (by omega) (by omega) (by omega)
    by_cases ht : t > 0
    · rw [if_pos ht]
      by_cases ht2 : t < 32768
      · rw [decide_eq_true ht2, credenzalaw20_PickMoves.j1, if_pos rfl, awake_m (by omega)]
      · rw [decide_eq_false ht2, credenzalaw20_PickMoves.j1, if_neg (by simp), if_neg (by omega), w32 (x := by') (by omega) (by omega), w32 (by omega) (by omega)]
        exact fin1 _ (by rw [if_neg (by omega)]) (by omega) (.inr (by omega))
    · rw [if_neg ht, credenzalaw20_PickMoves.j1, if_neg (by simp), if_pos (by omega), w32 (x := by') (by omega) (by omega)]
      exact fin1 _ (by rw [if_pos (by omega)]) (by omega) (.inl (by omega))
  · rw [if_neg hR, aw]
end Go.Proofs.Ytmldhpnkkkmloaa.Pure

namespace Go.Proofs.Ytmldhpnkkkmloaa.pickMoves
open Go.ChangeShapes Go.WideShapes Go.ChangeAt Go.RowKit Go.Proofs.YtmldhpnkkkmloaaW.PrintWords Go.Proofs.YtmldhpnkkkmloaaW.PrintLast Go.Proofs.Ytmldhpnkkkmloaa.Pure
open Go.ChangeMaps (open_string shut_string)
set_option linter.unusedVariables false
theorem own : ownKnob Try.prog.godebug = none := by kernel_rfl
theorem laidOut : laidOutB Try.prog = true := by kernel_rfl
def IsRow (k : IntKind) (w : World) (a : Option Addr) (len cap : Nat) (zs : List Int) : Prop :=
  (a = none ∧ len = 0 ∧ cap = 0 ∧ zs = []) ∨
  ∃ x, a = some x ∧ len ≤ cap ∧ cap ≤ maxLen ∧ zs.length = cap ∧ (∀ i, i < zs.length → w.cell? (x.add i) = some (.int k (zs.getD i 0))) ∧ ∀ n ∈ zs, (Lit.int k n).wf = true
set_option maxRecDepth 100000 in
theorem lifted (os : Os) (started : os.Started) (H : Type) (enc : TypeId × Value → H) :
    ReturnsInHanded {} Try.checked os 6 .any (Rows.pickMovesSpec.pre6 enc Try.prog Try.f6 Rows.pickMovesRow.domain false) (Rows.pickMovesSpec.post enc Try.prog Try.f6 false true false false) := by
  refine returnsInHanded_of_change_sized (C := Try.checked) own started (by kernel_rfl) Try.func6
    (ChangeSpec.witness6 (enc := enc) (C := Try.checked) false ⟨#[], #[.agg #[.slice none 0 0, .int .i32 0, .int .i64 0, .int .u64 0], .int .i64 0, .int .i64 0], []⟩ 8 (by kernel_rfl) (by kernel_rfl) (by kernel_rfl) (by kernel_rfl)) ?_
  intro W base args ds gs before hval0 hW hcnd hsz0 _
  have hsz : (DataW.weightsEach Try.prog (Try.f6.params.toList ++ Rows.pickMovesSpec.plain.varTypes Try.prog) (ds ++ gs)).all (· ≤ reachBytes) = true := hsz0
  have hval : ∀ (j : Nat) t v, Try.f6.params[j]? = some t → args[j]? = some v → Value.okWide Try.prog W .any base t v := hval0
  have hW' := hW
  obtain ⟨p, q, hA0, hV, rfl, hfz, hnd⟩ := hW
  have hA : DataW.TrodAll enc Try.prog W 0 (fun _ => true) true Try.f6.params.toList args.toList ds p := hA0
  rw [Try.params6] at hA hval hsz
  obtain ⟨v0, vs0, d0, ds0, p0, q0, hargs, rfl, rfl, h0, r0⟩ := trodAll_cons hA
  obtain ⟨v1, vs1, d1, ds1, p1, q1, rfl, rfl, rfl, h1, r1⟩ := trodAll_cons r0
  obtain ⟨v2, vs2, d2, ds2, p2, q2, rfl, rfl, rfl, h2, r2⟩ := trodAll_cons r1
  obtain ⟨rfl, rfl, rfl⟩ := trodAll_nil r2
  obtain rfl : args = #[v0, v1, v2] := by cases args; simp_all
  obtain ⟨rfl, rfl⟩ := trodVars_none hV
  have k0 := h0
  have lt0 : ∀ x ∈ p0, x.block < W.heap.size := by obtain ⟨m, hm⟩ := k0; exact DataW.trod_lt m _ _ _ hm
  obtain ⟨u0, u1, u2, u3, y0, y1, y2, y3, n0, m0, rfl, g0, g1, g2, g3⟩ := open_case13 Try.underlying27 Try.underlying25 (by kernel_rfl) (by kernel_rfl) (by kernel_rfl) (hval 0 27 v0 rfl rfl) h0
  obtain ⟨A, len, cap, e0⟩ := Go.Joins.slice_form Try.underlying22 g0
  obtain ⟨b1, e1, _, _⟩ := DataW.trod_int Try.underlying21 g1
  obtain ⟨b2, e2, _, _⟩ := DataW.trod_int Try.underlying3 g2
  obtain ⟨b3, e3, _, _⟩ := DataW.trod_int Try.underlying23 g3
  simp only [List.cons.injEq, and_true] at e0 e1 e2 e3
  subst e0 e1 e2 e3
  obtain ⟨z0, wz0⟩ : ∃ zs, IsRow .i32 W A len cap zs := by
    rcases open_ints Try.underlying22 Try.underlying21 (by kernel_rfl) g0 with ⟨hcs, _⟩ | ⟨x, l, c, zs, hcs, _, hl, hm, hz, _, hcell, hwz⟩
    · simp at hcs
      obtain ⟨rfl, rfl, rfl⟩ := hcs
      exact ⟨[], .inl ⟨rfl, rfl, rfl, rfl⟩⟩
    · simp at hcs
      obtain ⟨rfl, rfl, rfl⟩ := hcs
      exact ⟨zs, .inr ⟨_, rfl, hl, hm, by simpa using hz, hcell, hwz⟩⟩
  obtain ⟨l0, rfl, hr0, hm0, hw0, hc0⟩ := ReadsInt.ofRowC wz0
  obtain ⟨a1, rfl, rfl, rfl, w1⟩ := open_int Try.underlying3 (hval 1 3 v1 rfl rfl) h1
  obtain ⟨a2, rfl, rfl, rfl, w2⟩ := open_int Try.underlying3 (hval 2 3 v2 rfl rfl) h2
  clear hA0 hval0 hsz0 hsz
  obtain ⟨k, hk⟩ := Pure.moves_pure l0 b1 b2 b3 a1 a2 (A32_of_wf hw0)
  refine (Q.credenzalaw20_PickMoves.calls k _ _ l0 b1 b2 b3 a1 a2 true W (Kd.C_of_reads (d := (0 : Int)) (h1 := fun _ => rfl) hr0) hc0 hk).mono ?_
  rintro e W' ⟨rfl, bel⟩
  exact ⟨_, rfl, _, _, _, [], _, [], hW', trodAll_mk1 (shut_bool Try.underlying4 _), (trodAll_cons_mk (Below.trod laidOut (by kernel_rfl) (of_decide_eq_true (by kernel_rfl)) k0 bel lt0) (trodAll_cons_mk (shut_int Try.underlying3 w1) (trodAll_cons_mk (shut_int Try.underlying3 w2) trodAll_mk0))), rfl, bel.frame _, fun h => by cases h⟩
theorem over : Rows.pickMovesRow.holds Try.pinned (OpenSpec.ofChange Rows.pickMovesSpec) :=
  OpenClaim.holds_of_wide 6 Try.f6 rfl rfl rfl rfl rfl rfl rfl ⟨rfl, rfl, rfl, rfl, rfl⟩ rfl rfl rfl rfl rfl (by kernel_rfl) Try.func6 (by kernel_rfl)
    (of_decide_eq_true (by kernel_rfl)) (by unfold Func.isWrapper; first | (rw [if_pos (by decide +kernel)]; kernel_rfl) | (rw [if_neg (by decide +kernel)]; exact ⟨rfl, rfl⟩))
    (fun os started H enc _ => lifted os started H enc)
theorem proved : Rows.PickMovesSaid := over
end Go.Proofs.Ytmldhpnkkkmloaa.pickMoves
namespace Go.Proofs.Ytmldhpnkkkmloaa
/-- The row, under a short name, for the claim. -/
theorem pickMoves_holds : Rows.PickMovesSaid := pickMoves.proved
end Go.Proofs.Ytmldhpnkkkmloaa
