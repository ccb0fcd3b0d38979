/- Plain law of a ring's places: no program in sight; no condition beyond those of each lemma. -/
import Derived.Test.YtfffncaonpokpaaKit
namespace Go.Proofs.Ytfffncaonpokpaa

/-- the buffer holds the things xs from the place 'first' on, round -/
def RB (buf : List Int) (first : Nat) (xs : List Int) : Prop :=
  xs.length ≤ buf.length ∧ (0 < buf.length → first < buf.length) ∧ ∀ i, i < xs.length → buf[(first + i) % buf.length]?.getD 0 = xs[i]?.getD 0

theorem mod_place {f i L : Nat} (hf : f < L) (hi : i ≤ L) : (f + i) % L = if f + i < L then f + i else f + i - L := by
  split
  · exact Nat.mod_eq_of_lt (by assumption)
  · rw [Nat.mod_eq_sub_mod (by omega), Nat.mod_eq_of_lt (by omega)]

theorem mod_inj {f i j L : Nat} (hf : f < L) (hi : i < L) (hj : j < L) (h : (f + i) % L = (f + j) % L) : i = j := by
  rw [mod_place hf (by omega), mod_place hf (by omega)] at h
  split at h <;> split at h <;> omega

theorem mod_add {f n i L : Nat} (hf : f < L) (hn : n ≤ L) (hi : i < L) (hs : n + i ≤ L) : ((f + n) % L + i) % L = (f + (n + i)) % L := by
  have h1 : (f + n) % L < L := Nat.mod_lt _ (by omega)
  rw [mod_place h1 (by omega), mod_place hf hn, mod_place hf (show n + i ≤ L by omega)]
  split <;> split <;> split <;> omega

theorem RB.nil_ (buf : List Int) : RB buf 0 [] := ⟨by simp, fun h => h, fun i hi => by simp at hi⟩

theorem RB.push {buf : List Int} {first : Nat} {xs : List Int} (h : RB buf first xs) (hl : xs.length < buf.length) (x : Int) : RB (buf.set ((first + xs.length) % buf.length) x) first (xs ++ [x]) := by
  obtain ⟨h1, h2, h3⟩ := h
  have hf := h2 (by omega)
  refine ⟨by simp; omega, fun _ => by simpa using hf, fun i hi => ?_⟩
  simp only [List.length_append, List.length_cons, List.length_nil] at hi
  simp only [List.length_set]
  by_cases hx : i = xs.length
  · subst hx
    rw [List.getElem?_set_self (Nat.mod_lt _ (by omega))]
    simp
  · rw [List.getElem?_set_ne (fun e => hx (mod_inj hf (by omega) (by omega) e.symm)), h3 i (by omega), List.getElem?_append_left (by omega)]

/-- a place that is none of the things' is cleared -/
theorem RB.clear_ {buf : List Int} {first : Nat} {xs : List Int} (h : RB buf first xs) {k : Nat} (hk : xs.length ≤ k) (hk' : k < buf.length) (x : Int) : RB (buf.set ((first + k) % buf.length) x) first xs := by
  obtain ⟨h1, h2, h3⟩ := h
  have hf := h2 (by omega)
  refine ⟨by simpa using h1, fun _ => by simpa using hf, fun i hi => ?_⟩
  simp only [List.length_set]
  rw [List.getElem?_set_ne (fun e => by have := mod_inj hf (by omega) (by omega) e; omega)]
  exact h3 i hi

/-- the things from the n-th on -/
def RBfrom (buf : List Int) (first n : Nat) (xs : List Int) : Prop :=
  xs.length ≤ buf.length ∧ (0 < buf.length → first < buf.length) ∧ ∀ i, n ≤ i → i < xs.length → buf[(first + i) % buf.length]?.getD 0 = xs[i]?.getD 0

theorem RBfrom.clear_ {buf : List Int} {first n : Nat} {xs : List Int} (h : RBfrom buf first n xs) {k : Nat} (hk : k < n) (hn : n ≤ xs.length) (x : Int) : RBfrom (buf.set ((first + k) % buf.length) x) first n xs := by
  obtain ⟨h1, h2, h3⟩ := h
  have hf := h2 (by omega)
  refine ⟨by simpa using h1, fun _ => by simpa using hf, fun i hi hi' => ?_⟩
  simp only [List.length_set]
  rw [List.getElem?_set_ne (fun e => by have := mod_inj hf (by omega) (by omega) e; omega)]
  exact h3 i hi hi'

theorem RBfrom.of_ {buf : List Int} {first n : Nat} {xs : List Int} (h : RB buf first xs) : RBfrom buf first n xs := ⟨h.1, h.2.1, fun i _ hi => h.2.2 i hi⟩

theorem RBfrom.shift_ {buf : List Int} {first n : Nat} {xs : List Int} (h : RBfrom buf first n xs) (hn : n ≤ xs.length) (hL : 0 < buf.length) : RB buf ((first + n) % buf.length) (xs.drop n) := by
  obtain ⟨h1, h2, h3⟩ := h
  have hf := h2 hL
  refine ⟨by simp; omega, fun _ => Nat.mod_lt _ hL, fun i hi => ?_⟩
  simp at hi
  rw [mod_add hf (by omega) (by omega) (by omega), h3 (n + i) (by omega) (by omega), List.getElem?_drop]

theorem RB.take_ {buf : List Int} {first : Nat} {xs : List Int} (h : RB buf first xs) (n : Nat) : RB buf first (xs.take n) := by
  obtain ⟨h1, h2, h3⟩ := h
  refine ⟨by simp; omega, h2, fun i hi => ?_⟩
  have hi' : i < n ∧ i < xs.length := by simp at hi; omega
  rw [h3 i hi'.2, List.getElem?_take, if_pos hi'.1]

end Go.Proofs.Ytfffncaonpokpaa
