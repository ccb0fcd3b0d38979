/- Plain lists as slices of whole numbers, apart from two blocks; appends onto fresh rows; no program in sight but its types. -/
import Derived.Test.YtfffncaonpokpaaLineX
import Derived.Test.YtfffncaonpokpaaLineList
namespace Go.Proofs.Ytfffncaonpokpaa
open Go.RowKit

theorem own_weaken {w : World} {B B' e size n : Nat} {v : Value} {xs : List Value} (h : w.ownsRow B e size v n xs) (hB : B' ≤ B) : w.ownsRow B' e size v n xs := by
  refine ⟨h.1, ?_⟩
  rcases h.2 with h0 | ⟨g, cap, cur, rfl, hg0, hg, rest⟩
  · exact .inl h0
  · exact .inr ⟨g, cap, cur, rfl, Nat.le_trans hB hg0, hg, rest⟩
theorem own_drewN {w : World} {B e size n : Nat} {v : Value} {xs : List Value} (h : w.ownsRow B e size v n xs) (k : Nat) : (w.drewN k).ownsRow B e size v n xs := h
theorem intsAt_own {w : World} {B n c : Nat} {A : Option Addr} {xs : List Int} (h : w.ownsRow B 3 1 (.slice A n c) n (ints xs)) : IntsAt w A xs := fun i hi => by
  have hn : xs.length = n := by have := h.1; simpa [ints] using this
  rcases h.2 with ⟨e, h0⟩ | ⟨g, cap, cur, e, _, hg, _⟩
  · omega
  · simp at e
    obtain ⟨rfl, _⟩ := e
    refine ⟨g, 0, rfl, lt_of_block hg, ?_⟩
    rw [Nat.zero_add, h.cellAt i (by omega)]
    simp [ints, hi]

theorem sliced_zero (a : Option Addr) (h cap s : Nat) : sliced a 0 h cap s = .slice a h cap := by
  unfold sliced
  cases a <;> simp [Addr.add]
theorem Reads.take_ {w : World} {B n k : Nat} {A : Option Addr} {xs : List Value} (h : Reads w B 1 A n xs) (hk : k ≤ n) : Reads w B 1 A k (xs.take k) := by
  refine ⟨by rw [List.length_take, h.1]; omega, fun hn => ?_⟩
  obtain ⟨ad, e, hb, hc⟩ := h.2 (by omega)
  refine ⟨ad, e, hb, fun j u hu => hc j u ?_⟩
  rw [List.getElem?_take] at hu
  split at hu
  · exact hu
  · cases hu
theorem ownsRow_fresh (w : World) : (w.alloc (.cells #[] 3)).ownsRow w.heap.size 3 1 (.slice (some ⟨w.heap.size, 0, none⟩) 0 0) 0 [] :=
  ⟨rfl, .inr ⟨w.heap.size, 0, #[], rfl, Nat.le_refl _, heap_alloc_new w _, Nat.le_refl _, Nat.zero_le _, rfl, rfl⟩⟩
theorem ints_one {xs : List Int} : ∀ u ∈ ints xs, u.oneCell' = true := by
  intro u hu
  simp only [ints, List.mem_map] at hu
  obtain ⟨z, _, rfl⟩ := hu
  rfl
theorem own_kept_apart {w w' : World} {base e size n : Nat} {v : Value} {xs : List Value} {row : Option Nat} (h : w.ownsRow base e size v n xs) (hg : w.grownBy w' row) (hr : ∀ j, v.ownBlock = some j → row ≠ some j) : w'.ownsRow base e size v n xs :=
  h.kept hg (by
    cases hq : v.ownBlock with
    | none => exact .inl rfl
    | some j => exact .inr (Ne.symm (hr j hq)))

/-- where a slice cut from l on begins -/
@[irreducible] def cutA (a : Option Addr) (l m s : Nat) : Option Addr := if m = l then a else a.map (·.add (l * s))
theorem cutA_def (a : Option Addr) (l m s : Nat) : cutA a l m s = if m = l then a else a.map (·.add (l * s)) := by unfold cutA; rfl
theorem sliced_cut (a : Option Addr) (l h m s : Nat) : sliced a l h m s = .slice (cutA a l m s) (h - l) (m - l) := by rw [cutA_def]; rfl

/-- v is a slice of the numbers xs, apart from blocks p and g -/
def Lst (w : World) (p g : Nat) (v : Value) (xs : List Int) : Prop :=
  ∃ A c, v = .slice A xs.length c ∧ xs.length ≤ c ∧ (0 < xs.length → ∃ b off, A = some ⟨b, off, none⟩ ∧ b < w.heap.size ∧ b ≠ p ∧ b ≠ g ∧ ∀ j, j < xs.length → w.cell? ⟨b, off + j, none⟩ = some (.int .i64 (xs[j]?.getD 0)))

theorem Lst.keep {w w' : World} {p g : Nat} {v : Value} {xs : List Int} (h : Lst w p g v xs) {ks : List Nat} (ho : Only ks w w') (hk : ∀ k, k ∈ ks → k = p ∨ k = g) : Lst w' p g v xs := by
  obtain ⟨A, c, e, hc, hx⟩ := h
  refine ⟨A, c, e, hc, fun hp => ?_⟩
  obtain ⟨b, off, e2, hb, h1, h2, hcell⟩ := hx hp
  have hs := ho.size
  exact ⟨b, off, e2, by omega, h1, h2, fun j hj => (ho.cell (p := ⟨b, off + j, none⟩) (fun hm => by rcases hk _ hm with e | e <;> simp at e <;> omega) hb).trans (hcell j hj)⟩
theorem Lst.below {w w' : World} {p g : Nat} {v : Value} {xs : List Int} (h : Lst w p g v xs) (hb : Below w.heap.size w w') : Lst w' p g v xs := h.keep (ks := []) (Only.of_below hb) (by simp)
theorem Lst.drewN {w : World} {p g : Nat} {v : Value} {xs : List Int} (h : Lst w p g v xs) (n : Nat) : Lst (w.drewN n) p g v xs := h
theorem Lst.move {w : World} {p g p' g' : Nat} {v : Value} {xs : List Int} (h : Lst w p g v xs) (hp : w.heap.size ≤ p') (hg : w.heap.size ≤ g') : Lst w p' g' v xs := by
  obtain ⟨A, c, e, hc, hx⟩ := h
  refine ⟨A, c, e, hc, fun h0 => ?_⟩
  obtain ⟨b, off, e2, hb, h1, h2, hcell⟩ := hx h0
  exact ⟨b, off, e2, hb, by omega, by omega, hcell⟩
theorem Lst.keep' {w1 w' : World} {p g p' g' : Nat} {v : Value} {xs : List Int} (h : Lst w1 p' g' v xs) {ks : List Nat} (ho : Only ks w1 w') (hL : Lst w1 p g v xs) (hk : ∀ k, k ∈ ks → k = p ∨ k = g := by simp) : Lst w' p' g' v xs := by
  obtain ⟨A, c, e, hc, hx⟩ := h
  obtain ⟨A2, c2, e2, _, hx2⟩ := hL.keep ho hk
  rw [e] at e2
  cases e2
  refine ⟨A, c, e, hc, fun hp => ?_⟩
  obtain ⟨b, off, e3, hb, h1, h2, _⟩ := hx hp
  obtain ⟨b', off', e4, hb', _, _, hcell'⟩ := hx2 hp
  rw [e3] at e4
  cases e4
  exact ⟨b, off, e3, hb', h1, h2, hcell'⟩
theorem Lst.at_ {w : World} {p g c : Nat} {A : Option Addr} {xs : List Int} (h : Lst w p g (.slice A xs.length c) xs) : IntsAt w A xs := by
  obtain ⟨A', c', e, hc, hx⟩ := h
  cases e
  intro i hi
  obtain ⟨b, off, e2, hb, _, _, hcell⟩ := hx (by omega)
  exact ⟨b, off, e2, hb, hcell i hi⟩
theorem Lst.take_ {w : World} {p g c n : Nat} {A : Option Addr} {xs : List Int} (h : Lst w p g (.slice A xs.length c) xs) (hn : n ≤ xs.length) : Lst w p g (.slice A n c) (xs.take n) := by
  obtain ⟨A', c', e, hc, hx⟩ := h
  cases e
  have hl : (xs.take n).length = n := by simp; omega
  refine ⟨A, c, by rw [hl], by omega, fun h0 => ?_⟩
  obtain ⟨b, off, e2, hb, h1, h2, hcell⟩ := hx (by omega)
  refine ⟨b, off, e2, hb, h1, h2, fun j hj => ?_⟩
  rw [hcell j (by omega), List.getElem?_take, if_pos (by omega)]
theorem Lst.drop_ {w : World} {p g c n : Nat} {A : Option Addr} {xs : List Int} (h : Lst w p g (.slice A xs.length c) xs) (hn : n ≤ xs.length) : Lst w p g (.slice (cutA A n c 1) (xs.length - n) (c - n)) (xs.drop n) := by
  obtain ⟨A', c', e, hc, hx⟩ := h
  cases e
  have hl : (xs.drop n).length = xs.length - n := by simp
  refine ⟨cutA A n c 1, c - n, by rw [hl], by rw [hl]; omega, fun h0 => ?_⟩
  rw [hl] at h0
  have h3 : 0 < xs.length := by clear hx; omega
  have h4 : c ≠ n := by clear hx; omega
  obtain ⟨b, off, rfl, hb, h1, h2, hcell⟩ := hx h3
  rw [cutA_def, if_neg h4]
  refine ⟨b, off + n, by simp [Go.WideShapes.add_plain], hb, h1, h2, fun j hj => ?_⟩
  rw [hl] at hj
  have h5 : n + j < xs.length := Nat.add_lt_of_lt_sub' hj
  rw [Nat.add_assoc, hcell (n + j) h5, List.getElem?_drop]
theorem Lst.reads {w : World} {p g c : Nat} {A : Option Addr} {xs : List Int} (h : Lst w p g (.slice A xs.length c) xs) : Reads w w.heap.size 1 A xs.length (ints xs) := by
  obtain ⟨A', c', e, hc, hx⟩ := h
  cases e
  refine ⟨by simp [ints], fun h0 => ?_⟩
  obtain ⟨b, off, rfl, hb, h1, h2, hcell⟩ := hx h0
  refine ⟨_, rfl, hb, fun j u hu => ?_⟩
  have hj : j < xs.length := by
    have := (List.getElem?_eq_some_iff.1 hu).1
    simpa [ints] using this
  rw [Go.WideShapes.add_plain, hcell j hj]
  rw [← hu]
  simp [ints, hj]
theorem Lst.of_own {w : World} {B p g : Nat} {v : Value} {xs : List Int} (h : w.ownsRow B 3 1 v xs.length (ints xs)) (hp : p < B) (hg : g < B) : Lst w p g v xs := by
  obtain ⟨A, c, rfl, hc⟩ := own_form h
  refine ⟨A, c, rfl, hc, fun h0 => ?_⟩
  rcases h.2 with ⟨e, h1⟩ | ⟨b, cap, cur, e, hB, hg', _⟩
  · omega
  · simp at e
    obtain ⟨rfl, _⟩ := e
    refine ⟨b, 0, rfl, lt_of_block hg', by omega, by omega, fun j hj => ?_⟩
    rw [Nat.zero_add, h.cellAt j (by omega)]
    simp [ints, hj]

theorem ownsRow_fresh' (w : World) (b : Nat) (h : w.heap.size = b) : (w.alloc (.cells #[] 3)).ownsRow b 3 1 (.slice (some ⟨b, 0, none⟩) 0 0) 0 [] := h ▸ ownsRow_fresh w
/-- the block of a line's things, or the line's own if there is none -/
def rowOr (p : Nat) (r : Option Nat) : Nat := r.getD p
theorem Lst.lined {w w' : World} {p : Nat} {r r' : Option Nat} {v : Value} {xs : List Int} (h : Lst w p (rowOr p r) v xs) (hl : Lined p r r' w w') : Lst w' p (rowOr p r') v xs := by
  have h1 := h.keep hl.1 (fun k hk => by
    cases r with
    | none => simp at hk; exact .inl hk
    | some j => simp at hk; exact hk)
  obtain ⟨A, c, e, hc, hx⟩ := h1
  obtain ⟨A2, c2, e2, _, hx2⟩ := h
  rw [e] at e2
  cases e2
  refine ⟨A, c, e, hc, fun h0 => ?_⟩
  obtain ⟨b, off, e3, hb, h3, h4, hcell⟩ := hx h0
  obtain ⟨b', off', e4, hb', _, _, _⟩ := hx2 h0
  rw [e3] at e4
  cases e4
  refine ⟨b, off, e3, hb, h3, ?_, hcell⟩
  rcases hl.2 with rfl | ⟨k, rfl, hk⟩
  · exact h4
  · intro e5
    have : b = k := e5
    omega

end Go.Proofs.Ytfffncaonpokpaa
