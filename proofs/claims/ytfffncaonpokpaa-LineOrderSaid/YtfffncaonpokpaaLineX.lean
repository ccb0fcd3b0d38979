/- The contracts of package line with the row's block named; conditions as in Line. -/
import Derived.Test.YtfffncaonpokpaaLine
namespace Go.Proofs.Ytfffncaonpokpaa
open Go.RowKit

/-- block p is a line, whose things lie in block r (none: it has never had any) -/
def IsLineR (w : World) (p B : Nat) (r : Option Nat) (most : Int) (xs : List Int) (runs : Nat) : Prop :=
  (B ≤ p ∧ (xs.length : Int) ≤ most) ∧ ∃ v, v.ownBlock = r ∧ Blk w p 80 #[.int .i64 most, v, .int .i64 runs] ∧ w.ownsRow B 3 1 v xs.length (ints xs)
theorem IsLineR.line {w : World} {p B : Nat} {r : Option Nat} {most : Int} {xs : List Int} {runs : Nat} (h : IsLineR w p B r most xs runs) : IsLine w p B most xs runs := by
  obtain ⟨hp, v, _, h1, h2⟩ := h
  exact ⟨hp.1, v, h1, h2⟩
theorem IsLineR.le {w : World} {p B : Nat} {r : Option Nat} {most : Int} {xs : List Int} {runs : Nat} (h : IsLineR w p B r most xs runs) : (xs.length : Int) ≤ most := h.1.2
theorem IsLineR.lt {w : World} {p B : Nat} {r : Option Nat} {most : Int} {xs : List Int} {runs : Nat} (h : IsLineR w p B r most xs runs) : p < w.heap.size ∧ ∀ k, r = some k → B ≤ k ∧ k < w.heap.size ∧ k ≠ p := by
  obtain ⟨hp, v, rfl, h1, h2⟩ := h
  exact ⟨h1.lt, fun k e => ⟨(h2.lt k e).1, (h2.lt k e).2, fun e' => own_blk_ne h2 h1 (by decide) (by rw [e, e'])⟩⟩
/-- what a method may change -/
def Lined (p : Nat) (r r' : Option Nat) (w w' : World) : Prop := Only (p :: r.toList) w w' ∧ (r' = r ∨ ∃ k, r' = some k ∧ w.heap.size ≤ k)
theorem IsLineR.only {w w' : World} {p B : Nat} {r : Option Nat} {most : Int} {xs : List Int} {runs : Nat} {ks : List Nat} (h : IsLineR w p B r most xs runs) (ho : Only ks w w') (hp : p ∉ ks) (hr : ∀ k, r = some k → k ∉ ks) : IsLineR w' p B r most xs runs := by
  obtain ⟨hB, v, rfl, h1, h2⟩ := h
  exact ⟨hB, v, rfl, ho.blk h1 hp, ho.own h2 hr⟩
theorem IsLineR.below {w w' : World} {p B : Nat} {r : Option Nat} {most : Int} {xs : List Int} {runs : Nat} (h : IsLineR w p B r most xs runs) (hb : Below w.heap.size w w') : IsLineR w' p B r most xs runs :=
  h.only (ks := []) (Only.of_below hb) List.not_mem_nil (fun _ _ => List.not_mem_nil)
theorem IsLineR.drewN {w : World} {p B : Nat} {r : Option Nat} {most : Int} {xs : List Int} {runs : Nat} (h : IsLineR w p B r most xs runs) (n : Nat) : IsLineR (w.drewN n) p B r most xs runs := h
theorem IsLineR.run {w : World} {p B : Nat} {r : Option Nat} {most : Int} {xs : List Int} {runs : Nat} (h : IsLineR w p B r most xs runs) (k : Nat) : IsLineR (w.setCell ⟨p, 2, none⟩ (.int .i64 k)) p B r most xs k := by
  obtain ⟨hp, v, e, hv, ho⟩ := h
  refine ⟨hp, v, e, by simpa using hv.set_ 2 (.int .i64 k), ?_⟩
  exact ownsRow_setCell_other ho (own_blk_ne ho hv (by decide)) _
theorem Lined.set {p : Nat} {r : Option Nat} {w w1 : World} (ho : Only (p :: r.toList) w w1) (i : Nat) (u : Value) : Lined p r r w (w1.setCell ⟨p, i, none⟩ u) := ⟨ho.setCell (.inl (by simp)) _, .inl rfl⟩

set_option maxHeartbeats 400000 in
theorem lineR_new (most : Int) (h1 : 1 ≤ most) (h2 : most ≤ 32) (w : World) :
    Calls Try.prog 15 #[.int .i64 most] w fun e w' => e = .returned (.tuple #[.pointer (some ⟨w.heap.size, 0, none⟩), .int .i64 0]) ∧ IsLineR w' w.heap.size w.heap.size none most [] 0 ∧ Below w.heap.size w w' := by
  go_enter Try.func15, Try.ntmps15
  go_wp2
  go_ret2
  exact ⟨rfl, ⟨⟨Nat.le_refl _, by simp; omega⟩, _, rfl, Blk.new _ _ _, World.ownsRow_nil _ _ _ _⟩, (Below.refl _ _).alloc (Nat.le_refl _) _⟩

set_option maxHeartbeats 400000 in
theorem lineR_start {p B : Nat} {r : Option Nat} {most : Int} {xs : List Int} {runs : Nat} (w : World) (h : IsLineR w p B r most xs runs) (hr : runs < xs.length) (hl : xs.length ≤ 1000000) :
    Calls Try.prog 19 #[.pointer (some ⟨p, 0, none⟩)] w fun e w' => e = .returned (.bool true) ∧ IsLineR w' p B r most xs (runs + 1) ∧ Lined p r r w w' := by
  have hI := Lib.hid h
  obtain ⟨hp, v, _, hv, ho⟩ := h
  obtain ⟨A, cap, rfl, _⟩ := own_form ho
  have h1 := hv.cell 1
  have h2 := hv.cell 2
  have f2 := hv.frozen 2
  simp at h1 h2
  clear hv ho
  have hc : ((runs : Int) == (xs.length : Int)) = false := by rw [beq_eq_false_iff_ne]; omega
  go_enter Try.func19, Try.ntmps19
  go_wp2
  go_quiet (fail)
  go_wp2
  go_ret
  exact ⟨rfl, by have := (hI.out.drewN nq).run (runs + 1); simpa using this, Lined.set (Only.refl.drewN nq) _ _⟩

set_option maxHeartbeats 400000 in
theorem lineR_stop {p B : Nat} {r : Option Nat} {most : Int} {xs : List Int} {runs : Nat} (w : World) (h : IsLineR w p B r most xs (runs + 1)) (hl : runs ≤ 1000000) :
    Calls Try.prog 20 #[.pointer (some ⟨p, 0, none⟩)] w fun e w' => e = .returned (.bool true) ∧ IsLineR w' p B r most xs runs ∧ Lined p r r w w' := by
  have hI := Lib.hid h
  obtain ⟨hp, v, _, hv, ho⟩ := h
  have h2 := hv.cell 2
  have f2 := hv.frozen 2
  simp at h2
  clear hv ho
  have hc : ((runs : Int) + 1 == 0) = false := by rw [beq_eq_false_iff_ne]; omega
  go_enter Try.func20, Try.ntmps20
  go_wp2
  go_ret
  exact ⟨rfl, by have := hI.out.run runs; simpa using this, Lined.set Only.refl _ _⟩

set_option maxHeartbeats 800000 in
theorem lineR_add {p B : Nat} {r : Option Nat} {most : Int} {xs : List Int} {runs : Nat} (w : World) (h : IsLineR w p B r most xs runs) (x : Int) (hf : (xs.length : Int) ≠ most) (hl : xs.length ≤ 1000000) (hB : B ≤ w.heap.size) :
    Calls Try.prog 18 #[.pointer (some ⟨p, 0, none⟩), .int .i64 x] w fun e w' => e = .returned (.int .i64 0) ∧ ∃ r', IsLineR w' p B r' most (xs ++ [x]) runs ∧ Lined p r r' w w' := by
  obtain ⟨i0, hi, hz0, hz1, hz2⟩ := info_parts info_int
  obtain ⟨hp, v, hvr, hv, ho⟩ := h
  have hpl := hv.lt
  have hne := own_blk_ne ho hv (by decide)
  obtain ⟨A, cap, rfl, _⟩ := own_form ho
  have h0 := hv.cell 0
  have h1 := hv.cell 1
  simp at h0 h1
  have hc : ((xs.length : Int) == most) = false := by rw [beq_eq_false_iff_ne]; omega
  have HLE := Lib.hid (show ((xs ++ [x]).length : Int) ≤ most by have := hp.2; simp; omega)
  clear hf
  have hvH := Lib.hid hv
  have HVR := Lib.hid hvr
  clear hvr
  have hnH := Lib.hid hne
  clear hv hne
  go_enter Try.func18, Try.ntmps18
  go_wp2
  go_quiet (fail)
  go_wp2_with (at_builtin; refine wpList_append_own_at _ rfl (.tmp 19) (.tmp 21) 34 rfl B 3 i0 (.int .i64 0) 1 8 Try.underlying34 hi hz0 hz1 hz2 rfl (by decide) _ _ _ rfl (World.ownsRow.alloc (w := w.drewN nq) ho _) ⟨w.heap.size, 0, none⟩ 1 1 [.int .i64 x] rfl rfl ?c1 ?c2 ?c3 ?c4 ?c5 ?_)
  case c1 => exact cell_one_new _ _ _
  case c2 => simp [Value.oneCell']
  case c3 => unfold maxLen; omega
  case c4 => omega
  case c5 => simp; omega
  intro v' w1 hown' hgrow _ hvb
  have hv1 : Blk w1 p 80 #[.int .i64 most, .slice A xs.length cap, .int .i64 runs] := (((hvH.out.drewN nq).alloc _)).grown hgrow (fun e => hnH.out e.symm)
  have hh0 := hv1.cell 0
  have hh1 := hv1.cell 1
  have hf1 := hv1.frozen 1
  simp at hh0 hh1
  have hoo : Hid (Only (p :: r.toList) w w1) := ((Only.refl.drewN nq).alloc _).grown hgrow (fun k e => by rw [HVR.out] at e; subst e; exact .inl (by simp))
  have hrr : Hid (v'.ownBlock = r ∨ ∃ k, v'.ownBlock = some k ∧ w.heap.size ≤ k) := by
    rcases hvb with e | e
    · exact .inl (e.trans HVR.out)
    · exact .inr ⟨_, e, by simp⟩
  clear hvb
  obtain ⟨g', cap', rfl⟩ := ownsRow_succ hown'
  have hvH1 := Lib.hid hv1
  have hnH1 := Lib.hid (own_blk_ne hown' hv1 (by decide))
  clear hv1 hgrow
  go_wp2
  go_ret
  refine ⟨rfl, _, ⟨⟨hp.1, HLE.out⟩, _, rfl, by simpa using hvH1.out.set_ 1 _, ?_⟩, hoo.out.setCell (.inl (by simp)) _, hrr.out⟩
  have := ownsRow_setCell_other (a := ⟨p, 1, none⟩) hown' hnH1.out (.slice (some ⟨g', 0, none⟩) (xs.length + 1) cap')
  simpa [ints] using this
set_option maxHeartbeats 800000 in
theorem lineR_remove {p B : Nat} {r : Option Nat} {most : Int} {xs : List Int} {runs : Nat} (w : World) (h : IsLineR w p B r most xs runs) (k : Nat) (hk : k < xs.length) (hl : xs.length ≤ 1000000) (hr : runs ≤ xs.length) :
    Calls Try.prog 21 #[.pointer (some ⟨p, 0, none⟩), .int .i64 k] w fun e w' => e = .returned (.int .i64 0) ∧ IsLineR w' p B r most (xs.take k ++ xs.drop (k + 1)) (runsBut k runs) ∧ Lined p r r w w' := by
  obtain ⟨hp, v, hvr, hv, ho⟩ := h
  have hne := own_blk_ne ho hv (by decide)
  obtain ⟨g, cap, rfl⟩ : ∃ g cap, v = .slice (some ⟨g, 0, none⟩) xs.length cap := by
    obtain ⟨n, hn⟩ : ∃ n, xs.length = n + 1 := ⟨xs.length - 1, by omega⟩
    rw [hn] at ho ⊢
    exact ownsRow_succ ho
  have h1 := hv.cell 1
  have h2 := hv.cell 2
  simp at h1 h2
  have hgB := ho.lt g rfl
  have hvH := Lib.hid hv
  have HVR := Lib.hid hvr
  clear hvr
  have hnH := Lib.hid hne
  have hoH := Lib.hid ho
  clear hv hne
  go_enter Try.func21, Try.ntmps21
  go_wp2_with fail
  refine (delete_own ho hk rfl).mono ?_
  rintro e w1 ⟨rfl, hown', hgrow⟩
  have hv1 : Blk w1 p 80 #[.int .i64 most, .slice (some ⟨g, 0, none⟩) xs.length cap, .int .i64 runs] := hvH.out.grown hgrow (fun e => hnH.out e.symm)
  have hh1 := hv1.cell 1
  have hh2 := hv1.cell 2
  have hf1 := hv1.frozen 1
  have hf2 := hv1.frozen 2
  simp at hh1 hh2
  have hvH1 := Lib.hid hv1
  have hnH1 := Lib.hid (own_blk_ne hown' hv1 (by decide))
  have hlH := Lib.hid (take_drop_length hk)
  have HLE := Lib.hid (show ((xs.take k ++ xs.drop (k + 1)).length : Int) ≤ most by have := hp.2; rw [List.length_append, List.length_take, List.length_drop]; omega)
  have hO1 : Hid (Only (p :: r.toList) w w1) := Only.refl.grown hgrow (fun j e => by cases e; exact .inl (by rw [← HVR.out]; simp [Value.ownBlock]))
  clear hv1 hgrow ho h1 h2
  by_cases hkr : k < runs
  · have hr1 : 1 ≤ runs := by omega
    go_wp2
    go_ret
    rw [show runsBut k runs = runs - 1 from if_pos hkr]
    refine ⟨rfl, ⟨⟨hp.1, HLE.out⟩, .slice (some ⟨g, 0, none⟩) (xs.length - 1) cap, HVR.out, ?_, ?_⟩, (hO1.out.setCell (.inl (by simp)) _).setCell (.inl (by simp)) _, .inl rfl⟩
    · have := (hvH1.out.set_ 1 (.slice (some ⟨g, 0, none⟩) (xs.length - 1) cap)).set_ 2 (.int .i64 ((runs : Int) - 1))
      rw [show ((runs - 1 : Nat) : Int) = (runs : Int) - 1 by omega]
      simpa using this
    · rw [hlH.out]
      exact ownsRow_setCell_other (a := ⟨p, 2, none⟩) (ownsRow_setCell_other (a := ⟨p, 1, none⟩) hown' hnH1.out _) hnH1.out _
  · go_wp2
    go_ret
    rw [show runsBut k runs = runs from if_neg hkr]
    refine ⟨rfl, ⟨⟨hp.1, HLE.out⟩, .slice (some ⟨g, 0, none⟩) (xs.length - 1) cap, HVR.out, by simpa using hvH1.out.set_ 1 (.slice (some ⟨g, 0, none⟩) (xs.length - 1) cap), ?_⟩, hO1.out.setCell (.inl (by simp)) _, .inl rfl⟩
    rw [hlH.out]
    exact ownsRow_setCell_other (a := ⟨p, 1, none⟩) hown' hnH1.out _

end Go.Proofs.Ytfffncaonpokpaa
