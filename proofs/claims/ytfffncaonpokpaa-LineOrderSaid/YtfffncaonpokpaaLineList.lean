/- What the statements' list and same tell of a line; conditions: at most a million things. -/
import Derived.Test.YtfffncaonpokpaaIter
namespace Go.Proofs.Ytfffncaonpokpaa
open Go.RowKit Go.Shelf

attribute [local go_sem] Oper.semAt_some

theorem pairs_snd (zs : List Int) : (pairs zs zs.length).map (·.2) = zs := by
  apply List.ext_getElem
  · simp [pairs, upto]
  · intro i h1 h2
    simp [pairs, upto, h2]
theorem pairs_fst {zs : List Int} {k : Nat} {ini : List (Nat × Int)} {x : Nat × Int} (h : ini ++ [x] = pairs zs k) : x.1 = ini.length := by
  have hl : (pairs zs k).length = k := upto_length _ _
  rw [← h] at hl
  simp at hl
  have h2 : (ini ++ [x])[ini.length]? = (pairs zs k)[ini.length]? := by rw [h]
  rw [List.getElem?_append_right (Nat.le_refl _)] at h2
  simp [pairs, upto] at h2
  rw [List.getElem?_range (by omega)] at h2
  simp at h2
  rw [h2]

set_option maxRecDepth 100000 in
set_option maxHeartbeats 2000000 in
theorem list24_in (F : Fence) (n : Nat) (h39 : F.fn 39) (h40 : F.fn 40) (h57 : F.fn 57) (h63 : F.fn 63) (hro : F.round = none) (hn : 4 ≤ n)
    {p B : Nat} {most : Int} {xs : List Int} {runs : Nat} (w : World) (h : IsLine w p B most xs runs) (hl : xs.length ≤ 1000000) :
    CallsIn F n Try.prog 39 #[.pointer (some ⟨p, 0, none⟩)] w fun e W' => ∃ v, e = .returned v ∧ W'.ownsRow w.heap.size 3 1 v xs.length (ints xs) ∧ Below w.heap.size w W' := by
  have h1 : 1 ≤ n := by omega
  obtain ⟨i0, hi, hz0, hz1, hz2⟩ := info_parts info_int
  obtain ⟨hp, v, hv, ho⟩ := h
  have hI := intsBelow_own ho
  obtain ⟨A, cap, rfl, _⟩ := own_form ho
  have hpl := hv.lt
  have hcl := hv.cell 1
  simp at hcl
  have bR := Boxed.new w 34 (.slice none 0 0)
  have bO := Boxed.new (w.alloc (.cells #[.slice none 0 0] 34)) 34 (.slice none 0 0)
  have bN := Boxed.new ((w.alloc (.cells #[.slice none 0 0] 34)).alloc (.cells #[.slice none 0 0] 34)) 34 (.slice A xs.length cap)
  rw [World.size_alloc] at bO bN
  rw [World.size_alloc] at bN
  have hB0 : Below w.heap.size w (((w.alloc (.cells #[.slice none 0 0] 34)).alloc (.cells #[.slice none 0 0] 34)).alloc (.cells #[.slice A xs.length cap] 34)) := (((Below.refl _ w).alloc (Nat.le_refl _) _).alloc (by simp) _).alloc (by simp; omega) _
  have hcl2 : ((w.alloc (.cells #[.slice none 0 0] 34)).alloc (.cells #[.slice none 0 0] 34)).cell? ⟨p, 1, none⟩ = some (.slice A xs.length cap) := by
    rw [World.cell?_alloc_lt _ _ _ (by simp; omega), World.cell?_alloc_lt _ _ _ hpl]; exact hcl
  have HI := Lib.hid hI
  clear hI ho hv hcl
  refine callsIn_of_wp_marks Try.func39 rfl h39 ?_ hro
  simp only [Try.ntmps39, List.size_toArray, List.length_cons, List.length_nil, Nat.reduceAdd, Nat.reduceSub, Array.replicate_succ, Array.replicate_zero, List.push_toArray, List.append_toArray, List.nil_append, List.cons_append]
  gi_wp2_with (gi_at_call 40; refine (lineAll_in F (n - 1) h40 h57 (by omega) hro p _ _ _ _ hcl2).mono ?_; rintro e w' ⟨rfl, rfl⟩)
  refine wpIn_rangeFunc_ownG hro h1 (gf := 63) (lb := #[.pointer (some ⟨w.heap.size + 1 + 1, 0, none⟩)]) rfl h63 (enters_of Try.func63 (by kernel_rfl) rfl)
    (all_stops F (n - 1) h63 hro (by omega) (w.heap.size + 1 + 1) w.heap.size _ xs (by omega) _ (by simp) (by simp; omega) bN.cell (HI.out.below hB0)) belowK_t (belowK_b (by simp; omega)) (Below.refl _ _) (fun _ => rfl)
    (fun pre W => (∃ v, Boxed W (w.heap.size + 1) 34 v ∧ W.ownsRow w.heap.size 3 1 v pre.length (ints (pre.map (·.2))) ∧ Boxed W w.heap.size 34 (.slice none 0 0)) ∧ Below w.heap.size w W)
    (fun c (pre : List (Nat × Int)) _ => c = .ret ∧ ∃ (ini : List (Nat × Int)) (x : Nat × Int), pre = ini ++ [x] ∧ x.1 ≠ ini.length)
    ?own (fun _ _ _ _ _ hs _ _ => hs) ⟨⟨_, bO.alloc _, World.ownsRow_nil _ _ _ _, (bR.alloc _).alloc _⟩, hB0⟩
    (fun x => { tmps := #[.pointer (some ⟨p, 0, none⟩), undef, .pointer (some ⟨w.heap.size, 0, none⟩), .pointer (some ⟨w.heap.size + 1, 0, none⟩), .int .i64 (x.1 : Int), .int .i64 x.2, .pointer (some ⟨p, 0, none⟩), .func (.func 63) #[] #[.pointer (some ⟨w.heap.size + 1 + 1, 0, none⟩)], .int .i64 (x.1 : Int), .int .i64 x.2, undef, undef, undef, undef, undef, undef, undef, undef, undef, undef], defers := [] }) ?assign ?body ?done ?stop
  case own =>
    refine OwnFrom.and (Own.from ?_ _) (ownFrom_below (Nat.le_refl _) (by simp; omega))
    rintro s X Y row ⟨v, hv, hr, hb⟩ hg hrow
    obtain ⟨v', hv', hr', _⟩ := holdsRow_own (β := List (Nat × Int)) w.heap.size (w.heap.size + 1) 34 3 1 (fun pre => pre.length) (fun pre => ints (pre.map (·.2))) (fun _ _ => True) s X Y row ⟨v, hv, hr, trivial⟩ hg hrow
    refine ⟨v', hv', hr', hb.kept hg (fun e' => ?_)⟩
    obtain ⟨o, ho, hc⟩ := hrow _ e'.symm
    rw [show X.heap[w.heap.size]? = _ from hb] at ho; cases ho; cases hc
  case assign =>
    intro l x W K hK
    gi_wp2
    exact hK
  case body =>
    rintro l pre x W ⟨⟨v, hv, hrow, hres⟩, hB⟩ hlt
    have hvv := Lib.hid hv
    have hs := hB.size
    by_cases hx : x.1 = pre.length
    · obtain ⟨x1, x2⟩ := x
      obtain rfl : x1 = pre.length := hx
      obtain ⟨A', c', rfl, _⟩ := own_form hrow
      have hc := hv.cell
      gi_wp2_with (gi_at_builtin; refine wpListIn_append_own _ rfl _ _ 34 rfl w.heap.size 3 i0 (.int .i64 0) 1 8 Try.underlying34 hi hz0 hz1 hz2 rfl (by decide) _ _ _ rfl (hrow.alloc _) ⟨W.heap.size, 0, none⟩ 1 1 [.int .i64 x2] rfl rfl (cell_one_new _ _ _) (by simp [Value.oneCell']) (by unfold maxLen; omega) (by omega) (by simp; omega) ?_; intro v' w1 hown' hgrow _; obtain ⟨g', cap', rfl⟩ := ownsRow_succ hown'; obtain ⟨hv1, hv2, hr2, hk2, hb2⟩ := hv.appended (by decide) hrow hB.size (by omega) hown' hgrow; have hc1 := hv1.cell; have hf1 := hv1.frozen)
      have hres2 : Boxed (w1.setCell ⟨w.heap.size + 1, 0, none⟩ (.slice (some ⟨g', 0, none⟩) (pre.length + 1) cap')) w.heap.size 34 (.slice none 0 0) :=
        ((hres.alloc (.cells #[.int .i64 x2] 3)).kept hgrow (hres.not_row (by decide) hrow)).kept (grownBy_setCell' w1 (w.heap.size + 1) _) (by simp)
      exact ⟨hk2.from _, hb2, ⟨_, hv2, by simpa [ints] using hr2, hres2⟩, hB.trans hb2⟩
    · have hne : ((x.1 : Int) != (pre.length : Int)) = true := by rw [bne_iff_ne]; omega
      obtain ⟨A', c', rfl, _⟩ := own_form hrow
      have hc := hv.cell
      have hcr : ∀ o, (W.alloc o).cell? ⟨w.heap.size, 0, none⟩ = some (.slice none 0 0) := fun o => (hres.alloc o).cell
      have hfr : ∀ o, (W.alloc o).frozen? ⟨w.heap.size, 0, none⟩ = false := fun o => (hres.alloc o).frozen
      gi_wp2
      exact ⟨((KeepsOthers.alloc _ _).trans (KeepsOthers.setCell _ _ _)).from _, rfl, pre, x, rfl, hx⟩
  case done =>
    rintro D ys W hD rfl ⟨⟨v, hv, hrow, hres⟩, hB⟩ hK
    have hrow' : W.ownsRow w.heap.size 3 1 v xs.length (ints xs) := by
      have := hrow
      rw [pairs_snd, show (pairs xs xs.length).length = xs.length from upto_length _ _] at this
      exact this
    clear hrow
    obtain ⟨A', c', rfl, _⟩ := own_form hrow'
    have hc := hv.cell
    have hcr := hres.cell
    have hfr := hres.frozen
    gi_wp2
    have hK' := (KeepsOthers.setCell W ⟨w.heap.size, 0, none⟩ (.slice A' xs.length c')).same D _ hK rfl
    refine ⟨by simp, .inl ⟨_, _, rfl, run_takeDeferred hK', ?_⟩⟩
    have hres2 := hres.set (.slice A' xs.length c')
    have hc5 := cell_kept hres2.cell (grownBy_putObj' _ D (.deferred none)) (fun r e => by cases e; exact ⟨_, hK', rfl⟩)
    refine ⟨.slice A' xs.length c', ?_, _, rfl, ownsRow_putObj (ownsRow_setCell_other hrow' (fun e => (hres.not_row (by decide) hrow') e.symm) _) _ hK' rfl, (hB.setCell (p := ⟨w.heap.size, 0, none⟩) (Nat.le_refl _) _).trans (belowK_b (w := w) (Nat.le_refl _) _ D _ _ (by simp at hD; omega) hK' rfl rfl)⟩
    simp [results, Try.f39, go_sem, hc5]
  case stop =>
    rintro D c pre W _ ⟨k, _, hk⟩ ⟨_, ini, x, hpre, hne⟩ _
    exact absurd (pairs_fst (hpre.symm.trans hk)) hne


theorem list24 {p B : Nat} {most : Int} {xs : List Int} {runs : Nat} (w : World) (h : IsLine w p B most xs runs) (hl : xs.length ≤ 1000000) :
    Calls Try.prog 39 #[.pointer (some ⟨p, 0, none⟩)] w fun e W' => ∃ v, e = .returned v ∧ W'.ownsRow w.heap.size 3 1 v xs.length (ints xs) ∧ Below w.heap.size w W' :=
  (callsIn_wide (n := 4)).1 (list24_in Fence.wide 4 trivial trivial trivial trivial rfl (by omega) w h hl)

set_option maxRecDepth 100000 in
set_option maxHeartbeats 1000000 in
theorem same24 (w : World) (A A' : Option Addr) (c c' : Nat) (xs : List Int) (hx : IntsAt w A xs) (hy : IntsAt w A' xs) (hl : xs.length ≤ 1000000) :
    Calls Try.prog 38 #[.slice A xs.length c, .slice A' xs.length c'] w fun e w' => e = .returned (.bool true) ∧ ∃ n, w.drewN n = w' := by
  go_enter Try.func38, Try.ntmps38
  go_wp2_with fail
  go_loopw [13] (fun i wr => ∃ k n : Nat, k ≤ xs.length ∧ i = .int .i64 k ∧ wr = w.drewN n) (fun i _ => xs.length - (intOf i).toNat)
  case atStart => exact ⟨0, 0, by omega, rfl, rfl⟩
  case round =>
    obtain ⟨k, n, hk, rfl, rfl⟩ := hrel
    by_cases hlt : k < xs.length
    · obtain ⟨b, off, rfl, _, hc⟩ := hx k hlt
      obtain ⟨b', off', rfl, _, hc'⟩ := hy k hlt
      generalize xs[k]?.getD 0 = z at hc hc'
      clear hx hy
      go_wp2_with fail
      go_quiet (fail)
      go_wp2
      go_roundw
      case rel => exact ⟨k + 1, n + nq, by omega, by go_num, rfl⟩
      case measure => simp [intOf]; omega
    · obtain rfl : k = xs.length := by omega
      go_wp2
      go_ret
      exact ⟨rfl, n, rfl⟩

end Go.Proofs.Ytfffncaonpokpaa
