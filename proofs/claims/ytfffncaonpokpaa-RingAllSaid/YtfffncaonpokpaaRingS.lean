/- (*Ring).Shift; conditions: the receiver is a ring. -/
import Derived.Test.YtfffncaonpokpaaRingI
import Derived.Deep.RegionWith
namespace Go.Proofs.Ytfffncaonpokpaa
open Go.RowKit Go.Shelf

attribute [local go_sem] Oper.semAt_some
attribute [local go_sem ↓] Go.wp_at_zero Go.wp_at_succ

theorem pairs_take {zs : List Int} {n : Nat} (h : n ≤ zs.length) : (pairs zs n).map (·.2) = zs.take n := by
  apply List.ext_getElem
  · simp [pairs, upto]; omega
  · intro i h1 h2
    have : i < zs.length := by simp at h2; omega
    simp [pairs, upto, this]
theorem pairs_mem {zs : List Int} {n k : Nat} (h : n < k) : (n, zs[n]?.getD 0) ∈ pairs zs k := by
  simp only [pairs, upto, List.mem_map, List.mem_range]
  exact ⟨n, h, rfl⟩
theorem pairs_ini {zs : List Int} {k : Nat} {ini : List (Nat × Int)} {x : Nat × Int} (h : ini ++ [x] = pairs zs k) : ini = pairs zs ini.length := by
  have hl : (pairs zs k).length = k := upto_length _ _
  have hk : k = ini.length + 1 := by rw [← h] at hl; simp at hl; omega
  subst hk
  rw [pairs, upto_succ] at h
  exact (List.append_inj h (by rw [upto_length])).1

set_option maxHeartbeats 1000000 in
theorem ring_shift_no {p g size : Nat} {xs : List Int} (w : World) (h : IsRing w p g size xs) (n : Int) (hn : n < 1 ∨ (xs.length : Int) < n) :
    Calls Try.prog 26 #[.pointer (some ⟨p, 0, none⟩), .int .i64 n] w fun e w' => e = .returned (.slice none 0 0) ∧ Below w.heap.size w w' := by
  obtain ⟨cap, first, h0, h1, h2, hf, hcap, hx⟩ := h.at_
  have hl := h.len_le
  have hs := h.1
  have hpl := h.lt.1
  clear hx
  rcases hn with hn | hn
  · go_enter Try.func26, Try.ntmps26
    go_wp2_with fail
    go_quiet (fail)
    go_wp2
    go_ret
    exact ⟨rfl, below_drewN ((Below.refl _ w).alloc (Nat.le_refl _) _) _⟩
  · have hn0 : ¬ n < 1 := by omega
    go_enter Try.func26, Try.ntmps26
    go_wp2_with fail
    go_quiet (fail)
    go_wp2
    go_ret
    exact ⟨rfl, below_drewN ((Below.refl _ w).alloc (Nat.le_refl _) _) _⟩



/-- what a Shift's loop holds: the things it took, its own boxes -/
def ShH (w : World) (p n : Nat) (ys : List (Nat × Int)) (W : World) : Prop :=
  (∃ v, Boxed W (w.heap.size + 1) 34 v ∧ W.ownsRow (w.heap.size + 1) 3 1 v ys.length (ints (ys.map (·.2))) ∧ Boxed W w.heap.size 3 (.int .i64 n) ∧ Boxed W (w.heap.size + 1 + 1) 35 (.pointer (some ⟨p, 0, none⟩))) ∧ Below w.heap.size w W
theorem shH_own (w : World) (p n : Nat) : OwnFrom (w.heap.size + 1 + 1 + 1) (fun ys W => ShH w p n ys W) := by
  refine OwnFrom.and (Own.from ?_ _) (ownFrom_below (Nat.le_refl _) (by omega))
  rintro s X Y row ⟨v, hv, hr, hb, hb2⟩ hg hrow
  obtain ⟨v', hv', hr', _⟩ := holdsRow_own (β := List (Nat × Int)) (w.heap.size + 1) (w.heap.size + 1) 34 3 1 (fun pre => pre.length) (fun pre => ints (pre.map (·.2))) (fun _ _ => True) s X Y row ⟨v, hv, hr, trivial⟩ hg hrow
  exact ⟨v', hv', hr', Boxed.ofRow hb hg hrow, Boxed.ofRow hb2 hg hrow⟩

set_option maxRecDepth 100000 in
set_option maxHeartbeats 4000000 in
theorem ring_shift_yes {p g size : Nat} {xs : List Int} (w : World) (h : IsRing w p g size xs) (n : Nat) (hn : 1 ≤ n) (hnl : n ≤ xs.length) :
    Calls Try.prog 26 #[.pointer (some ⟨p, 0, none⟩), .int .i64 n] w fun e w' => ∃ v, e = .returned v ∧ w'.ownsRow w.heap.size 3 1 v n (ints (xs.take n)) ∧ IsRing w' p g size (xs.drop n) ∧ Only [p, g] w w' := by
  obtain ⟨i0, hi, hz0, hz1, hz2⟩ := info_parts info_int
  refine (callsIn_wide (n := 4)).1 ?_
  refine callsIn_of_wp_marks Try.func26 rfl trivial ?_ rfl
  have hl := h.len_le
  have hs := h.1
  have hpl := h.lt.1
  have hgl := h.lt.2
  have hH := Lib.hid h
  obtain ⟨hsz, hne, cap, first, buf, hv, ho, hr, hbl⟩ := h
  have hF := fun (W : World) hv ho => ring_forget_raw p g cap first size 0 n buf W hsz (fun hs => by have := hr.2.1 (by omega); omega) hbl (by omega) (.int .i64 xs.length) 0 (n : Int) rfl (by omega) hv ho
  have hff : first < size := by have := hr.2.1 (by omega); omega
  have hrt := (forgot_from n 0 buf (RBfrom.of_ hr) (by omega)).shift_ (by omega) (by rw [forgot_length]; omega)
  rw [forgot_length, hbl, Nat.zero_add] at hrt
  have hfl := forgot_length first n 0 buf
  have HF := Lib.hid hF
  have HR := Lib.hid (And.intro hrt hfl)
  have HV := Lib.hid (And.intro hv ho)
  have c0 := hv.cell 0
  have c1 := hv.cell 1
  have c2 := hv.cell 2
  simp at c0 c1 c2
  have g1 : ¬ ((n : Int) < 1) := by omega
  have g2 : ¬ ((xs.length : Int) < (n : Int)) := by omega
  clear hF hrt hfl hr hv ho
  simp only [Try.ntmps26, List.size_toArray, List.length_cons, List.length_nil, Nat.reduceAdd, Nat.reduceSub, Array.replicate_succ, Array.replicate_zero, List.push_toArray, List.append_toArray, List.nil_append, List.cons_append]
  refine wpIn_wide.2 ?_
  go_wp2_with fail
  go_quiet (fail)
  go_wp2_with (go_at_call 45; refine (callsIn_wide.1 (ringAll_in Fence.wide 4 trivial rfl p _)).mono ?_; rintro e w1 ⟨rfl, rfl⟩)
  generalize hQQ : Exit.inBlock 0 _ = QQ
  have hx0 : ∀ a W, QQ .normal a W → QQ (.exit 0) a W := by subst hQQ; exact fun _ _ h => h
  have key : ∀ D W, w.heap.size ≤ D → ShH w p n (pairs xs n) W → W.heap[D]? = some (.deferred (some [])) → QQ .normal { tmps := #[.pointer (some ⟨p, 0, none⟩), .int .i64 n, undef, .pointer (some ⟨w.heap.size, 0, none⟩), .slice none 0 0, .pointer (some ⟨w.heap.size + 1, 0, none⟩), undef, undef, .int .i64 n, .bool (decide ((n : Int) < 1)), .bool (decide ((n : Int) < 1)), .int .i64 n, .pointer (some ⟨p, 0, none⟩), .pointer (some ⟨p, 0, none⟩), .pointer (some ⟨p, 2, none⟩), .int .i64 xs.length, .bool false, .bool (decide ((n : Int) < 1)), .pointer (some ⟨p, 0, none⟩), .func (.func 58) #[] #[.pointer (some ⟨w.heap.size + 1 + 1, 0, none⟩)], undef, undef, undef, undef, undef, undef, undef, undef, undef, undef, undef, undef, undef, undef, undef, undef, undef, undef, undef, undef, undef, undef, undef, undef, undef, undef, undef, undef], defers := [{ target := .collected D, args := #[] }] } W := by
    subst hQQ
    clear hx0
    rintro D W hD ⟨⟨v, hbv, hrow, hbn, hbp⟩, hB⟩ hK
    rw [pairs_take hnl, show (pairs xs n).length = n from upto_length _ _] at hrow
    have hrD := hrow
    obtain ⟨A', c', rfl, _⟩ := own_form hrow
    have d0 := hbn.cell
    have d1 := hbv.cell
    have hvW := (Only.of_below hB).blk HV.out.1 List.not_mem_nil
    have hoW := (Only.of_below hB).own HV.out.2 (fun k e => List.not_mem_nil)
    have HA := Lib.hid (And.intro hbn (And.intro hbv (And.intro hrow hB)))
    clear hbv hrow hB hrD hbp
    go_wp2_with fail
    refine (HF.out W hvW hoW).mono ?_
    rintro e w1 ⟨rfl, hv1, ho1, hg1⟩
    have hbn1 := HA.out.1.kept hg1 (by intro e; cases e; omega)
    have hbv1 := HA.out.2.1.kept hg1 (by intro e; cases e; omega)
    have hrow1 := HA.out.2.2.1.kept hg1 (.inr (by intro e; have := (HA.out.2.2.1.lt g e).1; omega))
    have hK1 : w1.heap[D]? = some (.deferred (some [])) := (hg1.block D (lt_of_block hK) (by intro e; cases e; omega)).trans hK
    have p0 := hv1.cell 0
    have p1 := hv1.cell 1
    have p2 := hv1.cell 2
    have f1 := hv1.frozen 1
    have f2 := hv1.frozen 2
    simp at p0 p1 p2
    have d0' := hbn1.cell
    have d1' := hbv1.cell
    have PL : Hid (∀ W', W'.cell? ⟨p, 0, none⟩ = some (.slice (some ⟨g, 0, none⟩) size cap) → W'.cell? ⟨p, 1, none⟩ = some (.int .i64 first) → Calls Try.prog 51 #[.pointer (some ⟨p, 0, none⟩), .int .i64 n] W' fun e w' => e = .returned (.int .i64 ((first + n) % size : Nat)) ∧ ∃ n, W'.drewN n = w') :=
      fun W' e0 e1 => ring_place_raw p g cap first size n W' (by omega) hs hff (by omega) e0 e1
    have HR2 := HR.out
    generalize (first + n) % size = m at PL HR2
    have HZ := Lib.hid (And.intro HR2 (And.intro hv1 (And.intro ho1 (And.intro hg1 (And.intro hbn1 (And.intro hbv1 (And.intro hrow1 hK1)))))))
    have FIN : ∀ k We, ((w1.drewN k).setCell ⟨p, 1, none⟩ (.int .i64 (m : Int))).setCell ⟨p, 2, none⟩ (.int .i64 ((xs.length : Int) - (n : Int))) = We → We.heap[D]? = some (.deferred (some [])) ∧ We.cell? ⟨w.heap.size + 1, 0, none⟩ = some (.slice A' n c') ∧ (We.putObj D (.deferred none)).ownsRow w.heap.size 3 1 (.slice A' n c') n (ints (xs.take n)) ∧ IsRing (We.putObj D (.deferred none)) p g size (xs.drop n) ∧ Only [p, g] w (We.putObj D (.deferred none)) := by
      intro k We hWe
      have e1 : Blk We p 83 #[.slice (some ⟨g, 0, none⟩) size cap, .int .i64 m, .int .i64 (xs.drop n).length] := by
        have := ((hv1.drewN k).set_ 1 (.int .i64 (m : Int))).set_ 2 (.int .i64 ((xs.length : Int) - (n : Int)))
        rw [hWe] at this
        rw [show (((xs.drop n).length : Nat) : Int) = (xs.length : Int) - (n : Int) by simp; omega]
        simpa using this
      have e2 : We.ownsRow 0 3 1 (.slice (some ⟨g, 0, none⟩) size cap) size (ints (forgot buf first n 0)) := by
        rw [← hWe]
        exact ownsRow_setCell_other (ownsRow_setCell_other (own_drewN ho1 k) (by simp [Value.ownBlock, hne]) _) (by simp [Value.ownBlock, hne]) _
      have hpr : (Value.slice A' n c').ownBlock ≠ some p := fun e => by have := (hrow1.lt p e).1; omega
      have e3 : We.ownsRow (w.heap.size + 1) 3 1 (.slice A' n c') n (ints (xs.take n)) := by
        rw [← hWe]
        exact ownsRow_setCell_other (ownsRow_setCell_other (own_drewN hrow1 k) hpr _) hpr _
      have e4 : We.heap[D]? = some (.deferred (some [])) := by
        rw [← hWe]
        rw [Below.heap_setCell _ _ _ D (by dsimp only; omega), Below.heap_setCell _ _ _ D (by dsimp only; omega)]
        exact hK1
      have e5 : Boxed We (w.heap.size + 1) 34 (.slice A' n c') := by
        show We.heap[_]? = _
        rw [← hWe]
        rw [Below.heap_setCell _ _ _ _ (by dsimp only; omega), Below.heap_setCell _ _ _ _ (by dsimp only; omega)]
        exact hbv1
      have e6 : Only [p, g] w We := by
        rw [← hWe]
        exact ((((Only.of_below (ks := [p, g]) HA.out.2.2.2).grown hg1 (fun k e => by cases e; exact .inl (by simp))).drewN k).setCell (by simp) _).setCell (by simp) _
      have e7 := grownBy_putObj' We D (.deferred none)
      refine ⟨e4, e5.cell, own_weaken (ownsRow_putObj e3 _ e4 rfl) (by omega), ⟨hsz, hne, cap, m, _, e1.grown e7 (by intro e; cases e; omega), ownsRow_putObj e2 _ e4 rfl, HR2.1, by rw [HR2.2]; exact hbl⟩, e6.grown e7 (fun k e => by cases e; exact .inr hD)⟩
    have q1 : ∀ k We, ((w1.drewN k).setCell ⟨p, 1, none⟩ (.int .i64 (m : Int))).setCell ⟨p, 2, none⟩ (.int .i64 ((xs.length : Int) - (n : Int))) = We → We.cell? ⟨w.heap.size + 1, 0, none⟩ = some (.slice A' n c') := fun k We h => (FIN k We h).2.1
    have q2 := fun k => q1 k _ rfl
    have hwr : IntKind.i64.wrap ((xs.length : Int) - (n : Int)) = (xs.length : Int) - (n : Int) := by rw [IntKind.wrap_i64]; omega
    have FI := Lib.hid FIN
    clear FIN q1
    clear HR2 hv1 ho1 hg1 hbn1 hbv1 hrow1 hK1 hvW hoW hK
    go_wp2_with fail
    refine wp_region_noPanic ?_
    go_region_with (go_at_call 51; refine (PL.out _ (by simp [*]) (by simp [*])).mono ?_; rintro e w' ⟨rfl, n', rfl⟩)
    all_goals (refine NoPanic.normal ?_)
    all_goals go_wp2
    all_goals (refine ⟨by simp, .inl ⟨_, _, rfl, run_takeDeferred (FI.out _ _ rfl).1, ?_⟩⟩)
    all_goals (obtain ⟨_, _, r1, r2, r3⟩ := FI.out _ _ rfl)
    all_goals (refine ⟨.slice A' n c', ?_, _, rfl, r1, r2, r3⟩)
    all_goals (simp [results, Try.f26, go_sem])
  refine (wpIn_wide (n := 4)).1 ?_
  generalize hW0 : ((((w.alloc (.cells #[.int .i64 n] 3)).drewN nq).alloc (.cells #[.slice none 0 0] 34)).alloc (.cells #[.pointer (some ⟨p, 0, none⟩)] 35)) = W0
  have hs0 : W0.heap.size = w.heap.size + 1 + 1 + 1 := by subst hW0; simp
  have bN : Boxed W0 w.heap.size 3 (.int .i64 n) := by
    subst hW0; exact (Boxed.alloc (Boxed.alloc (show Boxed ((w.alloc (.cells #[.int .i64 n] 3)).drewN nq) _ _ _ from Boxed.new w 3 (.int .i64 n)) _) _)
  have bO : Boxed W0 (w.heap.size + 1) 34 (.slice none 0 0) := by
    subst hW0
    have := Boxed.new ((w.alloc (.cells #[.int .i64 n] 3)).drewN nq) 34 (.slice none 0 0)
    rw [show ((w.alloc (.cells #[.int .i64 n] 3)).drewN nq).heap.size = w.heap.size + 1 by simp] at this
    exact this.alloc _
  have bP : Boxed W0 (w.heap.size + 1 + 1) 35 (.pointer (some ⟨p, 0, none⟩)) := by
    subst hW0
    have := Boxed.new (((w.alloc (.cells #[.int .i64 n] 3)).drewN nq).alloc (.cells #[.slice none 0 0] 34)) 35 (.pointer (some ⟨p, 0, none⟩))
    rw [show (((w.alloc (.cells #[.int .i64 n] 3)).drewN nq).alloc (.cells #[.slice none 0 0] 34)).heap.size = w.heap.size + 1 + 1 by simp] at this
    exact this
  have hB0 : Below w.heap.size w W0 := by
    subst hW0
    exact ((below_drewN ((Below.refl _ w).alloc (Nat.le_refl _) _) _).alloc (by simp) _).alloc (by simp; omega) _
  have hR := ringReads_of (hH.out.below hB0 (Nat.le_refl _)) bP.cell
  clear hW0
  refine wpIn_rangeFunc_ownG (n := 4) rfl (by omega) (gf := 58) (lb := #[.pointer (some ⟨w.heap.size + 1 + 1, 0, none⟩)]) rfl trivial (enters_of Try.func58 (by kernel_rfl) rfl)
    (ringAll_stops Fence.wide 3 trivial trivial (fun h => callsIn_wide.2 h) rfl (by omega) (w.heap.size + 1 + 1) p g xs W0 hR) Keep.trans (keepK_b (by simp; omega)) (Below.refl _ _) (fun _ => rfl)
    (fun pre W => ShH w p n pre W ∧ ∀ y y2, (y, y2) ∈ pre → y ≠ n)
    (fun c (pre : List (Nat × Int)) W => c = .exit 0 ∧ ∃ (ini : List (Nat × Int)) (x : Nat × Int), pre = ini ++ [x] ∧ x.1 = n ∧ ShH w p n ini W)
    ?own ?ownx ⟨⟨⟨_, bO, World.ownsRow_nil _ _ _ _, bN, bP⟩, hB0⟩, by simp⟩
    (fun x => { tmps := #[.pointer (some ⟨p, 0, none⟩), .int .i64 n, undef, .pointer (some ⟨w.heap.size, 0, none⟩), .slice none 0 0, .pointer (some ⟨w.heap.size + 1, 0, none⟩), .int .i64 (x.1 : Int), .int .i64 x.2, .int .i64 n, .bool (decide ((n : Int) < 1)), .bool (decide ((n : Int) < 1)), .int .i64 n, .pointer (some ⟨p, 0, none⟩), .pointer (some ⟨p, 0, none⟩), .pointer (some ⟨p, 2, none⟩), .int .i64 xs.length, .bool false, .bool (decide ((n : Int) < 1)), .pointer (some ⟨p, 0, none⟩), .func (.func 58) #[] #[.pointer (some ⟨w.heap.size + 1 + 1, 0, none⟩)], .int .i64 (x.1 : Int), .int .i64 x.2, undef, undef, undef, undef, undef, undef, undef, undef, undef, undef, undef, undef, undef, undef, undef, undef, undef, undef, undef, undef, undef, undef, undef, undef, undef, undef], defers := [] }) ?assign ?body ?done ?stop
  case own => rw [hs0]; exact fun s A B row hs hg hr => ⟨shH_own w p n s A B row hs.1 hg hr, hs.2⟩
  case ownx =>
    rw [hs0]
    rintro c s A B row ⟨rfl, ini, x, rfl, hx, hh⟩ hg hr
    exact ⟨rfl, ini, x, rfl, hx, shH_own w p n ini A B row hh hg hr⟩
  case assign =>
    intro l x W K hK
    gi_wp2
    exact hK
  case body =>
    rintro l pre x W ⟨⟨⟨v, hv, hrow, hbn, hbp⟩, hB⟩, hnn⟩ hlt
    have hvv := Lib.hid hv
    have hbb := Lib.hid (And.intro hbn hbp)
    have hsB := hB.size
    have cN := hbn.cell
    obtain ⟨A', c', rfl, _⟩ := own_form hrow
    have hc := hv.cell
    by_cases hx : x.1 = n
    · obtain ⟨x1, x2⟩ := x
      obtain rfl : x1 = n := hx
      gi_wp2
      exact ⟨KeepsFrom.refl _ _, rfl, pre, x1, ⟨x2, rfl⟩, rfl, ⟨_, hv, hrow, hbn, hbp⟩, hB⟩
    · have hne1 : ((x.1 : Int) == (n : Int)) = false := by simp; omega
      obtain ⟨x1, x2⟩ := x
      gi_wp2_with (gi_at_builtin; refine wpListIn_append_own _ rfl _ _ 34 rfl (w.heap.size + 1) 3 i0 (.int .i64 0) 1 8 Try.underlying34 hi hz0 hz1 hz2 rfl (by decide) _ _ _ rfl (hrow.alloc _) ⟨W.heap.size, 0, none⟩ 1 1 [.int .i64 x2] rfl rfl (cell_one_new _ _ _) (by simp [Value.oneCell']) (by unfold maxLen; omega) (by omega) (by simp; omega) ?_; intro v' w1 hown' hgrow _; obtain ⟨g', cap', rfl⟩ := ownsRow_succ hown'; obtain ⟨hv1, hv2, hr2, hk2, hb2⟩ := hv.appended (by decide) hrow (lt_of_block hbn) (Nat.le_refl _) hown' hgrow; have hc1 := hv1.cell; have hf1 := hv1.frozen)
      have hbn2 : Boxed (w1.setCell ⟨w.heap.size + 1, 0, none⟩ (.slice (some ⟨g', 0, none⟩) (pre.length + 1) cap')) w.heap.size 3 (.int .i64 n) :=
        ((hbn.alloc (.cells #[.int .i64 x2] 3)).kept hgrow (fun e => by have := (hrow.lt _ e.symm).1; omega)).kept (grownBy_setCell' w1 (w.heap.size + 1) _) (by simp)
      have hbp2 : Boxed (w1.setCell ⟨w.heap.size + 1, 0, none⟩ (.slice (some ⟨g', 0, none⟩) (pre.length + 1) cap')) (w.heap.size + 1 + 1) 35 (.pointer (some ⟨p, 0, none⟩)) :=
        ((hbp.alloc (.cells #[.int .i64 x2] 3)).kept hgrow (hbp.not_row (by decide) hrow)).kept (grownBy_setCell' w1 (w.heap.size + 1) _) (by simp)
      refine ⟨hk2.from _, ⟨hb2.size, fun k hk => ?_⟩, ⟨⟨_, hv2, by simpa [ints] using hr2, hbn2, hbp2⟩, hB.trans (hb2.mono (by omega))⟩, ?_⟩
      · simp only [List.mem_cons, List.not_mem_nil, or_false] at hk
        rcases hk with rfl | rfl | rfl
        · exact Eq.trans hbp2 (Eq.symm hbp)
        · exact hb2.block _ (by omega)
        · exact hb2.block _ (by omega)
      · intro y y2 hy
        rcases List.mem_append.1 hy with hy | hy
        · exact hnn y y2 hy
        · simp at hy; rw [hy.1]; exact hx
  case done =>
    rintro D ys W hD rfl ⟨hh, hne⟩ hK
    refine key D W (by omega) ?_ hK
    by_cases e : n = xs.length
    · rw [e] at hh ⊢; exact hh
    · exact absurd rfl (hne _ _ (pairs_mem (n := n) (by omega)))
  case stop =>
    rintro D c pre W hD ⟨k, hk, hpre⟩ ⟨rfl, ini, x, rfl, hx, hh⟩ hK
    have e1 := pairs_ini hpre
    have e2 := pairs_fst hpre
    rw [← e2, hx] at e1
    rw [e1] at hh
    refine wpIn_wide.2 ?_
    go_wp2
    exact hx0 _ _ (key D W (by omega) hh hK)

end Go.Proofs.Ytfffncaonpokpaa
