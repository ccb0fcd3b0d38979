/- RingCuts: the walk; no condition but that the struct can be read. -/
import Derived.Test.YtfffncaonpokpaaRingA
import Derived.Test.YtfffncaonpokpaaRingT
namespace Go.Proofs.Ytfffncaonpokpaa
open Go.RowKit

def thou (m : Nat) : List Int := (List.range m).map fun (j : Nat) => (1000 : Int) + (j : Int)
theorem thou_length (m : Nat) : (thou m).length = m := by simp [thou]
theorem thou_succ (m : Nat) : thou m ++ [(1000 : Int) + (m : Int)] = thou (m + 1) := by simp [thou, List.range_succ]

theorem IsRing.grown {w w' : World} {p g size : Nat} {xs : List Int} (h : IsRing w p g size xs) {row : Option Nat} (hg : w.grownBy w' row) (hr : ∀ k, row = some k → k ≠ p ∧ k ≠ g) : IsRing w' p g size xs := by
  cases row with
  | none => exact h.only (ks := []) (Only.refl.grown hg (fun k e => by cases e)) (by simp) (by simp)
  | some k => exact h.only (ks := [k]) (Only.refl.grown hg (fun k e => by cases e; simp)) (by simp; exact Ne.symm (hr k rfl).1) (by simp; exact Ne.symm (hr k rfl).2)
theorem intsAt_own {w : World} {B n c : Nat} {A : Option Addr} {xs : List Int} (h : w.ownsRow B 3 1 (.slice A n c) n (ints xs)) : IntsAt w A xs := fun i hi => by
  have hn : xs.length = n := by have := h.1; simpa [ints] using this
  rcases h.2 with ⟨e, h0⟩ | ⟨g, cap, cur, e, _, hg, _⟩
  · omega
  · simp at e
    obtain ⟨rfl, _⟩ := e
    refine ⟨g, 0, rfl, lt_of_block hg, ?_⟩
    rw [Nat.zero_add, h.cellAt i (by omega)]
    simp [ints, hi]

theorem sliced_zero (a : Option Addr) (h cap s : Nat) : sliced a 0 h cap s = .slice a h cap := by
  unfold sliced
  cases a <;> simp [Addr.add]
theorem Reads.take_ {w : World} {B n k : Nat} {A : Option Addr} {xs : List Value} (h : Reads w B 1 A n xs) (hk : k ≤ n) : Reads w B 1 A k (xs.take k) := by
  refine ⟨by rw [List.length_take, h.1]; omega, fun hn => ?_⟩
  obtain ⟨ad, e, hb, hc⟩ := h.2 (by omega)
  refine ⟨ad, e, hb, fun j u hu => hc j u ?_⟩
  rw [List.getElem?_take] at hu
  split at hu
  · exact hu
  · cases hu
theorem ownsRow_fresh (w : World) : (w.alloc (.cells #[] 3)).ownsRow w.heap.size 3 1 (.slice (some ⟨w.heap.size, 0, none⟩) 0 0) 0 [] :=
  ⟨rfl, .inr ⟨w.heap.size, 0, #[], rfl, Nat.le_refl _, heap_alloc_new w _, Nat.le_refl _, Nat.zero_le _, rfl, rfl⟩⟩
theorem ints_one {xs : List Int} : ∀ u ∈ ints xs, u.oneCell' = true := by
  intro u hu
  simp only [ints, List.mem_map] at hu
  obtain ⟨z, _, rfl⟩ := hu
  rfl
theorem own_kept_apart {w w' : World} {base e size n : Nat} {v : Value} {xs : List Value} {row : Option Nat} (h : w.ownsRow base e size v n xs) (hg : w.grownBy w' row) (hr : ∀ j, v.ownBlock = some j → row ≠ some j) : w'.ownsRow base e size v n xs :=
  h.kept hg (by
    cases hq : v.ownBlock with
    | none => exact .inl rfl
    | some j => exact .inr (Ne.symm (hr j hq)))
attribute [local go_sem] sliced_zero

set_option maxRecDepth 100000 in
set_option maxHeartbeats 4000000 in
theorem ringCuts_in (size first kp : Nat) (A : Option Addr) (c : Nat) (zs : List Int) (w : World) (h1 : 1 ≤ size) (h60 : size ≤ 60) (hz : zs.length ≤ 60) (hfs : first ≤ size) (hkf : kp ≤ first) (hA : IntsAt w A zs) :
    Calls Try.prog 13 #[.agg #[.int .i64 size, .int .i64 first, .int .i64 kp, .slice A zs.length c]] w fun e w' => e = .returned (.bool true) ∧ Below w.heap.size w w' := by
  obtain ⟨i0, hi, hz0, hz1, hz2⟩ := info_parts info_int
  have f1 : ¬ ((size : Int) < 1) := by omega
  have f2 : ¬ (60 < (size : Int)) := by omega
  have f3 : ¬ (60 < (zs.length : Int)) := by omega
  have f4 : ¬ ((first : Int) < 0) := by omega
  have f5 : ¬ ((size : Int) < (first : Int)) := by omega
  have f6 : ¬ ((kp : Int) < 0) := by omega
  have f7 : ¬ ((first : Int) < (kp : Int)) := by omega
  go_enter Try.func13, Try.ntmps13
  go_wp2_with fail
  go_quiet (fail)
  go_wp2_with fail
  refine (ring_new_ok size (by omega) _).mono ?_
  rintro e w1 ⟨p, g, rfl, hp, hg, hI1, hb0⟩
  have hb1 : Below w.heap.size w w1 := (below_drewN ((Below.refl _ w).alloc (Nat.le_refl _) _) nq).trans (hb0.mono (by simp))
  have hp : w.heap.size ≤ p := by simp at hp; omega
  have hg : w.heap.size ≤ g := by simp at hg; omega
  clear hb0
  go_wp2_with fail
  have hpl1 := hI1.lt
  go_loopw [66, 9] (fun i v wr => ∃ k : Nat, k ≤ first ∧ i = .int .i64 k ∧ wr.ownsRow w1.heap.size 3 1 v k (ints (thou k)) ∧ IsRing wr p g size (thou k) ∧ Below w.heap.size w wr ∧ w1.heap.size ≤ wr.heap.size) (fun i _ _ => first - (intOf i).toNat)
  case atStart => exact ⟨0, by omega, rfl, World.ownsRow_nil _ _ _ _, hI1, hb1, Nat.le_refl _⟩
  case round =>
    obtain ⟨k, hk, rfl, hown, hI, hb, hsz⟩ := hrel
    by_cases hlt : k < first
    · go_wp2_with fail
      refine (ring_push_yes _ hI _ (by rw [thou_length]; omega)).mono ?_
      rintro e w2 ⟨rfl, hI2, ho2⟩
      rw [thou_succ] at hI2
      have hs2 := ho2.size
      have hb2 := hb.trans (Only.below (ks := [p, g]) ho2 hb.size (by simp; omega))
      have hown2 := ho2.own hown (fun k e => by have := (hown.lt k e).1; simp; omega)
      obtain ⟨A', c', rfl, _⟩ := own_form hown2
      go_wp2_with (at_builtin; refine wpList_append_own _ rfl _ _ 34 rfl w1.heap.size 3 i0 (.int .i64 0) 1 8 Try.underlying34 hi hz0 hz1 hz2 rfl (by decide) _ _ _ rfl (hown2.alloc _) ⟨w2.heap.size, 0, none⟩ 1 1 [.int .i64 ((1000 : Int) + (k : Int))] rfl rfl ?c1 ?c2 ?c3 ?c4 ?c5 ?_)
      case c1 => exact cell_one_new _ _ _
      case c2 => simp [Value.oneCell']
      case c3 => unfold maxLen; omega
      case c4 => omega
      case c5 => simp; omega
      intro v' w3 hown' hgrow _
      have hs3 := hgrow.size
      simp at hs3
      have hb3 : Below w.heap.size w w3 := (hb2.alloc hb2.size _).grown hgrow (by have := hb2.size; simp; omega) (fun j hj => by have := (hown2.lt j hj).1; omega)
      have hI3 := (hI2.alloc _).grown hgrow (fun j hj => by have := (hown2.lt j hj).1; omega)
      go_wp2
      go_roundw
      case rel => exact ⟨k + 1, by omega, by go_num, by rw [← thou_succ]; simpa [ints] using hown', hI3, hb3, by omega⟩
      case measure => simp [intOf]; omega
    · obtain rfl : k = first := by omega
      go_wp2_with fail
      refine (ring_copy _ hI).mono ?_
      rintro e w2 ⟨p', g', rfl, hp', hg', hI2', hb2⟩
      have hI2 := hI.below hb2 (Nat.le_refl _)
      have hpl2 := hI.lt
      have hs2 := hb2.size
      have hown2 := (Only.of_below (ks := []) hb2).own hown (fun k e => List.not_mem_nil)
      have hal2 : ∀ j, u9.ownBlock = some j → w1.heap.size ≤ j ∧ j < wr.heap.size := fun j e => hown.lt j e
      go_wp2_with fail
      refine (ring_cut_yes _ hI2 kp (by rw [thou_length]; omega)).mono ?_
      rintro e w3 ⟨rfl, hI3, ho3⟩
      have hs3 := ho3.size
      have hIc3 := hI2'.only ho3 (by simp; omega) (by simp; omega)
      have hown3 := ho3.own hown2 (fun j e => by have := (hown.lt j e).1; simp; omega)
      have hb3 : Below w.heap.size w w3 := (hb.trans (hb2.mono hb.size)).trans (Only.below (ks := [p, g]) ho3 (Nat.le_trans hb.size hs2) (by simp; omega))
      obtain ⟨A', c', rfl, hkc⟩ := own_form hown3
      have hrd := (Reads.of_own hown3).take_ (k := kp) (by omega)
      rw [show (ints (thou k)).take kp = ints ((thou k).take kp) by simp [ints]] at hrd
      go_wp2_with (at_builtin; refine wpList_append_any _ rfl _ _ 34 rfl w3.heap.size 3 i0 (.int .i64 0) 1 8 Try.underlying34 hi hz0 hz1 hz2 rfl (by decide) _ 0 [] rfl (ownsRow_fresh w3) w3.heap.size A' kp c' _ rfl (hrd.alloc (Nat.le_refl _) _) ints_one (by unfold maxLen; omega) (by omega) (by simp) ?_; intro v' w4 hown4 hgrow hvb)
      simp only [Nat.zero_add, List.nil_append] at hown4
      have hpl3 := hIc3.lt
      have hal3 : ∀ j, (Value.slice A' k c').ownBlock = some j → w1.heap.size ≤ j ∧ j < w3.heap.size := fun j e => hown3.lt j e
      have hgrow' : (w3.alloc (.cells #[] 3)).grownBy w4 (some w3.heap.size) := hgrow
      clear hgrow
      have hgrow := hgrow'
      have hown4a := (hown3.alloc (.cells #[] 3)).kept hgrow (.inr (by intro e; have := (hal3 w3.heap.size e).2; omega))
      have hI4 := (hI3.alloc (.cells #[] 3)).grown hgrow (by intro j e; cases e; omega)
      have hIc4 := (hIc3.alloc (.cells #[] 3)).grown hgrow (by intro j e; cases e; omega)
      have hb4 : Below w.heap.size w w4 := (hb3.alloc hb3.size _).grown hgrow (by have := hb3.size; simp; omega) (by intro j e; cases e; exact hb3.size)
      have hs4 := hgrow.size
      simp at hs4
      have hxl : ((thou k).take kp).length = kp := by simp [thou]; omega
      obtain ⟨xs, hxs⟩ : ∃ xs, xs = (thou k).take kp := ⟨_, rfl⟩
      rw [← hxs] at hown4 hI4 hxl
      rw [← hxl] at hown4
      clear hxs
      clear hrd hgrow hvb hI3 hIc3 hI hI2 hI2' hown hown2 hown3
      go_wp2_with fail
      go_loopw [97, 12] (fun i v wr => ∃ (t : Nat) (ys : List Int), t ≤ zs.length ∧ i = .int .i64 t ∧ ys.length ≤ size ∧ wr.ownsRow w3.heap.size 3 1 v ys.length (ints ys) ∧ IsRing wr p g size ys ∧ IsRing wr p' g' size (thou k) ∧ wr.ownsRow w1.heap.size 3 1 (.slice A' k c') k (ints (thou k)) ∧ Below w.heap.size w wr ∧ w3.heap.size ≤ wr.heap.size) (fun i _ _ => zs.length - (intOf i).toNat)
      case atStart => exact ⟨0, xs, by omega, rfl, by omega, hown4, hI4, hIc4, hown4a, hb4, by omega⟩
      case round =>
        obtain ⟨t, ys, ht, rfl, hyl, hwn, hI, hIc, hal, hb, hsz⟩ := hrel
        by_cases hlt : t < zs.length
        · obtain ⟨b, off, rfl, hbl, hc⟩ := hA t hlt
          have hc' := (hb.cell (p := ⟨b, off + t, none⟩) hbl).trans hc
          generalize zs[t]?.getD 0 = z at hc'
          clear hc
          obtain ⟨A2, c2, rfl, _⟩ := own_form hwn
          by_cases hfull : ys.length = size
          · have hfe : ((ys.length : Int) == (size : Int)) = true := by simp; omega
            have HF := Lib.hid hfull
            clear hfull
            go_wp2_with fail
            refine (ring_push_no _ hI z HF.out).mono ?_
            rintro e w5 ⟨rfl, n5, rfl⟩
            go_wp2
            go_roundw
            case rel => exact ⟨t + 1, ys, by omega, by go_num, by omega, own_drewN hwn n5, hI.drewN n5, hIc.drewN n5, own_drewN hal n5, below_drewN hb n5, hsz⟩
            case measure => simp [intOf]; omega
          · have hfe : ((ys.length : Int) == (size : Int)) = false := by simp; omega
            go_wp2_with fail
            refine (ring_push_yes _ hI z (by omega)).mono ?_
            rintro e w5 ⟨rfl, hI5, ho5⟩
            have hs5 := ho5.size
            have hb5 := hb.trans (Only.below (ks := [p, g]) ho5 hb.size (by simp; omega))
            have hwn5 := ho5.own hwn (fun k e => by have := (hwn.lt k e).1; simp; omega)
            have hal5 := ho5.own hal (fun k e => by have := (hal.lt k e).1; simp; omega)
            have hIc5 := hIc.only ho5 (by simp; omega) (by simp; omega)
            have hala := fun j e => hal3 j e
            go_wp2_with (at_builtin; refine wpList_append_own _ rfl _ _ 34 rfl w3.heap.size 3 i0 (.int .i64 0) 1 8 Try.underlying34 hi hz0 hz1 hz2 rfl (by decide) _ _ _ rfl (hwn5.alloc _) ⟨w5.heap.size, 0, none⟩ 1 1 [.int .i64 z] rfl rfl ?c1 ?c2 ?c3 ?c4 ?c5 ?_)
            case c1 => exact cell_one_new _ _ _
            case c2 => simp [Value.oneCell']
            case c3 => unfold maxLen; omega
            case c4 => omega
            case c5 => simp; omega
            intro v' w6 hown' hgrow _
            have hs6 := hgrow.size
            simp at hs6
            have hb6 : Below w.heap.size w w6 := (hb5.alloc hb5.size _).grown hgrow (by have := hb5.size; simp; omega) (fun j hj => by have := (hwn5.lt j hj).1; have := hb3.size; omega)
            have hI6 := (hI5.alloc (.cells #[.int .i64 z] 3)).grown hgrow (fun j hj => by have := (hwn5.lt j hj).1; omega)
            have hIc6 := (hIc5.alloc (.cells #[.int .i64 z] 3)).grown hgrow (fun j hj => by have := (hwn5.lt j hj).1; omega)
            have hal6 := own_kept_apart (hal5.alloc (.cells #[.int .i64 z] 3)) hgrow (fun j hj e => by have := (hwn5.lt j e).1; have := (hal3 j hj).2; omega)
            go_wp2
            go_roundw
            case rel => exact ⟨t + 1, ys ++ [z], by omega, by go_num, by simp; omega, by simpa [ints] using hown', hI6, hIc6, hal6, hb6, by omega⟩
            case measure => simp [intOf]; omega
        · obtain rfl : t = zs.length := by omega
          go_wp2_with fail
          refine (list12 _ hI).mono ?_
          rintro e w5 ⟨v5, rfl, hv5, hb5⟩
          have hs5 := hb5.size
          obtain ⟨A2, c2, rfl, _⟩ := own_form hwn
          obtain ⟨A5, c5, rfl, _⟩ := own_form hv5
          go_wp2_with fail
          refine (same12 w5 A5 A2 c5 c2 ys (intsAt_own hv5) (intsAt_own ((Only.of_below (ks := []) hb5).own hwn (fun k e => List.not_mem_nil))) (by omega)).mono ?_
          rintro e w6 ⟨rfl, n6, rfl⟩
          go_wp2_with fail
          refine (list12 _ ((hIc.below hb5 (Nat.le_refl _)).drewN n6)).mono ?_
          rintro e w7 ⟨v7, rfl, hv7, hb7⟩
          have hs7 := hb7.size
          obtain ⟨A7, c7, rfl, _⟩ := own_form hv7
          have hal7 := (Only.of_below (ks := []) hb7).own (own_drewN ((Only.of_below (ks := []) hb5).own hal (fun k e => List.not_mem_nil)) n6) (fun k e => List.not_mem_nil)
          have hT := thou_length k
          have hb8 : Below w.heap.size w w7 := (below_drewN (hb.trans (hb5.mono hb.size)) n6).trans (hb7.mono (by have := hb.size; simp; omega))
          have hia := intsAt_own hal7
          have hib := intsAt_own hv7
          generalize thou k = T at hT hv7 hia hib
          subst hT
          clear hal7 hv7 hal hIc
          go_wp2_with fail
          refine (same12 w7 A7 A' c7 c' T hib hia (by omega)).mono ?_
          rintro e w8 ⟨rfl, n8, rfl⟩
          go_wp2_with (go_at_call 23; refine (awake12 _).mono ?_; rintro e w' ⟨rfl, hb'⟩)
          go_ret
          exact ⟨rfl, (below_drewN hb8 n8).trans (hb'.mono (by have := hb8.size; simp; omega))⟩

set_option maxRecDepth 100000 in
set_option maxHeartbeats 4000000 in
theorem ringCuts_any (size first kp : Int) (A : Option Addr) (c : Nat) (zs : List Int) (w : World) (hA : IntsAt w A zs) :
    Calls Try.prog 13 #[.agg #[.int .i64 size, .int .i64 first, .int .i64 kp, .slice A zs.length c]] w fun e w' => e = .returned (.bool true) ∧ Below w.heap.size w w' := by
  by_cases h1 : size < 1
  · go_enter Try.func13, Try.ntmps13
    go_wp2_with fail
    go_quiet (fail)
    go_wp2_with (go_at_call 23; refine (awake12 _).mono ?_; rintro e w' ⟨rfl, hb'⟩)
    go_ret
    exact ⟨rfl, (below_drewN ((Below.refl _ w).alloc (Nat.le_refl _) _) nq).trans (hb'.mono (by simp))⟩
  by_cases h2 : 60 < size
  · go_enter Try.func13, Try.ntmps13
    go_wp2_with fail
    go_quiet (fail)
    go_wp2_with (go_at_call 23; refine (awake12 _).mono ?_; rintro e w' ⟨rfl, hb'⟩)
    go_ret
    exact ⟨rfl, (below_drewN ((Below.refl _ w).alloc (Nat.le_refl _) _) nq).trans (hb'.mono (by simp))⟩
  by_cases h3 : first < 0
  · go_enter Try.func13, Try.ntmps13
    go_wp2_with fail
    go_quiet (fail)
    go_wp2_with (go_at_call 23; refine (awake12 _).mono ?_; rintro e w' ⟨rfl, hb'⟩)
    go_ret
    exact ⟨rfl, (below_drewN ((Below.refl _ w).alloc (Nat.le_refl _) _) nq).trans (hb'.mono (by simp))⟩
  by_cases h4 : size < first
  · go_enter Try.func13, Try.ntmps13
    go_wp2_with fail
    go_quiet (fail)
    go_wp2_with (go_at_call 23; refine (awake12 _).mono ?_; rintro e w' ⟨rfl, hb'⟩)
    go_ret
    exact ⟨rfl, (below_drewN ((Below.refl _ w).alloc (Nat.le_refl _) _) nq).trans (hb'.mono (by simp))⟩
  by_cases h5 : kp < 0
  · go_enter Try.func13, Try.ntmps13
    go_wp2_with fail
    go_quiet (fail)
    go_wp2_with (go_at_call 23; refine (awake12 _).mono ?_; rintro e w' ⟨rfl, hb'⟩)
    go_ret
    exact ⟨rfl, (below_drewN ((Below.refl _ w).alloc (Nat.le_refl _) _) nq).trans (hb'.mono (by simp))⟩
  by_cases h6 : first < kp
  · go_enter Try.func13, Try.ntmps13
    go_wp2_with fail
    go_quiet (fail)
    go_wp2_with (go_at_call 23; refine (awake12 _).mono ?_; rintro e w' ⟨rfl, hb'⟩)
    go_ret
    exact ⟨rfl, (below_drewN ((Below.refl _ w).alloc (Nat.le_refl _) _) nq).trans (hb'.mono (by simp))⟩
  by_cases h7 : 60 < (zs.length : Int)
  · go_enter Try.func13, Try.ntmps13
    go_wp2_with fail
    go_quiet (fail)
    go_wp2_with (go_at_call 23; refine (awake12 _).mono ?_; rintro e w' ⟨rfl, hb'⟩)
    go_ret
    exact ⟨rfl, (below_drewN ((Below.refl _ w).alloc (Nat.le_refl _) _) nq).trans (hb'.mono (by simp))⟩
  obtain ⟨s, rfl⟩ : ∃ s : Nat, size = s := ⟨size.toNat, by omega⟩
  obtain ⟨f, rfl⟩ : ∃ s : Nat, first = s := ⟨first.toNat, by omega⟩
  obtain ⟨k, rfl⟩ : ∃ s : Nat, kp = s := ⟨kp.toNat, by omega⟩
  exact ringCuts_in s f k A c zs w (by omega) (by omega) (by omega) (by omega) (by omega) hA

end Go.Proofs.Ytfffncaonpokpaa
