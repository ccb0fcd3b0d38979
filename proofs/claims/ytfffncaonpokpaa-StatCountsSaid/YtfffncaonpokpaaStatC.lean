/- The walks of StatMost and StatApart; no condition. -/
import Derived.Test.YtfffncaonpokpaaStatA
namespace Go.Proofs.Ytfffncaonpokpaa
open Go.RowKit

/-- a slice of whole numbers that came in -/
def IntsAt (w : World) (A : Option Addr) (zs : List Int) : Prop :=
  ∀ i, i < zs.length → ∃ b off, A = some ⟨b, off, none⟩ ∧ b < w.heap.size ∧ w.cell? ⟨b, off + i, none⟩ = some (.int .i64 (zs[i]?.getD 0))

/-- a meter with one count alone -/
def oneCount (k : Nat) (m : Int) : List Int := (List.replicate 9 0).set k m

theorem raise_one {k : Nat} (hk : k < 9) (m n : Int) : raiseAt (oneCount k m) k n = oneCount k (max m n) := by
  unfold raiseAt oneCount
  rw [if_pos ⟨by omega, by omega⟩]
  simp [hk, List.set_set]
theorem add_one {k : Nat} (hk : k < 9) (m n : Int) : addAt (oneCount k m) k n = oneCount k (wrap64 (m + n)) := by
  unfold addAt oneCount
  rw [if_pos ⟨by omega, by omega⟩]
  simp [hk, List.set_set]
theorem get_one {k : Nat} (hk : k < 9) (m : Int) : getAt (oneCount k m) k = m := by
  unfold getAt oneCount
  rw [if_pos ⟨by omega, by omega⟩]
  simp [hk]
theorem one_zero (k : Nat) : oneCount k 0 = List.replicate 9 0 := by
  unfold oneCount
  apply List.ext_getElem (by simp)
  intro i h1 h2
  rw [List.getElem_set]
  rw [List.getElem_replicate]
  split <;> rfl

set_option maxRecDepth 100000 in
set_option maxHeartbeats 1000000 in
theorem statMost_walk (A : Option Addr) (cap : Nat) (ns : List Int) (kind : Int) (w : World) (hns : IntsAt w A ns) :
    Calls Try.prog 8 #[.slice A ns.length cap, .int .i64 kind] w fun e w' => e = .returned (.bool true) ∧ Below w.heap.size w w' := by
  by_cases h60 : 60 < ns.length
  · go_enter Try.func8, Try.ntmps8
    go_wp2_with (go_at_call 28; refine (awake26 _).mono ?_; rintro e w' ⟨rfl, hb⟩)
    go_ret
    exact ⟨rfl, hb⟩
  by_cases h0 : kind < 0
  · go_enter Try.func8, Try.ntmps8
    go_wp2_with (go_at_call 28; refine (awake26 _).mono ?_; rintro e w' ⟨rfl, hb⟩)
    go_ret
    exact ⟨rfl, hb⟩
  by_cases h8 : 8 < kind
  · go_enter Try.func8, Try.ntmps8
    go_wp2_with (go_at_call 28; refine (awake26 _).mono ?_; rintro e w' ⟨rfl, hb⟩)
    go_ret
    exact ⟨rfl, hb⟩
  obtain ⟨k, rfl⟩ : ∃ k : Nat, kind = k := ⟨kind.toNat, by omega⟩
  have hk9 : k < 9 := by omega
  go_enter Try.func8, Try.ntmps8
  go_wp2_with fail
  refine (stat_new _).mono ?_
  rintro e w1 ⟨rfl, hm1, hb1⟩
  rw [← one_zero k] at hm1
  go_wp2_with fail
  go_loopw [26, 6] (fun i v wr => ∃ (j : Nat) (m : Int), j ≤ ns.length ∧ i = .int .i64 j ∧ v = .int .i64 m ∧ IsMeter wr w.heap.size w.heap.size (oneCount k m) ∧ Below w.heap.size w wr) (fun i _ _ => ns.length - (intOf i).toNat)
  case atStart => exact ⟨0, 0, by omega, rfl, rfl, hm1, hb1⟩
  case round =>
    obtain ⟨j, m, hj, rfl, rfl, hm, hb⟩ := hrel
    by_cases hlt : j < ns.length
    · obtain ⟨b, off, rfl, hbl, hc⟩ := hns j hlt
      have hd := (hb.cell (p := ⟨b, off + j, none⟩) hbl).trans hc
      generalize ns[j]?.getD 0 = z at hd
      have c1 := stat_raise _ _ _ (k : Int) z wr hm
      rw [raise_one hk9] at c1
      clear hc hns
      rcases (show z ≤ m ∨ m < z by omega) with hzm | hzm
      · rw [Int.max_eq_left hzm] at c1
        have C1 := Lib.hid c1
        clear c1
        go_wp2_with fail
        refine C1.out.mono ?_
        rintro e w2 ⟨rfl, hm2, hb2, _, _⟩
        have c2 := stat_get _ _ _ (k : Int) w2 hm2
        rw [get_one hk9] at c2
        have C2 := Lib.hid c2
        clear c2
        go_wp2_with fail
        refine C2.out.mono ?_
        rintro e w3 ⟨rfl, rfl⟩
        go_wp2
        go_roundw
        case rel => exact ⟨j + 1, m, by omega, by go_num, by go_num, hm2, hb.trans hb2⟩
        case measure => simp [intOf]; omega
      · rw [Int.max_eq_right (by omega)] at c1
        have C1 := Lib.hid c1
        clear c1
        go_wp2_with fail
        refine C1.out.mono ?_
        rintro e w2 ⟨rfl, hm2, hb2, _, _⟩
        have c2 := stat_get _ _ _ (k : Int) w2 hm2
        rw [get_one hk9] at c2
        have C2 := Lib.hid c2
        clear c2
        go_wp2_with fail
        refine C2.out.mono ?_
        rintro e w3 ⟨rfl, rfl⟩
        go_wp2
        go_roundw
        case rel => exact ⟨j + 1, z, by omega, by go_num, by go_num, hm2, hb.trans hb2⟩
        case measure => simp [intOf]; omega
    · obtain rfl : j = ns.length := by omega
      go_wp2_with fail
      refine (awake26 _).mono ?_
      rintro e w' ⟨rfl, hb'⟩
      go_wp2_with fail
      go_ret
      exact ⟨rfl, hb.trans (hb'.mono hb.size)⟩


theorem IsMeter.grown {w w' : World} {p B q : Nat} {cs : List Int} (h : IsMeter w p B cs) (hg : w.grownBy w' (some q)) (hne : p ≠ q) : IsMeter w' p B cs :=
  ⟨h.1, h.2.1, h.2.2.grown hg (fun e => hne (by injection e))⟩

theorem wrap64_add (a b : Int) : wrap64 (wrap64 a + b) = wrap64 (a + b) := by unfold wrap64; omega
theorem wrap64_add' (a b : Int) : wrap64 (a + wrap64 b) = wrap64 (a + b) := by unfold wrap64; omega

/-- numbers added one behind the other -/
def addAll (ns : List Int) : Int := ns.foldl (fun m n => wrap64 (m + n)) 0
theorem addAll_snoc (ns : List Int) (n : Int) : addAll (ns ++ [n]) = wrap64 (addAll ns + n) := by simp [addAll]
theorem addAll_cons (n : Int) (ns : List Int) : addAll (n :: ns) = wrap64 (n + addAll ns) := by
  unfold addAll
  have h : ∀ (ns : List Int) (m : Int), ns.foldl (fun m n => wrap64 (m + n)) (wrap64 m) = wrap64 (m + ns.foldl (fun m n => wrap64 (m + n)) 0) := by
    intro ns
    induction ns with
    | nil => intro m; simp
    | cons x xs ih =>
      intro m
      simp only [List.foldl_cons]
      rw [wrap64_add, ih, ih (0 + x), wrap64_add', Int.zero_add, Int.add_assoc]
  simp only [List.foldl_cons]
  rw [Int.zero_add, h]
theorem addAll_reverse (ns : List Int) : addAll ns.reverse = addAll ns := by
  induction ns with
  | nil => rfl
  | cons x xs ih => rw [List.reverse_cons, addAll_snoc, ih, addAll_cons, Int.add_comm]

theorem take_snocZ {ns : List Int} {k : Nat} (hk : k < ns.length) : ns.take (k + 1) = ns.take k ++ [ns[k]?.getD 0] := by
  rw [List.take_succ_eq_append_getElem hk]
  simp [hk]
theorem take_snocR {ns : List Int} {k : Nat} (hk : k < ns.length) : ns.reverse.take (k + 1) = ns.reverse.take k ++ [ns[ns.length - 1 - k]?.getD 0] := by
  rw [take_snocZ (by simpa using hk), List.getElem?_reverse (by simpa using hk)]

set_option maxRecDepth 100000 in
set_option maxHeartbeats 1000000 in
theorem statApart_walk (A : Option Addr) (cap : Nat) (ns : List Int) (kind : Int) (w : World) (hns : IntsAt w A ns) :
    Calls Try.prog 7 #[.slice A ns.length cap, .int .i64 kind] w fun e w' => e = .returned (.bool true) ∧ Below w.heap.size w w' := by
  by_cases h60 : 60 < ns.length
  · go_enter Try.func7, Try.ntmps7
    go_wp2_with (go_at_call 28; refine (awake26 _).mono ?_; rintro e w' ⟨rfl, hb⟩)
    go_ret
    exact ⟨rfl, hb⟩
  by_cases h0 : kind < 0
  · go_enter Try.func7, Try.ntmps7
    go_wp2_with (go_at_call 28; refine (awake26 _).mono ?_; rintro e w' ⟨rfl, hb⟩)
    go_ret
    exact ⟨rfl, hb⟩
  by_cases h8 : 8 < kind
  · go_enter Try.func7, Try.ntmps7
    go_wp2_with (go_at_call 28; refine (awake26 _).mono ?_; rintro e w' ⟨rfl, hb⟩)
    go_ret
    exact ⟨rfl, hb⟩
  obtain ⟨k, rfl⟩ : ∃ k : Nat, kind = k := ⟨kind.toNat, by omega⟩
  have hk9 : k < 9 := by omega
  go_enter Try.func7, Try.ntmps7
  go_wp2_with fail
  refine (stat_new _).mono ?_
  rintro e w1 ⟨rfl, hm1, hb1⟩
  go_wp2_with fail
  refine (stat_new _).mono ?_
  rintro e w2 ⟨rfl, hm2, hb2⟩
  go_wp2_with fail
  refine (stat_new _).mono ?_
  rintro e w3 ⟨rfl, hm3, hb3⟩
  have q1 := hm1.2.2.lt
  have q2 := hm2.2.2.lt
  have hs1 := hb1.size
  have hs2 := hb2.size
  obtain ⟨pa, hpa⟩ : ∃ pa, pa = w.heap.size := ⟨_, rfl⟩
  obtain ⟨pb, hpb⟩ : ∃ pb, pb = w1.heap.size := ⟨_, rfl⟩
  obtain ⟨pc, hpc⟩ : ∃ pc, pc = w2.heap.size := ⟨_, rfl⟩
  have n1 : pa ≠ pb := by omega
  have n2 : pa ≠ pc := by omega
  have n3 : pb ≠ pc := by omega
  have ha : IsMeter w3 pa w.heap.size (oneCount k 0) := by rw [one_zero, hpa]; exact (hm1.below hb2 (Nat.le_refl _)).below hb3 (Nat.le_refl _)
  have hbm : IsMeter w3 pb w.heap.size (oneCount k 0) := by rw [one_zero, hpb]; exact ⟨by omega, hm2.2.1, (hm2.below hb3 (Nat.le_refl _)).2.2⟩
  have hcm : IsMeter w3 pc w.heap.size (oneCount k 0) := by rw [one_zero, hpc]; exact ⟨by omega, hm3.2.1, hm3.2.2⟩
  have hb123 : Below w.heap.size w w3 := (hb1.trans (hb2.mono hs1)).trans (hb3.mono (by omega))
  rw [← hpb, ← hpc]
  have hpaH := Lib.hid hpa
  clear hm1 hm2 hm3 hb1 hb2 hb3 hpb hpc hpa q1 q2 hs1 hs2
  have hrw : Value.pointer (some ⟨w.heap.size, 0, none⟩) = Value.pointer (some ⟨pa, 0, none⟩) := by rw [hpaH.out]
  rw [hrw]
  clear hrw
  go_wp2_with fail
  go_loopw [37] (fun i wr => ∃ j : Nat, j ≤ ns.length ∧ i = .int .i64 j ∧ IsMeter wr pa w.heap.size (oneCount k (addAll (ns.take j))) ∧ IsMeter wr pb w.heap.size (oneCount k (addAll (ns.reverse.take j))) ∧ IsMeter wr pc w.heap.size (oneCount k 0) ∧ Below w.heap.size w wr) (fun i _ => ns.length - (intOf i).toNat)
  case atStart => exact ⟨0, by omega, rfl, by simpa [addAll] using ha, by simpa [addAll] using hbm, hcm, hb123⟩
  case round =>
    obtain ⟨j, hj, rfl, ha, hbm, hcm, hb⟩ := hrel
    by_cases hlt : j < ns.length
    · obtain ⟨b, off, rfl, hbl, hc⟩ := hns j hlt
      obtain ⟨b', off', hA, _, hc'⟩ := hns (ns.length - 1 - j) (by omega)
      injection hA with hA
      injection hA with hA1 hA2
      subst hA1 hA2
      have hd := (hb.cell (p := ⟨b, off + j, none⟩) hbl).trans hc
      have hx1 : (0 : Int) ≤ (ns.length : Int) - 1 - (j : Int) := by omega
      have hx2 : ((ns.length : Int) - 1 - (j : Int)).toNat = ns.length - 1 - j := by omega
      have c1 := stat_add _ _ _ (k : Int) (ns[j]?.getD 0) wr ha
      rw [add_one hk9, ← addAll_snoc, ← take_snocZ hlt] at c1
      have R1 := Lib.hid (take_snocR hlt)
      generalize ns[j]?.getD 0 = z at hd c1
      generalize hy : ns[ns.length - 1 - j]?.getD 0 = y at hc'
      have Hy := Lib.hid hy
      have C1 := Lib.hid c1
      clear c1 hc hns hy
      go_wp2_with fail
      refine C1.out.mono ?_
      rintro e w2 ⟨rfl, hm2, hb2, _, hg2⟩
      have hb2' := hb.trans hb2
      have hd2 := (hb2'.cell (p := ⟨b, off + (ns.length - 1 - j), none⟩) hbl).trans hc'
      have hbm2 := hbm.grown hg2 n1.symm
      have hcm2 := hcm.grown hg2 n2.symm
      have c2 := stat_add _ _ _ (k : Int) y w2 hbm2
      rw [add_one hk9, ← addAll_snoc, ← Hy.out, ← R1.out] at c2
      have C2 := Lib.hid c2
      clear c2
      go_wp2_with fail
      rw [← Hy.out]
      refine C2.out.mono ?_
      rintro e w3 ⟨rfl, hm3, hb3, _, hg3⟩
      go_wp2
      go_roundw
      case rel => exact ⟨j + 1, by omega, by go_num, hm2.grown hg3 n1, hm3, hcm2.grown hg3 n3.symm, hb2'.trans hb3⟩
      case measure => simp [intOf]; omega
    · obtain rfl : j = ns.length := by omega
      rw [List.take_of_length_le (Nat.le_refl _)] at ha
      rw [List.take_of_length_le (by simp), addAll_reverse] at hbm
      have c1 := stat_get _ _ _ (k : Int) wr ha
      have c2 := stat_get _ _ _ (k : Int) wr hbm
      have c3 := stat_get _ _ _ (k : Int) wr hcm
      rw [get_one hk9] at c1 c2 c3
      have C := Lib.hid (And.intro c1 (And.intro c2 c3))
      clear c1 c2 c3
      go_wp2_with fail
      refine C.out.1.mono ?_
      rintro e w1 ⟨rfl, rfl⟩
      go_wp2_with fail
      refine C.out.2.1.mono ?_
      rintro e w1 ⟨rfl, rfl⟩
      go_wp2_with fail
      refine C.out.2.2.mono ?_
      rintro e w1 ⟨rfl, rfl⟩
      go_wp2_with fail
      refine (awake26 _).mono ?_
      rintro e w' ⟨rfl, hb'⟩
      go_wp2_with fail
      go_ret
      exact ⟨rfl, hb.trans (hb'.mono hb.size)⟩

theorem intsAt_of {w : World} {A : Option Addr} {zs : List Int} (h : ∀ i, i < zs.length → ∃ b off, A = some ⟨b, off, none⟩ ∧ b < w.heap.size ∧ w.cell? ⟨b, off + i, none⟩ = some (.int .i64 (zs[i]?.getD 0)) ∧ (Lit.int .i64 (zs[i]?.getD 0)).wf = true) : IntsAt w A zs :=
  fun i hi => by
    obtain ⟨b, off, h1, h2, h3, _⟩ := h i hi
    exact ⟨b, off, h1, h2, h3⟩

theorem statMost_any (A : Option Addr) (cap : Nat) (ns : List Int) (kind : Int) (w : World)
    (h : ∀ i, i < ns.length → ∃ b off, A = some ⟨b, off, none⟩ ∧ b < w.heap.size ∧ w.cell? ⟨b, off + i, none⟩ = some (.int .i64 (ns[i]?.getD 0)) ∧ (Lit.int .i64 (ns[i]?.getD 0)).wf = true) (_hc : ns.length ≤ cap) (_hk : (Lit.int .i64 kind).wf = true) :
    Calls Try.prog 8 #[.slice A ns.length cap, .int .i64 kind] w fun e w' => e = .returned (.bool true) ∧ Below w.heap.size w w' := statMost_walk A cap ns kind w (intsAt_of h)
theorem statApart_any (A : Option Addr) (cap : Nat) (ns : List Int) (kind : Int) (w : World)
    (h : ∀ i, i < ns.length → ∃ b off, A = some ⟨b, off, none⟩ ∧ b < w.heap.size ∧ w.cell? ⟨b, off + i, none⟩ = some (.int .i64 (ns[i]?.getD 0)) ∧ (Lit.int .i64 (ns[i]?.getD 0)).wf = true) (_hc : ns.length ≤ cap) (_hk : (Lit.int .i64 kind).wf = true) :
    Calls Try.prog 7 #[.slice A ns.length cap, .int .i64 kind] w fun e w' => e = .returned (.bool true) ∧ Below w.heap.size w w' := statApart_walk A cap ns kind w (intsAt_of h)

end Go.Proofs.Ytfffncaonpokpaa
