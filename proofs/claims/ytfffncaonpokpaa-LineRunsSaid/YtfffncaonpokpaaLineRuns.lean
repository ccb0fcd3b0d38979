/- LineRuns: those that run are always the first ones: the walk; no condition but that the calls can be read. -/
import Derived.Test.YtfffncaonpokpaaLineA
namespace Go.Proofs.Ytfffncaonpokpaa
open Go.RowKit

/-- a slice of calls, each of two numbers, that came in -/
def PairsAt (w : World) (A : Option Addr) (ops : List (Int × Int)) : Prop :=
  ∀ i, i < ops.length → ∃ b off, A = some ⟨b, off, none⟩ ∧ b < w.heap.size ∧ w.cell? ⟨b, off + i * 2, none⟩ = some (.int .i64 (ops[i]?.getD (0, 0)).1) ∧ w.cell? ⟨b, off + i * 2 + 1, none⟩ = some (.int .i64 (ops[i]?.getD (0, 0)).2)

theorem fewer_ok (b : Bool) (w : World) : Calls Try.prog 22 #[.bool b] w fun e w' => e = .returned (.int .i64 (if b then 1 else 0)) ∧ w = w' := by
  cases b
  · go_enter Try.func22, Try.ntmps22
    go_wp2
    go_ret
    exact ⟨rfl, rfl⟩
  · go_enter Try.func22, Try.ntmps22
    go_wp2
    go_ret
    exact ⟨rfl, rfl⟩

set_option maxRecDepth 100000 in
set_option maxHeartbeats 4000000 in
theorem lineRuns_walk (most : Int) (A : Option Addr) (cap : Nat) (ops : List (Int × Int)) (w : World) (hops : PairsAt w A ops) :
    Calls Try.prog 3 #[.int .i64 most, .slice A ops.length cap] w fun e w' => e = .returned (.bool true) ∧ Below w.heap.size w w' := by
  by_cases h100 : 100 < ops.length
  · go_enter Try.func3, Try.ntmps3
    go_wp2_with (go_at_call 14; refine (awake24 _).mono ?_; rintro e w' ⟨rfl, hb⟩)
    go_ret
    exact ⟨rfl, hb⟩
  by_cases h1 : most < 1
  · go_enter Try.func3, Try.ntmps3
    go_wp2_with (go_at_call 14; refine (awake24 _).mono ?_; rintro e w' ⟨rfl, hb⟩)
    go_ret
    exact ⟨rfl, hb⟩
  by_cases h32 : 32 < most
  · go_enter Try.func3, Try.ntmps3
    go_wp2_with (go_at_call 14; refine (awake24 _).mono ?_; rintro e w' ⟨rfl, hb⟩)
    go_ret
    exact ⟨rfl, hb⟩
  go_enter Try.func3, Try.ntmps3
  go_wp2_with fail
  refine (line_new_ok most (by omega) (by omega) _).mono ?_
  rintro e w1 ⟨rfl, hI1, hb1⟩
  go_wp2_with fail
  go_loopw [41] (fun i wr => ∃ (k : Nat) (xs : List Int) (runs : Nat), k ≤ ops.length ∧ i = .int .i64 k ∧ IsLine wr w.heap.size w.heap.size most xs runs ∧ runs ≤ xs.length ∧ (xs.length : Int) ≤ most ∧ Below w.heap.size w wr)
    (fun i _ => ops.length - (intOf i).toNat)
  case atStart => exact ⟨0, [], 0, by omega, rfl, hI1, by simp, by simp; omega, hb1⟩
  case round =>
    obtain ⟨k, xs, runs, hk, rfl, hI, hr, hm, hb⟩ := hrel
    by_cases hlt : k < ops.length
    · obtain ⟨b, off, rfl, hbl, hc0, hc1⟩ := hops k hlt
      have hd0 := (hb.cell (p := ⟨b, off + k * 2, none⟩) hbl).trans hc0
      have hd1 := (hb.cell (p := ⟨b, off + k * 2 + 1, none⟩) hbl).trans hc1
      generalize (ops[k]?.getD (0, 0)).1 = kind at hd0
      generalize (ops[k]?.getD (0, 0)).2 = N at hd1
      clear hc0 hc1 hops
      have hl : xs.length ≤ 32 := by omega
      go_wp2_with fail
      refine (line_running _ (hI.alloc _)).mono ?_
      rintro e w2 ⟨rfl, rfl⟩
      go_wp2_with fail
      refine (line_len _ (hI.alloc _)).mono ?_
      rintro e w2 ⟨rfl, rfl⟩
      have hI2 := hI.alloc (.cells #[.int .i64 kind, .int .i64 N] 29)
      have hb2 := hb.alloc hb.size (.cells #[.int .i64 kind, .int .i64 N] 29)
      have hs2 := hb2.size
      by_cases hk1 : kind = 1
      · subst hk1
        go_wp2_with fail
        by_cases hfull : (xs.length : Int) = most
        · refine (line_add_no _ hI2 k hfull).mono ?_
          rintro e w3 ⟨rfl, n3, rfl⟩
          have ht : ¬ (xs.length : Int) < most := by omega
          clear hfull
          go_wp2_with fail
          refine (line_running _ (hI2.drewN n3)).mono ?_
          rintro e w4 ⟨rfl, rfl⟩
          go_wp2
          go_roundw
          case rel => exact ⟨k + 1, xs, runs, by omega, by go_num, hI2.drewN n3, hr, hm, below_drewN hb2 n3⟩
          case measure => simp [intOf]; omega
        · refine (line_add_yes _ hI2 k hfull (by omega) hs2).mono ?_
          rintro e w3 ⟨rfl, hI3, hb3⟩
          have ht : (xs.length : Int) < most := by omega
          clear hfull
          go_wp2_with fail
          refine (line_running _ hI3).mono ?_
          rintro e w4 ⟨rfl, rfl⟩
          go_wp2
          go_roundw
          case rel => exact ⟨k + 1, xs ++ [(k : Int)], runs, by omega, by go_num, hI3, by simp; omega, by simp; omega, hb2.trans hb3⟩
          case measure => simp [intOf]; omega
      by_cases hk2 : kind = 2
      · subst hk2
        go_wp2_with fail
        by_cases hfull : runs < xs.length
        · refine (line_start_yes _ hI2 hfull (by omega)).mono ?_
          rintro e w3 ⟨rfl, hI3, hb3⟩
          go_wp2_with fail
          refine (line_running _ hI3).mono ?_
          rintro e w4 ⟨rfl, rfl⟩
          go_wp2_with fail
          refine (line_len _ hI3).mono ?_
          rintro e w4 ⟨rfl, rfl⟩
          go_wp2
          go_roundw
          case rel => exact ⟨k + 1, xs, runs + 1, by omega, by go_num, hI3, by omega, hm, hb2.trans hb3⟩
          case measure => simp [intOf]; omega
        · refine (line_start_no _ hI2 (by omega)).mono ?_
          rintro e w3 ⟨rfl, n3, rfl⟩
          go_wp2_with fail
          refine (line_len _ (hI2.drewN n3)).mono ?_
          rintro e w4 ⟨rfl, rfl⟩
          go_wp2
          go_roundw
          case rel => exact ⟨k + 1, xs, runs, by omega, by go_num, hI2.drewN n3, hr, hm, below_drewN hb2 n3⟩
          case measure => simp [intOf]; omega
      by_cases hk3 : kind = 3
      · subst hk3
        go_wp2_with fail
        by_cases hfull : 0 < runs
        · obtain ⟨r, rfl⟩ : ∃ r, runs = r + 1 := ⟨runs - 1, by omega⟩
          refine (line_stop_yes _ hI2 (by omega)).mono ?_
          rintro e w3 ⟨rfl, hI3, hb3⟩
          go_wp2_with fail
          refine (line_running _ hI3).mono ?_
          rintro e w4 ⟨rfl, rfl⟩
          go_wp2_with fail
          refine (line_len _ hI3).mono ?_
          rintro e w4 ⟨rfl, rfl⟩
          go_wp2
          go_roundw
          case rel => exact ⟨k + 1, xs, r, by omega, by go_num, hI3, by omega, hm, hb2.trans hb3⟩
          case measure => simp [intOf]; omega
        · obtain rfl : runs = 0 := by omega
          refine (line_stop_no _ hI2).mono ?_
          rintro e w3 ⟨rfl, rfl⟩
          go_wp2_with fail
          refine (line_len _ hI2).mono ?_
          rintro e w4 ⟨rfl, rfl⟩
          go_wp2
          go_roundw
          case rel => exact ⟨k + 1, xs, 0, by omega, by go_num, hI2, hr, hm, hb2⟩
          case measure => simp [intOf]; omega
      by_cases hk4 : kind = 4
      · subst hk4
        by_cases hth : 0 ≤ N ∧ N < xs.length
        · obtain ⟨hN0, hN1⟩ := hth
          obtain ⟨j, rfl⟩ : ∃ j : Nat, N = j := ⟨N.toNat, by omega⟩
          go_wp2_with fail
          refine (line_remove_yes _ hI2 j (by omega) (by omega) hr).mono ?_
          rintro e w3 ⟨rfl, hI3, hb3, hO3⟩
          have hylen := take_drop_length (xs := xs) (k := j) (by omega)
          generalize xs.take j ++ xs.drop (j + 1) = ys at hI3 hylen
          have ho3 : Blk w3 wr.heap.size 29 #[.int .i64 4, .int .i64 j] := hO3.blk (Blk.new _ _ _) (by decide)
          have hd3 := ho3.cell 1
          simp only [List.getElem?_toArray, List.getElem?_cons_succ, List.getElem?_cons_zero] at hd3
          have hy1 : ((ys.length : Int) != (xs.length : Int) - 1) = false := by rw [bne_eq_false_iff_eq]; omega
          have hyl : ys.length + 1 = xs.length := by omega
          have hylH := Lib.hid hyl
          clear hylen ho3 hyl
          by_cases hjr : j < runs
          · have hrb : runsBut j runs = runs - 1 := if_pos hjr
            rw [hrb] at hI3
            have hr1 : (((runs - 1 : Nat) : Int) != (runs : Int) - 1) = false := by rw [bne_eq_false_iff_eq]; omega
            have hr2 : 1 ≤ runs := by omega
            have hjd : decide ((j : Int) < (runs : Int)) = true := by simpa using hjr
            clear hrb
            go_wp2_with fail
            go_quiet ((first | (go_at_call 17; exact quiet_left (line_len _ (hI3.drewN _))) | (go_at_call 16; exact quiet_left (line_running _ (hI3.drewN _))) | (go_at_call 22; exact quiet_left (fewer_ok true _))))
            go_wp2
            go_roundw
            case rel => exact ⟨k + 1, ys, runs - 1, by omega, by go_num, hI3.drewN nq, by have := hylH.out; omega, by have := hylH.out; omega, below_drewN (hb2.trans hb3) nq⟩
            case measure => simp [intOf]; omega
          · have hrb : runsBut j runs = runs := if_neg hjr
            rw [hrb] at hI3
            have hjd : decide ((j : Int) < (runs : Int)) = false := by simpa using hjr
            clear hrb
            go_wp2_with fail
            go_quiet ((first | (go_at_call 17; exact quiet_left (line_len _ (hI3.drewN _))) | (go_at_call 16; exact quiet_left (line_running _ (hI3.drewN _))) | (go_at_call 22; exact quiet_left (fewer_ok false _))))
            go_wp2
            go_roundw
            case rel => exact ⟨k + 1, ys, runs, by omega, by go_num, hI3.drewN nq, by have := hylH.out; omega, by have := hylH.out; omega, below_drewN (hb2.trans hb3) nq⟩
            case measure => simp [intOf]; omega
        · have hno : N < 0 ∨ (xs.length : Int) ≤ N := by omega
          clear hth
          rcases hno with hno | hno
          · go_wp2_with fail
            refine (line_remove_no _ hI2 N (.inl hno)).mono ?_
            rintro e w3 ⟨rfl, rfl⟩
            go_wp2
            go_quiet (fail)
            go_wp2
            go_roundw
            case rel => exact ⟨k + 1, xs, runs, by omega, by go_num, hI2.drewN nq, hr, hm, below_drewN hb2 nq⟩
            case measure => simp [intOf]; omega
          · have hno0 : ¬ N < 0 := by omega
            go_wp2_with fail
            refine (line_remove_no _ hI2 N (.inr hno)).mono ?_
            rintro e w3 ⟨rfl, rfl⟩
            have hNd : decide (N < (xs.length : Int)) = false := by simpa using hno
            go_wp2
            go_quiet (fail)
            go_wp2
            go_roundw
            case rel => exact ⟨k + 1, xs, runs, by omega, by go_num, hI2.drewN nq, hr, hm, below_drewN hb2 nq⟩
            case measure => simp [intOf]; omega
      · go_wp2
        go_roundw
        case rel => exact ⟨k + 1, xs, runs, by omega, by go_num, hI2, hr, hm, hb2⟩
        case measure => simp [intOf]; omega
    · obtain rfl : k = ops.length := by omega
      go_wp2_with fail
      refine (awake24 _).mono ?_
      rintro e w' ⟨rfl, hb'⟩
      go_wp2_with fail
      go_ret
      exact ⟨rfl, hb.trans (hb'.mono hb.size)⟩

/-- the walk over rows as they are opened -/
theorem pairsAt_of {w : World} {A : Option Addr} {rows : List (List Int)} (h : ∀ i, i < rows.length → ∃ b off, A = some ⟨b, off, none⟩ ∧ b < w.heap.size ∧ ∀ j, j < 2 →
      w.cell? ⟨b, off + (i * 2 + j), none⟩ = some (.int .i64 ((rows[i]?.getD [])[j]?.getD 0)) ∧ (Lit.int .i64 ((rows[i]?.getD [])[j]?.getD 0)).wf = true) :
    PairsAt w A (rows.map fun r => (r[0]?.getD 0, r[1]?.getD 0)) := by
  intro i hi
  rw [List.length_map] at hi
  obtain ⟨b, off, rfl, hb, hc⟩ := h i hi
  refine ⟨b, off, rfl, hb, ?_, ?_⟩
  · have := (hc 0 (by omega)).1
    simpa [hi] using this
  · have := (hc 1 (by omega)).1
    simpa [hi, Nat.add_assoc] using this

theorem lineRuns_any (most : Int) (A : Option Addr) (cap : Nat) (rows : List (List Int)) (w : World) (_hm : (Lit.int .i64 most).wf = true)
    (h : ∀ i, i < rows.length → ∃ b off, A = some ⟨b, off, none⟩ ∧ b < w.heap.size ∧ ∀ j, j < 2 →
      w.cell? ⟨b, off + (i * 2 + j), none⟩ = some (.int .i64 ((rows[i]?.getD [])[j]?.getD 0)) ∧ (Lit.int .i64 ((rows[i]?.getD [])[j]?.getD 0)).wf = true) (_hc : rows.length ≤ cap) :
    Calls Try.prog 3 #[.int .i64 most, .slice A rows.length cap] w fun e w' => e = .returned (.bool true) ∧ Below w.heap.size w w' := by
  have := lineRuns_walk most A cap _ w (pairsAt_of h)
  rwa [List.length_map] at this

end Go.Proofs.Ytfffncaonpokpaa
