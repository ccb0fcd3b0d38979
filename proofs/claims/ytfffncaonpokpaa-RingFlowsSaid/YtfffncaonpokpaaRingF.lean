/- RingFlows: what is pushed comes out in its order: the walk; no condition but that the numbers can be read. -/
import Derived.Test.YtfffncaonpokpaaRingA
namespace Go.Proofs.Ytfffncaonpokpaa
open Go.RowKit

def upfrom (o m : Nat) : List Int := (List.range m).map fun (j : Nat) => (o : Int) + (j : Int)
theorem upfrom_length (o m : Nat) : (upfrom o m).length = m := by simp [upfrom]
theorem upfrom_succ (o m : Nat) : upfrom o m ++ [(o : Int) + (m : Int)] = upfrom o (m + 1) := by simp [upfrom, List.range_succ]
theorem upfrom_take {o m n : Nat} (h : n ≤ m) : (upfrom o m).take n = upfrom o n := by
  apply List.ext_getElem
  · simp [upfrom]; omega
  · intro i h1 h2; simp [upfrom]
theorem upfrom_drop {o m n : Nat} : (upfrom o m).drop n = upfrom (o + n) (m - n) := by
  apply List.ext_getElem
  · simp [upfrom]
  · intro i h1 h2; simp [upfrom]; omega
theorem upfrom_get {o m j : Nat} (h : j < m) : (ints (upfrom o m))[j]? = some (.int .i64 ((o : Int) + (j : Int))) := by
  simp [upfrom, ints, h]

set_option maxRecDepth 100000 in
set_option maxHeartbeats 4000000 in
theorem ringFlows_in (size : Nat) (A : Option Addr) (c : Nat) (zs : List Int) (w : World) (hsz : 1 ≤ size) (h60 : size ≤ 60) (hz : zs.length ≤ 60) (hA : IntsAt w A zs) :
    Calls Try.prog 4 #[.int .i64 size, .slice A zs.length c] w fun e w' => e = .returned (.bool true) ∧ Below w.heap.size w w' := by
  have f1 : ¬ ((size : Int) < 1) := by omega
  have f2 : ¬ (60 < (size : Int)) := by omega
  have f3 : ¬ (60 < (zs.length : Int)) := by omega
  go_enter Try.func4, Try.ntmps4
  go_wp2_with fail
  refine (ring_new_ok size (by omega) _).mono ?_
  rintro e w1 ⟨p, g, rfl, hp, hg, hI1, hb1⟩
  go_wp2_with fail
  go_loopw [39, 7, 8] (fun i a b wr => ∃ k o m : Nat, k ≤ zs.length ∧ i = .int .i64 k ∧ a = .int .i64 ((o : Int) + (m : Int)) ∧ b = .int .i64 (o : Int) ∧ m ≤ size ∧ o ≤ 60 * k ∧ IsRing wr p g size (upfrom o m) ∧ Below w.heap.size w wr) (fun i _ _ _ => zs.length - (intOf i).toNat)
  case atStart => exact ⟨0, 0, 0, by omega, rfl, by simp, rfl, by omega, by omega, hI1, hb1⟩
  case round =>
    obtain ⟨k, o, m, hk, rfl, rfl, rfl, hm, ho, hI, hb⟩ := hrel
    by_cases hlt : k < zs.length
    · obtain ⟨b, off, rfl, hbl, hc⟩ := hA k hlt
      have hc' := (hb.cell (p := ⟨b, off + k, none⟩) hbl).trans hc
      generalize zs[k]?.getD 0 = n at hc'
      clear hc
      go_wp2_with fail
      go_loopw [7] (fun a' wr' => ∃ m' : Nat, a' = .int .i64 ((o : Int) + (m' : Int)) ∧ m' ≤ size ∧ IsRing wr' p g size (upfrom o m') ∧ Below w.heap.size w wr') (fun a' _ => o + size - (intOf a').toNat)
      case atStart => exact ⟨m, rfl, hm, hI, hb⟩
      case round =>
        obtain ⟨m', rfl, hm', hI', hb'⟩ := hrel
        by_cases hlt' : m' < size
        · go_wp2_with fail
          refine (ring_push_yes _ hI' _ (by rw [upfrom_length]; exact hlt')).mono ?_
          rintro e w2 ⟨rfl, hI2, ho2⟩
          rw [upfrom_succ] at hI2
          have hb2 := hb'.trans (Only.below (ks := [p, g]) ho2 hb'.size (by simp; omega))
          go_wp2
          go_roundw
          case rel => exact ⟨m' + 1, by go_num, by omega, hI2, hb2⟩
          case measure => simp [intOf]; omega
        · obtain rfl : m' = size := by omega
          go_wp2_with fail
          refine (ring_push_no _ hI' _ (upfrom_length _ _)).mono ?_
          rintro e w2 ⟨rfl, n2, rfl⟩
          have hI2 := hI'.drewN n2
          have hb2 := below_drewN hb' n2
          go_wp2_with fail
          by_cases hn : n < 1 ∨ (m' : Int) < n
          · refine (ring_shift_no _ hI2 n (by rw [upfrom_length]; exact hn)).mono ?_
            rintro e w3 ⟨rfl, hb3⟩
            have hI3 := hI2.below hb3 (Nat.le_refl _)
            have hb3' := hb2.trans (hb3.mono hb2.size)
            rcases hn with hn | hn
            · go_wp2_with fail
              go_loopw [83, 8] (fun j b wr => j = .int .i64 0 ∧ b = .int .i64 (o : Int) ∧ wr = w3) (fun _ _ _ => 0)
              case atStart => exact ⟨rfl, rfl, rfl⟩
              case round =>
                obtain ⟨rfl, rfl, rfl⟩ := hrel
                go_wp2_with fail
                refine (ring_len _ hI3).mono ?_
                rintro e w4 ⟨rfl, rfl⟩
                have hu := upfrom_length o m'
                have HI := Lib.hid hI3
                generalize (upfrom o m').length = L at hu
                subst hu
                go_wp2
                go_roundw
                case rel => exact ⟨k + 1, o, L, by omega, by go_num, rfl, rfl, by omega, by omega, HI.out, hb3'⟩
                case measure => simp [intOf]; omega
            · have hn1 : ¬ n < 1 := by omega
              go_wp2_with fail
              go_loopw [83, 8] (fun j b wr => j = .int .i64 0 ∧ b = .int .i64 (o : Int) ∧ wr = w3) (fun _ _ _ => 0)
              case atStart => exact ⟨rfl, rfl, rfl⟩
              case round =>
                obtain ⟨rfl, rfl, rfl⟩ := hrel
                go_wp2_with fail
                refine (ring_len _ hI3).mono ?_
                rintro e w4 ⟨rfl, rfl⟩
                have hu := upfrom_length o m'
                have HI := Lib.hid hI3
                generalize (upfrom o m').length = L at hu
                subst hu
                go_wp2
                go_roundw
                case rel => exact ⟨k + 1, o, L, by omega, by go_num, rfl, rfl, by omega, by omega, HI.out, hb3'⟩
                case measure => simp [intOf]; omega
          · obtain ⟨q, rfl⟩ : ∃ q : Nat, n = q := ⟨n.toNat, by omega⟩
            refine (ring_shift_yes _ hI2 q (by omega) (by rw [upfrom_length]; omega)).mono ?_
            rintro e w3 ⟨v, rfl, hv, hI3, ho3⟩
            rw [upfrom_take (by omega)] at hv
            rw [upfrom_drop] at hI3
            have hb3 := hb2.trans (Only.below (ks := [p, g]) ho3 hb2.size (by simp; omega))
            obtain ⟨q', rfl⟩ : ∃ q', q = q' + 1 := ⟨q - 1, by omega⟩
            obtain ⟨g', c', rfl⟩ := ownsRow_succ hv
            have hcl : ∀ t, t < q' + 1 → w3.cell? ⟨g', t, none⟩ = some (.int .i64 ((o : Int) + (t : Int))) := fun t ht => by
              rw [hv.cellAt t (by omega), upfrom_get ht]
            have hq1 : q' + 1 ≤ m' := by omega
            generalize q' + 1 = q at *
            clear hv
            have hqn : ¬ ((q : Int) < 1) := by omega
            go_wp2_with fail
            go_loopw [83, 8] (fun j b wr => ∃ t : Nat, t ≤ q ∧ j = .int .i64 t ∧ b = .int .i64 ((o : Int) + (t : Int)) ∧ wr = w3) (fun j _ _ => q - (intOf j).toNat)
            case atStart => exact ⟨0, by omega, rfl, by simp⟩
            case round =>
              obtain ⟨t, ht, rfl, rfl, rfl⟩ := hrel
              by_cases htq : t < q
              · have hct := hcl t htq
                go_wp2
                go_roundw
                case rel => exact ⟨t + 1, by omega, by go_num, by go_num, trivial⟩
                case measure => simp [intOf]; omega
              · obtain rfl : t = q := by omega
                go_wp2_with fail
                refine (ring_len _ hI3).mono ?_
                rintro e w4 ⟨rfl, rfl⟩
                have hu := upfrom_length (o + t) (m' - t)
                have HI := Lib.hid hI3
                generalize (upfrom (o + t) (m' - t)).length = L at hu
                subst hu
                go_wp2
                go_roundw
                case rel => exact ⟨k + 1, o + t, m' - t, by omega, by go_num, by congr 1; omega, by congr 1, by omega, by omega, HI.out, hb3⟩
                case measure => simp [intOf]; omega
    · obtain rfl : k = zs.length := by omega
      go_wp2_with (go_at_call 23; refine (awake12 _).mono ?_; rintro e w' ⟨rfl, hb'⟩)
      go_ret
      exact ⟨rfl, hb.trans (hb'.mono hb.size)⟩

set_option maxRecDepth 100000 in
set_option maxHeartbeats 2000000 in
theorem ringFlows_any (size : Int) (A : Option Addr) (c : Nat) (zs : List Int) (w : World) (_ : (Lit.int .i64 size).wf = true)
    (hA0 : ∀ i, i < zs.length → ∃ b off, A = some ⟨b, off, none⟩ ∧ b < w.heap.size ∧ w.cell? ⟨b, off + i, none⟩ = some (.int .i64 (zs[i]?.getD 0)) ∧ (Lit.int .i64 (zs[i]?.getD 0)).wf = true) (_ : zs.length ≤ c) :
    Calls Try.prog 4 #[.int .i64 size, .slice A zs.length c] w fun e w' => e = .returned (.bool true) ∧ Below w.heap.size w w' := by
  have hA : IntsAt w A zs := fun i hi => by obtain ⟨b, off, h1, h2, h3, _⟩ := hA0 i hi; exact ⟨b, off, h1, h2, h3⟩
  clear hA0
  by_cases h1 : size < 1
  · go_enter Try.func4, Try.ntmps4
    go_wp2_with (go_at_call 23; refine (awake12 _).mono ?_; rintro e w' ⟨rfl, hb'⟩)
    go_ret
    exact ⟨rfl, hb'⟩
  by_cases h2 : 60 < size
  · go_enter Try.func4, Try.ntmps4
    go_wp2_with (go_at_call 23; refine (awake12 _).mono ?_; rintro e w' ⟨rfl, hb'⟩)
    go_ret
    exact ⟨rfl, hb'⟩
  by_cases h3 : 60 < (zs.length : Int)
  · go_enter Try.func4, Try.ntmps4
    go_wp2_with (go_at_call 23; refine (awake12 _).mono ?_; rintro e w' ⟨rfl, hb'⟩)
    go_ret
    exact ⟨rfl, hb'⟩
  obtain ⟨s, rfl⟩ : ∃ s : Nat, size = s := ⟨size.toNat, by omega⟩
  exact ringFlows_in s A c zs w (by omega) (by omega) (by omega) hA

end Go.Proofs.Ytfffncaonpokpaa
