/- More walks of package ring: Push, forget, Cut; conditions: the receiver is a ring. -/
import Derived.Test.YtfffncaonpokpaaRing
namespace Go.Proofs.Ytfffncaonpokpaa
open Go.RowKit

attribute [local go_sem ↓] Go.wp_at_zero Go.wp_at_succ

set_option maxHeartbeats 400000 in
theorem ring_push_no {p g size : Nat} {xs : List Int} (w : World) (h : IsRing w p g size xs) (x : Int) (hf : xs.length = size) :
    Calls Try.prog 25 #[.pointer (some ⟨p, 0, none⟩), .int .i64 x] w fun e w' => e = .returned (.int .i64 23) ∧ ∃ n, w.drewN n = w' := by
  obtain ⟨cap, first, h0, h1, h2, _, hcap, hx⟩ := h.at_
  have hc : ((xs.length : Int) == (size : Int)) = true := by rw [beq_iff_eq]; omega
  clear hf hx
  go_enter Try.func25, Try.ntmps25
  go_wp2_with fail
  go_quiet (fail)
  go_wp2
  go_ret
  exact ⟨rfl, nq, rfl⟩

set_option maxHeartbeats 2000000 in
theorem ring_push_yes {p g size : Nat} {xs : List Int} (w : World) (h : IsRing w p g size xs) (x : Int) (hl : xs.length < size) :
    Calls Try.prog 25 #[.pointer (some ⟨p, 0, none⟩), .int .i64 x] w fun e w' => e = .returned (.int .i64 0) ∧ IsRing w' p g size (xs ++ [x]) ∧ Only [p, g] w w' := by
  obtain ⟨hsz, hne, cap, first, buf, hv, ho, hr, hbl⟩ := h
  have h0 := hv.cell 0
  have h1 := hv.cell 1
  have h2 := hv.cell 2
  have f2 := hv.frozen 2
  simp at h0 h1 h2
  have hf := hr.2.1 (by omega)
  have hlt : (first + xs.length) % size < size := Nat.mod_lt _ (by omega)
  have pl := fun W (c0 : W.cell? ⟨p, 0, none⟩ = some (.slice (some ⟨g, 0, none⟩) size cap)) (c1 : W.cell? ⟨p, 1, none⟩ = some (.int .i64 first)) => ring_place_raw p g cap first size xs.length W (by omega) hsz (by omega) (by omega) c0 c1
  have PL := Lib.hid pl
  have hpush := hr.push (by omega) x
  rw [hbl] at hpush
  have hcm : w.cell? ⟨g, (first + xs.length) % size, none⟩ = some (.int .i64 (buf[(first + xs.length) % size]?.getD 0)) := by
    rw [ho.cellAt _ (by omega)]
    have hb : (first + xs.length) % size < buf.length := by omega
    simp [ints, hb]
  have hfm := ho.frozenAt ((first + xs.length) % size)
  have hst := ho.stored ((first + xs.length) % size) (.int .i64 x)
  have hc : ((xs.length : Int) == (size : Int)) = false := by rw [beq_eq_false_iff_ne]; omega
  generalize (first + xs.length) % size = m at hlt PL hpush hcm hfm hst
  generalize buf[m]?.getD 0 = z at hcm
  have hm0 : (0 : Int) ≤ (m : Int) := by omega
  have hm1 : (m : Int) < (size : Int) := by omega
  have Hr := Lib.hid (And.intro hr (And.intro hbl hst))
  have Hv := Lib.hid hv
  have Ho := Lib.hid ho
  have Hp := Lib.hid hpush
  clear hr hbl pl hst hv ho hpush
  go_enter Try.func25, Try.ntmps25
  go_wp2_with fail
  go_quiet (fail)
  go_wp2_with fail
  go_region_held3 (fun w' => w'.cell? ⟨p, 0, none⟩ = some (.slice (some ⟨g, 0, none⟩) size cap) ∧ w'.cell? ⟨p, 1, none⟩ = some (.int .i64 first) ∧ w'.cell? ⟨p, 2, none⟩ = some (.int .i64 xs.length)) (go_keep)
    (first | (go_at_call 51; refine (PL.out _ (by simp [*]) (by simp [*])).mono ?_; rintro e w' ⟨rfl, n', rfl⟩))
  have k2 : (w.setCell ⟨g, m, none⟩ (.int .i64 x)).cell? ⟨p, 2, none⟩ = some (.int .i64 xs.length) := by
    rw [World.cell?_setCell_other _ _ _ _ (fun e => hne (by injection e))]; exact h2
  clear h0 h1 hcm hfm
  go_wp2
  go_ret
  have hI : IsRing ((w.setCell ⟨g, m, none⟩ (.int .i64 x)).setCell ⟨p, 2, none⟩ (.int .i64 ((xs.length : Int) + 1))) p g size (xs ++ [x]) := by
    refine ⟨hsz, hne, cap, first, buf.set m x, ?_, ?_, Hp.out, by simpa using Hr.out.2.1⟩
    · have := (Hv.out.far (p := ⟨g, m, none⟩) (Ne.symm hne) (.int .i64 x)).set_ 2 (.int .i64 ((xs.length : Int) + 1))
      simpa using this
    · have := ownsRow_setCell_other (a := ⟨p, 2, none⟩) Hr.out.2.2.1 (by simp [Value.ownBlock, hne]) (.int .i64 ((xs.length : Int) + 1))
      simpa [ints, List.map_set] using this
  have hO : Only [p, g] w ((w.setCell ⟨g, m, none⟩ (.int .i64 x)).setCell ⟨p, 2, none⟩ (.int .i64 ((xs.length : Int) + 1))) := (Only.refl.setCell (.inl (by simp)) _).setCell (.inl (by simp)) _
  exact ⟨rfl, hI.drewN _, hO.drewN _⟩

/-- what forget leaves of the buffer -/
def forgot (buf : List Int) (first : Nat) : Nat → Nat → List Int
  | 0, _ => buf
  | n + 1, k => forgot (buf.set ((first + k) % buf.length) 0) first n (k + 1)

theorem forgot_length (first : Nat) : ∀ (n k : Nat) (buf : List Int), (forgot buf first n k).length = buf.length
  | 0, _, _ => rfl
  | n + 1, k, buf => by rw [forgot, forgot_length first n]; simp
theorem forgot_succ (first : Nat) : ∀ (n k : Nat) (buf : List Int), forgot buf first (n + 1) k = (forgot buf first n k).set ((first + (k + n)) % buf.length) 0
  | 0, k, buf => by simp [forgot]
  | n + 1, k, buf => by
    rw [forgot, forgot_succ first n (k + 1)]
    rw [show forgot buf first (n + 1) k = forgot (buf.set ((first + k) % buf.length) 0) first n (k + 1) from rfl]
    simp only [List.length_set]
    rw [show k + 1 + n = k + (n + 1) by omega]
theorem forgot_from {first : Nat} {xs : List Int} : ∀ (n k : Nat) (buf : List Int), RBfrom buf first (k + n) xs → k + n ≤ xs.length → RBfrom (forgot buf first n k) first (k + n) xs
  | 0, _, _, h, _ => h
  | n + 1, k, buf, h, hn => by
    rw [forgot]
    have := forgot_from n (k + 1) _ (by rw [show k + 1 + n = k + (n + 1) by omega]; exact h.clear_ (k := k) (by omega) hn 0) (by omega)
    rwa [show k + 1 + n = k + (n + 1) by omega] at this
theorem forgot_take {first : Nat} {xs : List Int} : ∀ (n k : Nat) (buf : List Int), RB buf first xs → xs.length ≤ k → k + n ≤ buf.length → RB (forgot buf first n k) first xs
  | 0, _, _, h, _, _ => h
  | n + 1, k, buf, h, hk, hn => by
    rw [forgot]
    exact forgot_take n (k + 1) _ (h.clear_ hk (by omega) 0) (by omega) (by simp; omega)

set_option maxRecDepth 100000 in
set_option maxHeartbeats 2000000 in
/-- forget, over the ring's own cells -/
theorem ring_forget_raw (p g cap first size k0 n : Nat) (buf : List Int) (w : World) (hsz : size ≤ 1024) (hf : 0 < size → first < size) (hl : buf.length = size) (hk : k0 + n ≤ size) (X : Value) (lo hi : Int) (hlo : lo = (k0 : Int)) (hhi : hi = (k0 : Int) + (n : Int))
    (hv : Blk w p 83 #[.slice (some ⟨g, 0, none⟩) size cap, .int .i64 first, X]) (ho : w.ownsRow 0 3 1 (.slice (some ⟨g, 0, none⟩) size cap) size (ints buf)) :
    Calls Try.prog 52 #[.pointer (some ⟨p, 0, none⟩), .int .i64 lo, .int .i64 hi] w fun e w' => e = .returned (.tuple #[]) ∧ Blk w' p 83 #[.slice (some ⟨g, 0, none⟩) size cap, .int .i64 first, X] ∧
      w'.ownsRow 0 3 1 (.slice (some ⟨g, 0, none⟩) size cap) size (ints (forgot buf first n k0)) ∧ w.grownBy w' (some g) := by
  have hne : g ≠ p := by
    intro e
    exact own_blk_ne ho hv (by decide) (by simp [Value.ownBlock, e])
  subst hlo
  have hi1 : hi ≤ (k0 : Int) + (n : Int) := by omega
  have hi2 : (k0 : Int) + (n : Int) ≤ hi := by omega
  clear hhi
  go_enter Try.func52, Try.ntmps52
  go_wp2_with fail
  go_loopw [7] (fun i wr => ∃ j : Nat, j ≤ n ∧ i = .int .i64 ((k0 : Int) + (j : Int)) ∧ Blk wr p 83 #[.slice (some ⟨g, 0, none⟩) size cap, .int .i64 first, X] ∧ wr.ownsRow 0 3 1 (.slice (some ⟨g, 0, none⟩) size cap) size (ints (forgot buf first j k0)) ∧ w.grownBy wr (some g)) (fun i _ => k0 + n - (intOf i).toNat)
  case atStart => exact ⟨0, by omega, by simp, hv, ho, World.grownBy.refl _ _⟩
  case round =>
    obtain ⟨j, hj, rfl, hvr, hor, hgr⟩ := hrel
    by_cases hlt : j < n
    · have hs0 : 0 < size := by omega
      have hpl := ring_place_raw p g cap first size (k0 + j)
      have h0 := hvr.cell 0
      have h1 := hvr.cell 1
      simp at h0 h1
      have hml : (first + (k0 + j)) % size < size := Nat.mod_lt _ hs0
      have PL : Hid (∀ W, W.cell? ⟨p, 0, none⟩ = some (.slice (some ⟨g, 0, none⟩) size cap) → W.cell? ⟨p, 1, none⟩ = some (.int .i64 first) → Calls Try.prog 51 #[.pointer (some ⟨p, 0, none⟩), .int .i64 ((k0 : Int) + (j : Int))] W fun e w' => e = .returned (.int .i64 ((first + (k0 + j)) % size : Nat)) ∧ ∃ n, W.drewN n = w') :=
        fun W c0 c1 => hpl W hs0 hsz (hf hs0) (by omega) c0 c1
      have hfs := forgot_succ first j k0 buf
      rw [hl] at hfs
      have hcm : wr.cell? ⟨g, (first + (k0 + j)) % size, none⟩ = some (.int .i64 ((forgot buf first j k0)[(first + (k0 + j)) % size]?.getD 0)) := by
        rw [hor.cellAt _ (by omega)]
        have hb' : (first + (k0 + j)) % size < (forgot buf first j k0).length := by rw [forgot_length]; omega
        simp [ints, hb']
      have hfm := hor.frozenAt ((first + (k0 + j)) % size)
      have hst := (hor.stored ((first + (k0 + j)) % size) (.int .i64 0)).1
      generalize (first + (k0 + j)) % size = m at hml PL hfs hcm hfm hst
      generalize (forgot buf first j k0)[m]?.getD 0 = z at hcm
      have hm0 : (0 : Int) ≤ (m : Int) := by omega
      have hm1 : (m : Int) < (size : Int) := by omega
      have Hs := Lib.hid (And.intro hfs hst)
      have Hv := Lib.hid hvr
      have Hg := Lib.hid hgr
      clear hfs hst hvr hor hgr hpl hv ho
      go_wp2_with fail
      go_region_held3 (fun w' => w'.cell? ⟨p, 0, none⟩ = some (.slice (some ⟨g, 0, none⟩) size cap) ∧ w'.cell? ⟨p, 1, none⟩ = some (.int .i64 first)) (go_keep)
        (first | (go_at_call 51; refine (PL.out _ (by simp [*]) (by simp [*])).mono ?_; rintro e w' ⟨rfl, n', rfl⟩))
      go_wp2
      go_roundw
      case rel =>
        refine ⟨j + 1, by omega, by go_num, ?_, ?_, ?_⟩
        · exact (Hv.out.drewN _).far (p := ⟨g, m, none⟩) (Ne.symm hne) (.int .i64 0)
        · rw [Hs.out.1]
          have := Hs.out.2
          rw [show (ints (forgot buf first j k0)).set m (Value.int IntKind.i64 0) = ints ((forgot buf first j k0).set m 0) from by simp [ints, List.map_set]] at this
          exact this
        · exact only_setCell (only_drewN Hg.out _) (.inl rfl) _
      case measure => simp [intOf]; omega
    · obtain rfl : j = n := by omega
      go_wp2
      go_end0
      exact ⟨rfl, hvr, hor, hgr⟩

end Go.Proofs.Ytfffncaonpokpaa
