/- The fixed answer of the statements of layer 12: true; no condition. -/
import Derived.Test.YtfffncaonpokpaaRingS
namespace Go.Proofs.Ytfffncaonpokpaa
open Go.RowKit

set_option maxRecDepth 100000 in
set_option maxHeartbeats 2000000 in
theorem awake12 (w : World) : Calls Try.prog 23 #[] w fun e w' => e = .returned (.bool true) ∧ Below w.heap.size w w' := by
  go_enter Try.func23, Try.ntmps23
  go_wp2_with fail
  refine (ring_new_ok 2 (by omega) _).mono ?_
  rintro e w1 ⟨p, g, rfl, hp, hg, hI1, hb1⟩
  go_wp2_with fail
  refine (ring_new_no (-1) (by omega) _).mono ?_
  rintro e w2 ⟨rfl, rfl⟩
  go_wp2_with fail
  refine (ring_push_yes _ hI1 1 (by simp)).mono ?_
  rintro e w2 ⟨rfl, hI2, hb2⟩
  go_wp2_with fail
  refine (ring_push_yes _ hI2 2 (by simp)).mono ?_
  rintro e w3 ⟨rfl, hI3, hb3⟩
  go_wp2_with fail
  refine (ring_push_no _ hI3 3 (by simp)).mono ?_
  rintro e w4 ⟨rfl, n4, rfl⟩
  go_wp2_with fail
  refine (ring_shift_yes _ (hI3.drewN n4) 1 (by omega) (by simp)).mono ?_
  rintro e w5 ⟨v, rfl, hv5, hI5', hb5⟩
  have hI5 : IsRing w5 p g 2 [2] := hI5'
  clear hI5'
  go_wp2_with fail
  refine (ring_push_yes _ hI5 3 (by simp)).mono ?_
  rintro e w6 ⟨rfl, hI6, hb6⟩
  go_wp2_with fail
  refine (ring_at_yes _ hI6 1 (by simp)).mono ?_
  rintro e w7 ⟨rfl, n7, rfl⟩
  obtain ⟨g', c', rfl⟩ := ownsRow_succ (n := 0) hv5
  have hg' := (hv5.lt g' rfl)
  have hpl := hI3.lt
  have hc5 : w5.cell? ⟨g', 0, none⟩ = some (.int .i64 1) := hv5.cellAt 0 (by omega)
  have hc : w6.cell? ⟨g', 0, none⟩ = some (.int .i64 1) := (hb6.cell (p := ⟨g', 0, none⟩) (by simp at hg' ⊢; omega) hg'.2).trans hc5
  go_wp2_with fail
  refine (ring_len _ (hI6.drewN n7)).mono ?_
  rintro e w8 ⟨rfl, rfl⟩
  go_wp2_with fail
  refine (ring_size _ (hI6.drewN n7)).mono ?_
  rintro e w8 ⟨rfl, rfl⟩
  go_wp2_with fail
  refine (ring_cut_yes _ (hI6.drewN n7) 1 (by simp)).mono ?_
  rintro e w9 ⟨rfl, hI9, hb9⟩
  go_wp2_with fail
  refine (ring_len _ hI9).mono ?_
  rintro e w8 ⟨rfl, rfl⟩
  go_wp2_with fail
  refine (ring_cut_no _ hI9 2 (by simp)).mono ?_
  rintro e w10 ⟨rfl, rfl⟩
  go_wp2_with fail
  go_ret
  refine ⟨rfl, hb1.trans ?_⟩
  exact Only.below (ks := [p, g]) (hb2.trans (hb3.trans ((Only.refl.drewN n4).trans (hb5.trans (hb6.trans ((Only.refl.drewN n7).trans hb9)))))) hb1.size (by simp; omega)

end Go.Proofs.Ytfffncaonpokpaa
