/- The fixed answer of the statements of layer 24: true; no condition. -/
import Derived.Test.YtfffncaonpokpaaLine
namespace Go.Proofs.Ytfffncaonpokpaa
open Go.RowKit

set_option maxRecDepth 100000 in
set_option maxHeartbeats 1000000 in
theorem awake24 (w : World) : Calls Try.prog 14 #[] w fun e w' => e = .returned (.bool true) ∧ Below w.heap.size w w' := by
  go_enter Try.func14, Try.ntmps14
  go_wp2_with fail
  refine (line_new_ok 2 (by omega) (by omega) _).mono ?_
  rintro e w1 ⟨rfl, hI1, hb1⟩
  go_wp2_with fail
  refine (line_new_no 0 (by omega) _).mono ?_
  rintro e w2 ⟨rfl, rfl⟩
  go_wp2_with fail
  have hs1 := hb1.size
  refine (line_add_yes _ hI1 7 (by simp) (by simp) hs1).mono ?_
  rintro e w2 ⟨rfl, hI2, hb2, _⟩
  go_wp2_with fail
  have hs2 := hb2.size
  refine (line_add_yes _ hI2 8 (by simp) (by simp) (by omega)).mono ?_
  rintro e w3 ⟨rfl, hI3, hb3, _⟩
  go_wp2_with fail
  refine (line_add_no _ hI3 9 (by simp)).mono ?_
  rintro e w4 ⟨rfl, n4, rfl⟩
  go_wp2_with fail
  refine (line_start_yes _ (hI3.drewN n4) (by simp) (by simp)).mono ?_
  rintro e w5 ⟨rfl, hI5, hb5, _⟩
  go_wp2_with fail
  refine (line_remove_yes _ hI5 0 (by simp) (by simp) (by simp)).mono ?_
  rintro e w6 ⟨rfl, hI6', hb6, _⟩
  have hI6 : IsLine w6 w.heap.size w.heap.size 2 [8] 0 := hI6'
  clear hI6'
  go_wp2_with fail
  refine (line_remove_no _ hI6 1 (by simp)).mono ?_
  rintro e w7 ⟨rfl, rfl⟩
  go_wp2_with fail
  refine (line_at_yes _ hI6 0 (by simp) (by simp)).mono ?_
  rintro e w8 ⟨rfl, rfl⟩
  go_wp2_with fail
  refine (line_len _ hI6).mono ?_
  rintro e w9 ⟨rfl, rfl⟩
  go_wp2_with fail
  refine (line_running _ hI6).mono ?_
  rintro e w10 ⟨rfl, rfl⟩
  go_wp2_with fail
  refine (line_stop_no _ hI6).mono ?_
  rintro e w11 ⟨rfl, rfl⟩
  go_wp2_with fail
  refine (line_start_yes _ hI6 (by simp) (by simp)).mono ?_
  rintro e w12 ⟨rfl, hI12, hb12, _⟩
  go_wp2_with fail
  refine (line_start_no _ hI12 (by simp)).mono ?_
  rintro e w13 ⟨rfl, n13, rfl⟩
  go_wp2_with fail
  go_ret
  exact ⟨rfl, (((below_drewN ((hb1.trans hb2).trans hb3) n4).trans hb5).trans hb6).trans (below_drewN hb12 n13)⟩

end Go.Proofs.Ytfffncaonpokpaa
