/- TierParses: the card: for every input the law returns true; the laid variables hold what the card ties to the text. Conditions: as each theorem states; the last one has none. -/
import Derived.Test.YtmldhpnkkkmloaaDoorCards
import Derived.Test.YtmldhpnkkkmloaaDoorTie
import Derived.WalkKit
import Derived.ProofKit
import Derived.OpenShut
import Derived.ShutString
import Derived.ChangeOld
import Derived.Below
import Derived.SizedLaws
import Derived.Lay
import Derived.LaidOnce
import Derived.SevenTiedAt
import Derived.Test.YtmldhpnkkkmloaaDoorWSized
import Derived.Test.YtmldhpnkkkmloaaDoorCTierParsesCard1
import Derived.Test.YtmldhpnkkkmloaaDoorCTierParsesCard2
import Derived.Test.YtmldhpnkkkmloaaDoorCTierParsesCard3
namespace Go.Proofs.YtmldhpnkkkmloaaDoor.Q
open Go.RowKit Go.Proofs.YtmldhpnkkkmloaaDoorW.PrintWords Go.Proofs.YtmldhpnkkkmloaaDoorW.PrintLast Go.Proofs.YtmldhpnkkkmloaaDoorW.PrintMore
attribute [local go_sem] max2_int min2_int max_two min_two max_three min_three max_four min_four   -- for this text's walks alone
set_option linter.unusedVariables false
set_option linter.unusedSimpArgs false

/-! ### credenzaref09_Parse: function 17 -/
mutual
def credenzaref09_Parse.j0 : Nat → ByteArray → Int → Int → Bool → Int → Int → Option (Int × Int × (List (S51)) × Int)
 | 0, _, _, _, _, _, _ => none
 | k + 1, x0, x6, x9, x59, x301000, x301001 => if x59 = true then (some (x301000, x301001, ([] : List (S51)), 10)) else (credenzaref09_Parse.l0 k x0 x6 x9 ([] : List (S51)))
def credenzaref09_Parse.l0 : Nat → ByteArray → Int → Int → List (S51) → Option (Int × Int × (List (S51)) × Int)
 | 0, _, _, _, _ => none
 | k + 1, x0, x301000, x301001, x301002 => if x0.toList = ([] : List UInt8) then ((credenzaref09_Right.f k x301000 x301001 x301002).bind fun t311 => (if t311 = 0 then (some (x301000, x301001, x301002, 0)) else (some (0, 0, ([] : List (S51)), t311)))) else ((credenzaref09_after.f x0 (⟨#[32]⟩ : ByteArray)).bind fun bt312 => ((credenzaref09_Number.f k bt312.1).bind fun bt314 => ((credenzaref09_after.f bt314.2.1 (⟨#[47]⟩ : ByteArray)).bind fun bt317 => ((credenzaref09_Number.f k bt317.1).bind fun bt319 => (if bt312.2 = true then (if bt314.2.2 = true then (if bt317.2 = true then (if bt319.2.2 = true then (if x301002.length < 8796093022208 then (credenzaref09_Parse.l0 k bt319.2.1 x301000 x301001 (x301002 ++ [(⟨bt314.1, bt319.1⟩ : S51)])) else (none)) else (some (0, 0, ([] : List (S51)), 10))) else (some (0, 0, ([] : List (S51)), 10))) else (some (0, 0, ([] : List (S51)), 10))) else (some (0, 0, ([] : List (S51)), 10)))))))
end
def credenzaref09_Parse.f (k : Nat) (a0 : ByteArray) : Option (Int × Int × (List (S51)) × Int) := (credenzaref09_after.f a0 (⟨#[103]⟩ : ByteArray)).bind fun bt301 => ((credenzaref09_Number.f k bt301.1).bind fun bt303 => ((credenzaref09_after.f bt303.2.1 (⟨#[32, 119]⟩ : ByteArray)).bind fun bt306 => ((credenzaref09_Number.f k bt306.1).bind fun bt308 => (if bt301.2 = true then (if bt303.2.2 = true then (if bt306.2 = true then (if bt308.2.2 = true then (credenzaref09_Parse.j0 k bt308.2.1 bt303.1 bt308.1 (bt308.2.1.toList == ([] : List UInt8)) 0 0) else (credenzaref09_Parse.j0 k bt308.2.1 bt303.1 bt308.1 true 0 0)) else (credenzaref09_Parse.j0 k bt308.2.1 bt303.1 bt308.1 true 0 0)) else (credenzaref09_Parse.j0 k bt308.2.1 bt303.1 bt308.1 true 0 0)) else (credenzaref09_Parse.j0 k bt308.2.1 bt303.1 bt308.1 true 0 0)))))
theorem credenzaref09_Parse.mono_l : ∀ k, (∀ y0 y1 y2 y3 y4 y5, LeO (credenzaref09_Parse.j0 k y0 y1 y2 y3 y4 y5) (credenzaref09_Parse.j0 (k + 1) y0 y1 y2 y3 y4 y5)) ∧ (∀ y0 y1 y2 y3, LeO (credenzaref09_Parse.l0 k y0 y1 y2 y3) (credenzaref09_Parse.l0 (k + 1) y0 y1 y2 y3))
 | 0 => ⟨fun _ _ _ _ _ _ r h => by simp [credenzaref09_Parse.j0] at h, fun _ _ _ _ r h => by simp [credenzaref09_Parse.l0] at h⟩
 | k + 1 => by
  obtain ⟨ih0, ih1⟩ := credenzaref09_Parse.mono_l k
  refine ⟨?_, ?_⟩
  ·intro y0 y1 y2 y3 y4 y5
   unfold credenzaref09_Parse.j0
   repeat' first
   | (with_reducible exact ih0 _ _ _ _ _ _)
   | (with_reducible exact ih1 _ _ _ _)
   | (with_reducible exact credenzaref09_Number.mono _ _)
   | (with_reducible exact credenzaref09_Right.mono _ _ _ _)
   | (with_reducible exact LeO.refl _)
   | (with_reducible exact LeO.none _)
   | (with_reducible refine LeO.ite ?_ ?_)
   | (with_reducible refine LeO.bind ?_ (fun _ => ?_))
   | exact ih0 _ _ _ _ _ _
   | exact ih1 _ _ _ _
   | exact credenzaref09_Number.mono _ _
   | exact credenzaref09_Right.mono _ _ _ _
   | exact LeO.none _
   | refine LeO.ite ?_ ?_
   | refine LeO.bind ?_ (fun _ => ?_)
  ·intro y0 y1 y2 y3
   unfold credenzaref09_Parse.l0
   repeat' first
   | (with_reducible exact ih0 _ _ _ _ _ _)
   | (with_reducible exact ih1 _ _ _ _)
   | (with_reducible exact credenzaref09_Number.mono _ _)
   | (with_reducible exact credenzaref09_Right.mono _ _ _ _)
   | (with_reducible exact LeO.refl _)
   | (with_reducible exact LeO.none _)
   | (with_reducible refine LeO.ite ?_ ?_)
   | (with_reducible refine LeO.bind ?_ (fun _ => ?_))
   | exact ih0 _ _ _ _ _ _
   | exact ih1 _ _ _ _
   | exact credenzaref09_Number.mono _ _
   | exact credenzaref09_Right.mono _ _ _ _
   | exact LeO.none _
   | refine LeO.ite ?_ ?_
   | refine LeO.bind ?_ (fun _ => ?_)
theorem credenzaref09_Parse.mono : ∀ a0 k, LeO (credenzaref09_Parse.f k a0) (credenzaref09_Parse.f (k + 1) a0) := by
 intro a0 k
 obtain ⟨ih0, ih1⟩ := credenzaref09_Parse.mono_l k
 unfold credenzaref09_Parse.f
 repeat' first
   | (with_reducible exact ih0 _ _ _ _ _ _)
   | (with_reducible exact ih1 _ _ _ _)
   | (with_reducible exact credenzaref09_Number.mono _ _)
   | (with_reducible exact credenzaref09_Right.mono _ _ _ _)
   | (with_reducible exact LeO.refl _)
   | (with_reducible exact LeO.none _)
   | (with_reducible refine LeO.ite ?_ ?_)
   | (with_reducible refine LeO.bind ?_ (fun _ => ?_))
   | exact ih0 _ _ _ _ _ _
   | exact ih1 _ _ _ _
   | exact credenzaref09_Number.mono _ _
   | exact credenzaref09_Right.mono _ _ _ _
   | exact LeO.none _
   | refine LeO.ite ?_ ?_
   | refine LeO.bind ?_ (fun _ => ?_)
set_option maxHeartbeats 8000000 in
set_option maxRecDepth 100000 in
theorem credenzaref09_Parse.calls (k : Nat) (a0 : ByteArray) (r1 : Int) (r2 : Int) (r3 : List (S51)) (r4 : Int) (w : World) (h : credenzaref09_Parse.f k a0 = some (r1, r2, r3, r4)) :
  Calls Tryd.prog 17 #[.string a0] w fun e w' => ∃ v2_ : Value, e = .returned (.tuple #[.agg #[.int .i64 r1, .int .i64 r2, v2_], .int .i64 r4]) ∧ Kd.R k51 51 w' w.heap.size (fun _ => True) v2_ r3 ∧ Below w.heap.size w w' := by
 have hu32 := Tryd.underlying32
 have hu51 := Tryd.underlying51
 have HB := Aside0.mk (Below.refl w.heap.size w)
 have H : ((credenzaref09_after.f a0 (⟨#[103]⟩ : ByteArray)).bind fun bt301 => ((credenzaref09_Number.f k bt301.1).bind fun bt303 => ((credenzaref09_after.f bt303.2.1 (⟨#[32, 119]⟩ : ByteArray)).bind fun bt306 => ((credenzaref09_Number.f k bt306.1).bind fun bt308 => (if bt301.2 = true then (if bt303.2.2 = true then (if bt306.2 = true then (if bt308.2.2 = true then (credenzaref09_Parse.j0 k bt308.2.1 bt303.1 bt308.1 (bt308.2.1.toList == ([] : List UInt8)) 0 0) else (credenzaref09_Parse.j0 k bt308.2.1 bt303.1 bt308.1 true 0 0)) else (credenzaref09_Parse.j0 k bt308.2.1 bt303.1 bt308.1 true 0 0)) else (credenzaref09_Parse.j0 k bt308.2.1 bt303.1 bt308.1 true 0 0)) else (credenzaref09_Parse.j0 k bt308.2.1 bt303.1 bt308.1 true 0 0)))))) = some (r1, r2, r3, r4) := h
 clear h
 replace H := Option.bind_eq_some_iff.mp H
 obtain ⟨⟨t301, t302⟩, A20, H⟩ := H
 replace H : ((credenzaref09_Number.f k t301).bind fun bt303 => ((credenzaref09_after.f bt303.2.1 (⟨#[32, 119]⟩ : ByteArray)).bind fun bt306 => ((credenzaref09_Number.f k bt306.1).bind fun bt308 => (if t302 = true then (if bt303.2.2 = true then (if bt306.2 = true then (if bt308.2.2 = true then (credenzaref09_Parse.j0 k bt308.2.1 bt303.1 bt308.1 (bt308.2.1.toList == ([] : List UInt8)) 0 0) else (credenzaref09_Parse.j0 k bt308.2.1 bt303.1 bt308.1 true 0 0)) else (credenzaref09_Parse.j0 k bt308.2.1 bt303.1 bt308.1 true 0 0)) else (credenzaref09_Parse.j0 k bt308.2.1 bt303.1 bt308.1 true 0 0)) else (credenzaref09_Parse.j0 k bt308.2.1 bt303.1 bt308.1 true 0 0))))) = some (r1, r2, r3, r4) := H
 have A2 := Aside0.mk A20
 clear A20
 replace H := Option.bind_eq_some_iff.mp H
 obtain ⟨⟨t303, t304, t305⟩, A30, H⟩ := H
 replace H : ((credenzaref09_after.f t304 (⟨#[32, 119]⟩ : ByteArray)).bind fun bt306 => ((credenzaref09_Number.f k bt306.1).bind fun bt308 => (if t302 = true then (if t305 = true then (if bt306.2 = true then (if bt308.2.2 = true then (credenzaref09_Parse.j0 k bt308.2.1 t303 bt308.1 (bt308.2.1.toList == ([] : List UInt8)) 0 0) else (credenzaref09_Parse.j0 k bt308.2.1 t303 bt308.1 true 0 0)) else (credenzaref09_Parse.j0 k bt308.2.1 t303 bt308.1 true 0 0)) else (credenzaref09_Parse.j0 k bt308.2.1 t303 bt308.1 true 0 0)) else (credenzaref09_Parse.j0 k bt308.2.1 t303 bt308.1 true 0 0)))) = some (r1, r2, r3, r4) := H
 have A3 := Aside0.mk A30
 clear A30
 replace H := Option.bind_eq_some_iff.mp H
 obtain ⟨⟨t306, t307⟩, A40, H⟩ := H
 replace H : ((credenzaref09_Number.f k t306).bind fun bt308 => (if t302 = true then (if t305 = true then (if t307 = true then (if bt308.2.2 = true then (credenzaref09_Parse.j0 k bt308.2.1 t303 bt308.1 (bt308.2.1.toList == ([] : List UInt8)) 0 0) else (credenzaref09_Parse.j0 k bt308.2.1 t303 bt308.1 true 0 0)) else (credenzaref09_Parse.j0 k bt308.2.1 t303 bt308.1 true 0 0)) else (credenzaref09_Parse.j0 k bt308.2.1 t303 bt308.1 true 0 0)) else (credenzaref09_Parse.j0 k bt308.2.1 t303 bt308.1 true 0 0))) = some (r1, r2, r3, r4) := H
 have A4 := Aside0.mk A40
 clear A40
 replace H := Option.bind_eq_some_iff.mp H
 obtain ⟨⟨t308, t309, t310⟩, A50, H⟩ := H
 replace H : (if t302 = true then (if t305 = true then (if t307 = true then (if t310 = true then (credenzaref09_Parse.j0 k t309 t303 t308 (t309.toList == ([] : List UInt8)) 0 0) else (credenzaref09_Parse.j0 k t309 t303 t308 true 0 0)) else (credenzaref09_Parse.j0 k t309 t303 t308 true 0 0)) else (credenzaref09_Parse.j0 k t309 t303 t308 true 0 0)) else (credenzaref09_Parse.j0 k t309 t303 t308 true 0 0)) = some (r1, r2, r3, r4) := H
 have A5 := Aside0.mk A50
 clear A50
 have HC6 := Aside0.mk H
 clear H
 go_enter Tryd.func17, Tryd.ntmps17
 go_upto_region 6 with (first | ((with_reducible refine gate_dst (N := 2) rfl ?_); refine box_event ?hg (N := 2) ?hd (cs := #[.int .i64 0, .int .i64 0, .slice none 0 0]) (t := 32) ?hr ?_; (case hd => rfl); (case hg => rfl); (case hr => first | (go_simp; done) | (go_simp; rfl)); intro gb299 hg w7 hbox hb; have n0_ := Aside0.mk (below_step (by repeat (first | (with_reducible first | exact HB.out | apply below_alloc | apply pw_below_drewN | apply below_drew1) | exact HB.out)) hb); have n1_ := Aside0.mk (hbox); have n2_ := Aside0.mk ((by rw [hg]; exact (below_size (by repeat (first | (with_reducible first | exact HB.out | apply below_alloc | apply pw_below_drewN | apply below_drew1) | exact HB.out))) : w.heap.size ≤ gb299)); have n3_ := Aside0.mk ((by rw [hg]; exact (below_size (by repeat (first | (with_reducible first | exact HB.out | apply below_alloc | apply pw_below_drewN | apply below_drew1) | exact HB.out))) : w.heap.size ≤ gb299)); clear HB; have HB := n0_; have BK299 := n1_; have GW299 := n2_; have GE299 := n3_; clear n0_ n1_ n2_ n3_; clear hb hbox hg) | ((with_reducible refine gate_dst (N := 4) rfl ?_); refine box_event ?hg (N := 4) ?hd (cs := #[.int .i64 0, .int .i64 0, .slice none 0 0]) (t := 32) ?hr ?_; (case hd => rfl); (case hg => rfl); (case hr => first | (go_simp; done) | (go_simp; rfl)); intro gb300 hg w8 hbox hb; have n0_ := Aside0.mk (blk_below (g := gb299) (o := .cells #[.int .i64 0, .int .i64 0, .slice none 0 0] 32 (0, 0)) (by (with_reducible repeat (first | refine blk_drewN ?_ _ | refine blk_drew ?_ | refine blk_alloc ?_ _)); exact BK299.out) hb); have n1_ := Aside0.mk (below_step (by repeat (first | (with_reducible first | exact HB.out | apply below_alloc | apply pw_below_drewN | apply below_drew1 | refine below_set ?_ GE299.out) | exact HB.out)) hb); have n2_ := Aside0.mk (hbox); have n3_ := Aside0.mk ((by rw [hg]; exact (below_size (by repeat (first | (with_reducible first | exact HB.out | apply below_alloc | apply pw_below_drewN | apply below_drew1 | refine below_set ?_ GE299.out) | exact HB.out))) : w.heap.size ≤ gb300)); have n4_ := Aside0.mk ((by rw [hg]; exact (below_size (by repeat (first | (with_reducible first | exact HB.out | apply below_alloc | apply pw_below_drewN | apply below_drew1 | refine below_set ?_ GE299.out) | exact HB.out))) : w.heap.size ≤ gb300)); have n5_ := Aside0.mk ((by rw [hg]; exact Nat.ne_of_lt (blk_lt (g := gb299) (o := .cells #[.int .i64 0, .int .i64 0, .slice none 0 0] 32 (0, 0)) (by (with_reducible repeat (first | refine blk_drewN ?_ _ | refine blk_drew ?_ | refine blk_alloc ?_ _)); exact BK299.out)) : gb299 ≠ gb300)); have n6_ := Aside0.mk ((by rw [hg]; exact Nat.ne_of_gt (blk_lt (g := gb299) (o := .cells #[.int .i64 0, .int .i64 0, .slice none 0 0] 32 (0, 0)) (by (with_reducible repeat (first | refine blk_drewN ?_ _ | refine blk_drew ?_ | refine blk_alloc ?_ _)); exact BK299.out)) : gb300 ≠ gb299)); clear BK299; clear HB; have BK299 := n0_; have HB := n1_; have BK300 := n2_; have GW300 := n3_; have GE300 := n4_; have NB299_300 := n5_; have NB300_299 := n6_; clear n0_ n1_ n2_ n3_ n4_ n5_ n6_; clear hb hbox hg; have hnb9 := NB300_299.out; have hnc9 := NB299_300.out; have hcz10_0 : w8.cell? ⟨gb300, 0, none⟩ = some (.int .i64 0) := (blk_cell BK300.out 0).trans rfl; have hcz10_1 : w8.cell? ⟨gb300, 1, none⟩ = some (.int .i64 0) := (blk_cell BK300.out 1).trans rfl; have hcz10_2 : w8.cell? ⟨gb300, 2, none⟩ = some (.slice none 0 0) := (blk_cell BK300.out 2).trans rfl; have hfz10_0 := blk_frozen BK300.out 0; have hfz10_1 := blk_frozen BK300.out 1; have hfz10_2 := blk_frozen BK300.out 2) | ((with_reducible refine gate_callee (f := 32) rfl ?_); refine goesL_ (some 22) rfl rfl Tryd.func32 (by kernel_rfl) rfl #[.string a0, .string (⟨#[103]⟩ : ByteArray)] rfl (by (try simp only [List.map_toArray, List.map_cons, List.map_nil]); first | done | rfl | (simp only [List.length_drop, List.length_take]; rfl)) ?_; (with_reducible refine (credenzaref09_after.calls a0 (⟨#[103]⟩ : ByteArray) t301 t302 _ A2.out).mono ?_); rintro e w' ⟨rfl, ⟨nd, rfl⟩⟩; refine ⟨_, rfl, ?_⟩) | ((with_reducible refine gate_callee (f := 33) rfl ?_); refine goesL_ (some 27) rfl rfl Tryd.func33 (by kernel_rfl) rfl #[.string t301] rfl (by (try simp only [List.map_toArray, List.map_cons, List.map_nil]); first | done | rfl | (simp only [List.length_drop, List.length_take]; rfl)) ?_; (with_reducible refine (credenzaref09_Number.calls k t301 t303 t304 t305 _ A3.out).mono ?_); rintro e w11 ⟨rfl, hb⟩; refine ⟨_, rfl, ?_⟩; have n0_ := Aside0.mk (blk_below (g := gb299) (o := .cells #[.int .i64 0, .int .i64 0, .slice none 0 0] 32 (0, 0)) (by (with_reducible repeat (first | refine blk_drewN ?_ _ | refine blk_drew ?_ | refine blk_alloc ?_ _)); refine blk_far ?_ NB299_300.out _; (with_reducible repeat (first | refine blk_drewN ?_ _ | refine blk_drew ?_ | refine blk_alloc ?_ _)); refine blk_far ?_ NB299_300.out _; (with_reducible repeat (first | refine blk_drewN ?_ _ | refine blk_drew ?_ | refine blk_alloc ?_ _)); refine blk_far ?_ NB299_300.out _; (with_reducible repeat (first | refine blk_drewN ?_ _ | refine blk_drew ?_ | refine blk_alloc ?_ _)); exact BK299.out) hb); have n1_ := Aside0.mk (blk_below (g := gb300) (o := .cells #[.int .i64 0, .int .i64 0, .slice none 0 0] 32 (0, 0)) (by (with_reducible repeat (first | refine blk_drewN ?_ _ | refine blk_drew ?_ | refine blk_alloc ?_ _)); refine blk_put (cs := #[.int .i64 0, .int .i64 0, .slice none 0 0]) ?_ 2 _ rfl; (with_reducible repeat (first | refine blk_drewN ?_ _ | refine blk_drew ?_ | refine blk_alloc ?_ _)); refine blk_put (cs := #[.int .i64 0, .int .i64 0, .slice none 0 0]) ?_ 1 _ rfl; (with_reducible repeat (first | refine blk_drewN ?_ _ | refine blk_drew ?_ | refine blk_alloc ?_ _)); refine blk_put (cs := #[.int .i64 0, .int .i64 0, .slice none 0 0]) ?_ 0 _ rfl; (with_reducible repeat (first | refine blk_drewN ?_ _ | refine blk_drew ?_ | refine blk_alloc ?_ _)); exact BK300.out) hb); have n2_ := Aside0.mk (below_step (by repeat (first | (with_reducible first | exact HB.out | apply below_alloc | apply pw_below_drewN | apply below_drew1 | refine below_set ?_ GE299.out | refine below_set ?_ GE300.out) | exact HB.out)) hb); clear BK299; clear BK300; clear HB; have BK299 := n0_; have BK300 := n1_; have HB := n2_; clear n0_ n1_ n2_; (try clear hb); (try clear hb2); (try clear hk); (try clear hi)) | ((with_reducible refine gate_callee (f := 32) rfl ?_); refine goesL_ (some 33) rfl rfl Tryd.func32 (by kernel_rfl) rfl #[.string t304, .string (⟨#[32, 119]⟩ : ByteArray)] rfl (by (try simp only [List.map_toArray, List.map_cons, List.map_nil]); first | done | rfl | (simp only [List.length_drop, List.length_take]; rfl)) ?_; (with_reducible refine (credenzaref09_after.calls t304 (⟨#[32, 119]⟩ : ByteArray) t306 t307 _ A4.out).mono ?_); rintro e w' ⟨rfl, ⟨nd, rfl⟩⟩; refine ⟨_, rfl, ?_⟩) | ((with_reducible refine gate_callee (f := 33) rfl ?_); refine goesL_ (some 38) rfl rfl Tryd.func33 (by kernel_rfl) rfl #[.string t306] rfl (by (try simp only [List.map_toArray, List.map_cons, List.map_nil]); first | done | rfl | (simp only [List.length_drop, List.length_take]; rfl)) ?_; (with_reducible refine (credenzaref09_Number.calls k t306 t308 t309 t310 _ A5.out).mono ?_); rintro e w12 ⟨rfl, hb⟩; refine ⟨_, rfl, ?_⟩; have n0_ := Aside0.mk (blk_below (g := gb299) (o := .cells #[.int .i64 0, .int .i64 0, .slice none 0 0] 32 (0, 0)) (by (with_reducible repeat (first | refine blk_drewN ?_ _ | refine blk_drew ?_ | refine blk_alloc ?_ _)); exact BK299.out) hb); have n1_ := Aside0.mk (blk_below (g := gb300) (o := .cells #[.int .i64 0, .int .i64 0, .slice none 0 0] 32 (0, 0)) (by (with_reducible repeat (first | refine blk_drewN ?_ _ | refine blk_drew ?_ | refine blk_alloc ?_ _)); exact BK300.out) hb); have n2_ := Aside0.mk (below_step (by repeat (first | (with_reducible first | exact HB.out | apply below_alloc | apply pw_below_drewN | apply below_drew1 | refine below_set ?_ GE299.out | refine below_set ?_ GE300.out) | exact HB.out)) hb); clear BK299; clear BK300; clear HB; have BK299 := n0_; have BK300 := n1_; have HB := n2_; clear n0_ n1_ n2_; (try clear hb); (try clear hb2); (try clear hk); (try clear hi)))
 (try simp only [Act.put, List.setIfInBounds_toArray, List.set_cons_zero, List.set_cons_succ])
 go_cut [59] (fun v59 wc => ∃ (kq : Nat) (x59_5 : Bool), v59 = .bool x59_5 ∧ Aside0 (credenzaref09_Parse.j0 kq t309 t303 t308 x59_5 0 0 = some (r1, r2, r3, r4)) ∧ Aside0 (kq ≤ k) ∧ Aside0 (wc.heap[gb299]? = some (.cells #[.int .i64 0, .int .i64 0, (.slice none 0 0)] 32 (0, 0))) ∧ Aside0 (wc.heap[gb300]? = some (.cells #[.int .i64 0, .int .i64 0, (.slice none 0 0)] 32 (0, 0))) ∧ Aside0 (Below w.heap.size w wc))
 case first =>
  have H := HC6.out
  clear HC6
  by_cases c13 : t302 = true
  ·subst c13
   have H1 : (if t305 = true then (if t307 = true then (if t310 = true then (credenzaref09_Parse.j0 k t309 t303 t308 (t309.toList == ([] : List UInt8)) 0 0) else (credenzaref09_Parse.j0 k t309 t303 t308 true 0 0)) else (credenzaref09_Parse.j0 k t309 t303 t308 true 0 0)) else (credenzaref09_Parse.j0 k t309 t303 t308 true 0 0)) = some (r1, r2, r3, r4) := by rw [if_pos rfl] at H; exact H
   clear H
   have H := H1
   clear H1
   by_cases c14 : t305 = true
   ·subst c14
    have H1 : (if t307 = true then (if t310 = true then (credenzaref09_Parse.j0 k t309 t303 t308 (t309.toList == ([] : List UInt8)) 0 0) else (credenzaref09_Parse.j0 k t309 t303 t308 true 0 0)) else (credenzaref09_Parse.j0 k t309 t303 t308 true 0 0)) = some (r1, r2, r3, r4) := by rw [if_pos rfl] at H; exact H
    clear H
    have H := H1
    clear H1
    by_cases c15 : t307 = true
    ·subst c15
     have H1 : (if t310 = true then (credenzaref09_Parse.j0 k t309 t303 t308 (t309.toList == ([] : List UInt8)) 0 0) else (credenzaref09_Parse.j0 k t309 t303 t308 true 0 0)) = some (r1, r2, r3, r4) := by rw [if_pos rfl] at H; exact H
     clear H
     have H := H1
     clear H1
     by_cases c16 : t310 = true
     ·subst c16
      have H1 : (credenzaref09_Parse.j0 k t309 t303 t308 (t309.toList == ([] : List UInt8)) 0 0) = some (r1, r2, r3, r4) := by rw [if_pos rfl] at H; exact H
      clear H
      have H := H1
      clear H1
      have H' := Aside0.mk H
      clear H
      go_wp2
      go_meet
      case rel => exact ⟨_, ((t309.toList == ([] : List UInt8))), (by first | rfl | (simp; done) | (simp [*]; done)), H', ⟨by first | omega | exact Nat.le_refl _⟩, ⟨by (with_reducible repeat (first | refine blk_drewN ?_ _ | refine blk_drew ?_ | refine blk_alloc ?_ _)); exact BK299.out⟩, ⟨by (with_reducible repeat (first | refine blk_drewN ?_ _ | refine blk_drew ?_ | refine blk_alloc ?_ _)); exact BK300.out⟩, ⟨by repeat (first | (with_reducible first | exact HB.out | apply below_alloc | apply pw_below_drewN | apply below_drew1 | refine below_set ?_ GE299.out | refine below_set ?_ GE300.out) | exact HB.out)⟩⟩
     ·replace c16 := Bool.eq_false_iff.mpr c16
      subst c16
      have H1 : (credenzaref09_Parse.j0 k t309 t303 t308 true 0 0) = some (r1, r2, r3, r4) := by rw [if_neg (show ¬ (false = true) by decide)] at H; exact H
      clear H
      have H := H1
      clear H1
      have H' := Aside0.mk H
      clear H
      go_wp2
      go_meet
      case rel => exact ⟨_, (true), (by first | rfl | (simp; done) | (simp [*]; done)), H', ⟨by first | omega | exact Nat.le_refl _⟩, ⟨by (with_reducible repeat (first | refine blk_drewN ?_ _ | refine blk_drew ?_ | refine blk_alloc ?_ _)); exact BK299.out⟩, ⟨by (with_reducible repeat (first | refine blk_drewN ?_ _ | refine blk_drew ?_ | refine blk_alloc ?_ _)); exact BK300.out⟩, ⟨by repeat (first | (with_reducible first | exact HB.out | apply below_alloc | apply pw_below_drewN | apply below_drew1 | refine below_set ?_ GE299.out | refine below_set ?_ GE300.out) | exact HB.out)⟩⟩
    ·replace c15 := Bool.eq_false_iff.mpr c15
     subst c15
     have H1 : (credenzaref09_Parse.j0 k t309 t303 t308 true 0 0) = some (r1, r2, r3, r4) := by rw [if_neg (show ¬ (false = true) by decide)] at H; exact H
     clear H
     have H := H1
     clear H1
     have H' := Aside0.mk H
     clear H
     go_wp2
     go_meet
     case rel => exact ⟨_, (true), (by first | rfl | (simp; done) | (simp [*]; done)), H', ⟨by first | omega | exact Nat.le_refl _⟩, ⟨by (with_reducible repeat (first | refine blk_drewN ?_ _ | refine blk_drew ?_ | refine blk_alloc ?_ _)); exact BK299.out⟩, ⟨by (with_reducible repeat (first | refine blk_drewN ?_ _ | refine blk_drew ?_ | refine blk_alloc ?_ _)); exact BK300.out⟩, ⟨by repeat (first | (with_reducible first | exact HB.out | apply below_alloc | apply pw_below_drewN | apply below_drew1 | refine below_set ?_ GE299.out | refine below_set ?_ GE300.out) | exact HB.out)⟩⟩
   ·replace c14 := Bool.eq_false_iff.mpr c14
    subst c14
    have H1 : (credenzaref09_Parse.j0 k t309 t303 t308 true 0 0) = some (r1, r2, r3, r4) := by rw [if_neg (show ¬ (false = true) by decide)] at H; exact H
    clear H
    have H := H1
    clear H1
    have H' := Aside0.mk H
    clear H
    go_wp2
    go_meet
    case rel => exact ⟨_, (true), (by first | rfl | (simp; done) | (simp [*]; done)), H', ⟨by first | omega | exact Nat.le_refl _⟩, ⟨by (with_reducible repeat (first | refine blk_drewN ?_ _ | refine blk_drew ?_ | refine blk_alloc ?_ _)); exact BK299.out⟩, ⟨by (with_reducible repeat (first | refine blk_drewN ?_ _ | refine blk_drew ?_ | refine blk_alloc ?_ _)); exact BK300.out⟩, ⟨by repeat (first | (with_reducible first | exact HB.out | apply below_alloc | apply pw_below_drewN | apply below_drew1 | refine below_set ?_ GE299.out | refine below_set ?_ GE300.out) | exact HB.out)⟩⟩
  ·replace c13 := Bool.eq_false_iff.mpr c13
   subst c13
   have H1 : (credenzaref09_Parse.j0 k t309 t303 t308 true 0 0) = some (r1, r2, r3, r4) := by rw [if_neg (show ¬ (false = true) by decide)] at H; exact H
   clear H
   have H := H1
   clear H1
   have H' := Aside0.mk H
   clear H
   go_wp2
   go_meet
   case rel => exact ⟨_, (true), (by first | rfl | (simp; done) | (simp [*]; done)), H', ⟨by first | omega | exact Nat.le_refl _⟩, ⟨by (with_reducible repeat (first | refine blk_drewN ?_ _ | refine blk_drew ?_ | refine blk_alloc ?_ _)); exact BK299.out⟩, ⟨by (with_reducible repeat (first | refine blk_drewN ?_ _ | refine blk_drew ?_ | refine blk_alloc ?_ _)); exact BK300.out⟩, ⟨by repeat (first | (with_reducible first | exact HB.out | apply below_alloc | apply pw_below_drewN | apply below_drew1 | refine below_set ?_ GE299.out | refine below_set ?_ GE300.out) | exact HB.out)⟩⟩
 case rest =>
  clear HC6
  try clear c1
  try clear p2
  try clear c3
  try clear c9
  try clear c13
  try clear c14
  try clear c15
  try clear c16
  try clear hcz10_0
  try clear hcz10_1
  try clear hcz10_2
  try clear hfz10_0
  try clear hfz10_1
  try clear hfz10_2
  obtain ⟨kq, x59_5, rfl, HA, HJ5, BK299, BK300, HB⟩ := hcut
  cases kq with
  | zero => exact absurd HA.out (by simp [credenzaref09_Parse.j0])
  | succ kj5 =>
   have H := HA.out
   clear HA
   simp only [credenzaref09_Parse.j0] at H
   by_cases c17 : x59_5 = true
   ·subst c17
    have H1 : (some (0, 0, ([] : List (S51)), 10)) = some (r1, r2, r3, r4) := by rw [if_pos rfl] at H; exact H
    clear H
    have H := H1
    clear H1
    simp only [Option.some.injEq, Prod.mk.injEq] at H
    obtain ⟨rfl, rfl, rfl, rfl⟩ := H
    have hnb18 := NB300_299.out
    have hnc18 := NB299_300.out
    have hcz19_0 : wc.cell? ⟨gb300, 0, none⟩ = some (.int .i64 0) := (blk_cell BK300.out 0).trans rfl
    have hcz19_1 : wc.cell? ⟨gb300, 1, none⟩ = some (.int .i64 0) := (blk_cell BK300.out 1).trans rfl
    have hcz19_2 : wc.cell? ⟨gb300, 2, none⟩ = some (.slice none 0 0) := (blk_cell BK300.out 2).trans rfl
    have hfz19_0 := blk_frozen BK300.out 0
    have hfz19_1 := blk_frozen BK300.out 1
    have hfz19_2 := blk_frozen BK300.out 2
    have hcz20_0 : wc.cell? ⟨gb299, 0, none⟩ = some (.int .i64 0) := (blk_cell BK299.out 0).trans rfl
    have hcz20_1 : wc.cell? ⟨gb299, 1, none⟩ = some (.int .i64 0) := (blk_cell BK299.out 1).trans rfl
    have hcz20_2 : wc.cell? ⟨gb299, 2, none⟩ = some (.slice none 0 0) := (blk_cell BK299.out 2).trans rfl
    have hfz20_0 := blk_frozen BK299.out 0
    have hfz20_1 := blk_frozen BK299.out 1
    have hfz20_2 := blk_frozen BK299.out 2
    go_wp2
    refine bodyPost_ret (results_ct rfl _ _ gb299 32 #[.int .i64 0, .int .i64 0, .slice none 0 0] (0, 0) _ rfl (by (with_reducible repeat (first | refine blk_drewN ?_ _ | refine blk_drew ?_ | refine blk_alloc ?_ _)); refine blk_put (cs := #[.int .i64 0, .int .i64 0, .slice none 0 0]) ?_ 2 _ rfl; (with_reducible repeat (first | refine blk_drewN ?_ _ | refine blk_drew ?_ | refine blk_alloc ?_ _)); refine blk_put (cs := #[.int .i64 0, .int .i64 0, .slice none 0 0]) ?_ 1 _ rfl; (with_reducible repeat (first | refine blk_drewN ?_ _ | refine blk_drew ?_ | refine blk_alloc ?_ _)); refine blk_put (cs := #[.int .i64 0, .int .i64 0, .slice none 0 0]) ?_ 0 _ rfl; (with_reducible repeat (first | refine blk_drewN ?_ _ | refine blk_drew ?_ | refine blk_alloc ?_ _)); exact BK299.out) Tryd.underlying32 rfl (by kernel_rfl)) rfl ?_
    exact ⟨_, by first | rfl | (simp [errW_none, errW_some] <;> rfl) | (simp [*, errW_none, errW_some] <;> rfl), by first | exact Kd.R_nil _ _ _ _ _ | exact Kd.N_nil _ _ _ _ _ | exact Kd.V_nil _ _ _ _ _ | exact Kd.Q_nil _ _ _ _ _ | exact Kd.S_nil _ _ _ _ _, by repeat (first | (with_reducible first | exact HB.out | apply below_alloc | apply pw_below_drewN | apply below_drew1 | refine below_set ?_ GE299.out | refine below_set ?_ GE300.out) | exact HB.out)⟩
   ·replace c17 := Bool.eq_false_iff.mpr c17
    subst c17
    have H1 : (credenzaref09_Parse.l0 kj5 t309 t303 t308 ([] : List (S51))) = some (r1, r2, r3, r4) := by rw [if_neg (show ¬ (false = true) by decide)] at H; exact H
    clear H
    have H := H1
    clear H1
    have H' := Aside0.mk H
    clear H
    have hnb21 := NB300_299.out
    have hnc21 := NB299_300.out
    have hcz22_0 : wc.cell? ⟨gb300, 0, none⟩ = some (.int .i64 0) := (blk_cell BK300.out 0).trans rfl
    have hcz22_1 : wc.cell? ⟨gb300, 1, none⟩ = some (.int .i64 0) := (blk_cell BK300.out 1).trans rfl
    have hcz22_2 : wc.cell? ⟨gb300, 2, none⟩ = some (.slice none 0 0) := (blk_cell BK300.out 2).trans rfl
    have hfz22_0 := blk_frozen BK300.out 0
    have hfz22_1 := blk_frozen BK300.out 1
    have hfz22_2 := blk_frozen BK300.out 2
    go_wp2
    go_loopg [0] kj5 (fun kq v0 w' => ∃ (x0_2 : ByteArray) (x300000_2 : Int) (x300001_2 : Int) (x301002_2 : List (S51)) (u301002 : Value), v0 = .string x0_2 ∧ Aside0 (credenzaref09_Parse.l0 kq x0_2 t303 t308 x301002_2 = some (r1, r2, r3, r4)) ∧ Aside0 (kq ≤ kj5) ∧ Aside0 (Kd.R k51 51 w' w.heap.size (fun _ => True) u301002 x301002_2) ∧ Aside0 (w'.heap[gb299]? = some (.cells #[.int .i64 x300000_2, .int .i64 x300001_2, (.slice none 0 0)] 32 (0, 0))) ∧ Aside0 (w'.heap[gb300]? = some (.cells #[.int .i64 t303, .int .i64 t308, u301002] 32 (0, 0))) ∧ Aside0 (Below w.heap.size w w'))
    case atStart => exact ⟨(t309), (0), (0), (([] : List (S51))), (.slice none 0 0), (by first | rfl | (simp; done) | (simp [*]; done)), H', ⟨Nat.le_refl _⟩, ⟨by first | exact Kd.R_nil _ _ _ _ _ | exact Kd.N_nil _ _ _ _ _ | exact Kd.V_nil _ _ _ _ _ | exact Kd.Q_nil _ _ _ _ _ | exact Kd.S_nil _ _ _ _ _⟩, ⟨by (with_reducible repeat (first | refine blk_drewN ?_ _ | refine blk_drew ?_ | refine blk_alloc ?_ _)); refine blk_far ?_ NB299_300.out _; (with_reducible repeat (first | refine blk_drewN ?_ _ | refine blk_drew ?_ | refine blk_alloc ?_ _)); refine blk_far ?_ NB299_300.out _; (with_reducible repeat (first | refine blk_drewN ?_ _ | refine blk_drew ?_ | refine blk_alloc ?_ _)); exact BK299.out⟩, ⟨by (with_reducible repeat (first | refine blk_drewN ?_ _ | refine blk_drew ?_ | refine blk_alloc ?_ _)); refine blk_put (cs := #[.int .i64 t303, .int .i64 0, .slice none 0 0]) ?_ 1 _ rfl; (with_reducible repeat (first | refine blk_drewN ?_ _ | refine blk_drew ?_ | refine blk_alloc ?_ _)); refine blk_put (cs := #[.int .i64 0, .int .i64 0, .slice none 0 0]) ?_ 0 _ rfl; (with_reducible repeat (first | refine blk_drewN ?_ _ | refine blk_drew ?_ | refine blk_alloc ?_ _)); exact BK300.out⟩, ⟨by repeat (first | (with_reducible first | exact HB.out | apply below_alloc | apply pw_below_drewN | apply below_drew1 | refine below_set ?_ GE299.out | refine below_set ?_ GE300.out) | exact HB.out)⟩⟩
    case round =>
     clear H'
     try clear c1
     try clear c2
     try clear p2
     try clear c3
     try clear c9
     try clear c13
     try clear c14
     try clear c15
     try clear c16
     try clear c17
     try clear c18
     try clear c21
     try clear hcz10_0
     try clear hcz10_1
     try clear hcz10_2
     try clear hcz19_0
     try clear hcz19_1
     try clear hcz19_2
     try clear hcz20_0
     try clear hcz20_1
     try clear hcz20_2
     try clear hcz22_0
     try clear hcz22_1
     try clear hcz22_2
     try clear hfz10_0
     try clear hfz10_1
     try clear hfz10_2
     try clear hfz19_0
     try clear hfz19_1
     try clear hfz19_2
     try clear hfz20_0
     try clear hfz20_1
     try clear hfz20_2
     try clear hfz22_0
     try clear hfz22_1
     try clear hfz22_2
     try clear p2
     obtain ⟨x0_2, x300000_2, x300001_2, x301002_2, u301002, rfl, HA, HK2, HO_301002, BK299, BK300, HB⟩ := hrel
     cases gk with
     | zero => exact absurd HA.out (by simp [credenzaref09_Parse.l0])
     | succ k2 =>
      have H := HA.out
      clear HA
      simp only [credenzaref09_Parse.l0] at H
      by_cases c23 : x0_2.toList = ([] : List UInt8)
      ·rw [if_pos c23] at H
       have c23b0 : (x0_2.toList == ([] : List UInt8)) = true := beq_iff_eq.mpr c23
       have c23b1 : (x0_2.toList != ([] : List UInt8)) = false := bne_eq_false_iff_eq.mpr c23
       clear c23
       replace H := Option.bind_eq_some_iff.mp H
       obtain ⟨t311, A240, H⟩ := H
       replace H : (if t311 = 0 then (some (t303, t308, x301002_2, 0)) else (some (0, 0, ([] : List (S51)), t311))) = some (r1, r2, r3, r4) := H
       have A24 := Aside0.mk A240
       clear A240
       by_cases c25 : t311 = 0
       ·rw [if_pos c25] at H
        have c25b0 : (t311 == 0) = true := beq_iff_eq.mpr c25
        have c25b1 : (t311 != 0) = false := bne_eq_false_iff_eq.mpr c25
        clear c25
        simp only [Option.some.injEq, Prod.mk.injEq] at H
        obtain ⟨rfl, rfl, rfl, rfl⟩ := H
        have hnb26 := NB300_299.out
        have hnc26 := NB299_300.out
        have hcz27_0 : wr.cell? ⟨gb300, 0, none⟩ = some (.int .i64 t303) := (blk_cell BK300.out 0).trans rfl
        have hcz27_1 : wr.cell? ⟨gb300, 1, none⟩ = some (.int .i64 t308) := (blk_cell BK300.out 1).trans rfl
        have hcz27_2 : wr.cell? ⟨gb300, 2, none⟩ = some (u301002) := (blk_cell BK300.out 2).trans rfl
        have hfz27_0 := blk_frozen BK300.out 0
        have hfz27_1 := blk_frozen BK300.out 1
        have hfz27_2 := blk_frozen BK300.out 2
        obtain ⟨Ao28, co28, eo28⟩ := Kd.R_slice HO_301002.out
        subst eo28
        go_wp2_with (first | ((with_reducible refine gate_callee (f := 10) rfl ?_); refine goesL_ (some 114) rfl rfl Tryd.func10 (by kernel_rfl) rfl #[.agg #[.int .i64 t303, .int .i64 t308, .slice Ao28 x301002_2.length co28]] rfl (by (try simp only [List.map_toArray, List.map_cons, List.map_nil]); first | done | rfl | (simp only [List.length_drop, List.length_take]; rfl)) ?_; (with_reducible refine (credenzaref09_Right.calls k2 t303 t308 _ _ x301002_2 t311 _ ?side1 ?side2 A24.out).mono ?_); (case side1 => repeat (first | exact (Kd.R_reads' HO_301002.out).2.2 | (with_reducible refine Kd.C_alloc ?_ _) | (with_reducible refine Kd.C_drewN ?_ _) | (with_reducible refine Kd.C_drew ?_))); (case side2 => exact (Kd.R_reads' HO_301002.out).2.1); rintro e w29 ⟨rfl, hb⟩; refine ⟨_, rfl, ?_⟩; have n0_ := Aside0.mk (Kd.R_below (by (with_reducible repeat (first | apply Kd.R_alloc | apply Kd.R_drewN | apply Kd.R_drew)); exact HO_301002.out) hb); have n1_ := Aside0.mk (blk_below (g := gb299) (o := .cells #[.int .i64 x300000_2, .int .i64 x300001_2, .slice none 0 0] 32 (0, 0)) (by (with_reducible repeat (first | refine blk_drewN ?_ _ | refine blk_drew ?_ | refine blk_alloc ?_ _)); exact BK299.out) hb); have n2_ := Aside0.mk (blk_below (g := gb300) (o := .cells #[.int .i64 t303, .int .i64 t308, .slice Ao28 x301002_2.length co28] 32 (0, 0)) (by (with_reducible repeat (first | refine blk_drewN ?_ _ | refine blk_drew ?_ | refine blk_alloc ?_ _)); exact BK300.out) hb); have n3_ := Aside0.mk (below_step (by repeat (first | (with_reducible first | exact HB.out | apply below_alloc | apply pw_below_drewN | apply below_drew1 | refine below_set ?_ GE299.out | refine below_set ?_ GE300.out) | exact HB.out)) hb); clear HO_301002; clear BK299; clear BK300; clear HB; have HO_301002 := n0_; have BK299 := n1_; have BK300 := n2_; have HB := n3_; clear n0_ n1_ n2_ n3_; (try clear hb); (try clear hb2); (try clear hk); (try clear hi); have hcz30_0 : w29.cell? ⟨gb300, 0, none⟩ = some (.int .i64 t303) := (blk_cell BK300.out 0).trans rfl; have hcz30_1 : w29.cell? ⟨gb300, 1, none⟩ = some (.int .i64 t308) := (blk_cell BK300.out 1).trans rfl; have hcz30_2 : w29.cell? ⟨gb300, 2, none⟩ = some (.slice Ao28 x301002_2.length co28) := (blk_cell BK300.out 2).trans rfl; have hfz30_0 := blk_frozen BK300.out 0; have hfz30_1 := blk_frozen BK300.out 1; have hfz30_2 := blk_frozen BK300.out 2; have hcz31_0 : w29.cell? ⟨gb299, 0, none⟩ = some (.int .i64 x300000_2) := (blk_cell BK299.out 0).trans rfl; have hcz31_1 : w29.cell? ⟨gb299, 1, none⟩ = some (.int .i64 x300001_2) := (blk_cell BK299.out 1).trans rfl; have hcz31_2 : w29.cell? ⟨gb299, 2, none⟩ = some (.slice none 0 0) := (blk_cell BK299.out 2).trans rfl; have hfz31_0 := blk_frozen BK299.out 0; have hfz31_1 := blk_frozen BK299.out 1; have hfz31_2 := blk_frozen BK299.out 2))
        refine bodyPost_ret (results_ct rfl _ _ gb299 32 #[.int .i64 t303, .int .i64 t308, .slice Ao28 x301002_2.length co28] (0, 0) _ rfl (by (with_reducible repeat (first | refine blk_drewN ?_ _ | refine blk_drew ?_ | refine blk_alloc ?_ _)); refine blk_put (cs := #[.int .i64 t303, .int .i64 t308, .slice none 0 0]) ?_ 2 _ rfl; (with_reducible repeat (first | refine blk_drewN ?_ _ | refine blk_drew ?_ | refine blk_alloc ?_ _)); refine blk_put (cs := #[.int .i64 t303, .int .i64 x300001_2, .slice none 0 0]) ?_ 1 _ rfl; (with_reducible repeat (first | refine blk_drewN ?_ _ | refine blk_drew ?_ | refine blk_alloc ?_ _)); refine blk_put (cs := #[.int .i64 x300000_2, .int .i64 x300001_2, .slice none 0 0]) ?_ 0 _ rfl; (with_reducible repeat (first | refine blk_drewN ?_ _ | refine blk_drew ?_ | refine blk_alloc ?_ _)); exact BK299.out) Tryd.underlying32 rfl (by kernel_rfl)) rfl ?_
        exact ⟨_, by first | rfl | (simp [errW_none, errW_some] <;> rfl) | (simp [*, errW_none, errW_some] <;> rfl), by (with_reducible repeat (first | apply Kd.R_alloc | apply Kd.R_drewN | apply Kd.R_drew)); exact Kd.R_mono (Kd.R_far (p := ⟨gb299, 2, none⟩) (Kd.R_far (p := ⟨gb299, 1, none⟩) (Kd.R_far (p := ⟨gb299, 0, none⟩) (Kd.R_types HO_301002.out BK299.out (by decide)) (fun _ hk => hk.2) (.int .i64 t303)) (fun _ hk => hk.2) (.int .i64 t308)) (fun _ hk => hk.2) (.slice Ao28 x301002_2.length co28)) (fun _ hk => trivial), by repeat (first | (with_reducible first | exact HB.out | apply below_alloc | apply pw_below_drewN | apply below_drew1 | refine below_set ?_ GE299.out | refine below_set ?_ GE300.out) | exact HB.out)⟩
       ·rw [if_neg c25] at H
        have c25b0 : (t311 == 0) = false := beq_eq_false_iff_ne.mpr c25
        have c25b1 : (t311 != 0) = true := bne_iff_ne.mpr c25
        simp only [Option.some.injEq, Prod.mk.injEq] at H
        obtain ⟨rfl, rfl, rfl, rfl⟩ := H
        have hnb32 := NB300_299.out
        have hnc32 := NB299_300.out
        have hcz33_0 : wr.cell? ⟨gb300, 0, none⟩ = some (.int .i64 t303) := (blk_cell BK300.out 0).trans rfl
        have hcz33_1 : wr.cell? ⟨gb300, 1, none⟩ = some (.int .i64 t308) := (blk_cell BK300.out 1).trans rfl
        have hcz33_2 : wr.cell? ⟨gb300, 2, none⟩ = some (u301002) := (blk_cell BK300.out 2).trans rfl
        have hfz33_0 := blk_frozen BK300.out 0
        have hfz33_1 := blk_frozen BK300.out 1
        have hfz33_2 := blk_frozen BK300.out 2
        obtain ⟨Ao34, co34, eo34⟩ := Kd.R_slice HO_301002.out
        subst eo34
        go_wp2_with (first | ((with_reducible refine gate_callee (f := 10) rfl ?_); refine goesL_ (some 114) rfl rfl Tryd.func10 (by kernel_rfl) rfl #[.agg #[.int .i64 t303, .int .i64 t308, .slice Ao34 x301002_2.length co34]] rfl (by (try simp only [List.map_toArray, List.map_cons, List.map_nil]); first | done | rfl | (simp only [List.length_drop, List.length_take]; rfl)) ?_; (with_reducible refine (credenzaref09_Right.calls k2 t303 t308 _ _ x301002_2 t311 _ ?side1 ?side2 A24.out).mono ?_); (case side1 => repeat (first | exact (Kd.R_reads' HO_301002.out).2.2 | (with_reducible refine Kd.C_alloc ?_ _) | (with_reducible refine Kd.C_drewN ?_ _) | (with_reducible refine Kd.C_drew ?_))); (case side2 => exact (Kd.R_reads' HO_301002.out).2.1); rintro e w35 ⟨rfl, hb⟩; refine ⟨_, rfl, ?_⟩; have n0_ := Aside0.mk (Kd.R_below (by (with_reducible repeat (first | apply Kd.R_alloc | apply Kd.R_drewN | apply Kd.R_drew)); exact HO_301002.out) hb); have n1_ := Aside0.mk (blk_below (g := gb299) (o := .cells #[.int .i64 x300000_2, .int .i64 x300001_2, .slice none 0 0] 32 (0, 0)) (by (with_reducible repeat (first | refine blk_drewN ?_ _ | refine blk_drew ?_ | refine blk_alloc ?_ _)); exact BK299.out) hb); have n2_ := Aside0.mk (blk_below (g := gb300) (o := .cells #[.int .i64 t303, .int .i64 t308, .slice Ao34 x301002_2.length co34] 32 (0, 0)) (by (with_reducible repeat (first | refine blk_drewN ?_ _ | refine blk_drew ?_ | refine blk_alloc ?_ _)); exact BK300.out) hb); have n3_ := Aside0.mk (below_step (by repeat (first | (with_reducible first | exact HB.out | apply below_alloc | apply pw_below_drewN | apply below_drew1 | refine below_set ?_ GE299.out | refine below_set ?_ GE300.out) | exact HB.out)) hb); clear HO_301002; clear BK299; clear BK300; clear HB; have HO_301002 := n0_; have BK299 := n1_; have BK300 := n2_; have HB := n3_; clear n0_ n1_ n2_ n3_; (try clear hb); (try clear hb2); (try clear hk); (try clear hi); have hcz36_0 : w35.cell? ⟨gb299, 0, none⟩ = some (.int .i64 x300000_2) := (blk_cell BK299.out 0).trans rfl; have hcz36_1 : w35.cell? ⟨gb299, 1, none⟩ = some (.int .i64 x300001_2) := (blk_cell BK299.out 1).trans rfl; have hcz36_2 : w35.cell? ⟨gb299, 2, none⟩ = some (.slice none 0 0) := (blk_cell BK299.out 2).trans rfl; have hfz36_0 := blk_frozen BK299.out 0; have hfz36_1 := blk_frozen BK299.out 1; have hfz36_2 := blk_frozen BK299.out 2))
        refine bodyPost_ret (results_ct rfl _ _ gb299 32 #[.int .i64 0, .int .i64 0, .slice none 0 0] (0, 0) _ rfl (by (with_reducible repeat (first | refine blk_drewN ?_ _ | refine blk_drew ?_ | refine blk_alloc ?_ _)); refine blk_put (cs := #[.int .i64 0, .int .i64 0, .slice none 0 0]) ?_ 2 _ rfl; (with_reducible repeat (first | refine blk_drewN ?_ _ | refine blk_drew ?_ | refine blk_alloc ?_ _)); refine blk_put (cs := #[.int .i64 0, .int .i64 x300001_2, .slice none 0 0]) ?_ 1 _ rfl; (with_reducible repeat (first | refine blk_drewN ?_ _ | refine blk_drew ?_ | refine blk_alloc ?_ _)); refine blk_put (cs := #[.int .i64 x300000_2, .int .i64 x300001_2, .slice none 0 0]) ?_ 0 _ rfl; (with_reducible repeat (first | refine blk_drewN ?_ _ | refine blk_drew ?_ | refine blk_alloc ?_ _)); exact BK299.out) Tryd.underlying32 rfl (by kernel_rfl)) rfl ?_
        exact ⟨_, by first | rfl | (simp [errW_none, errW_some] <;> rfl) | (simp [*, errW_none, errW_some] <;> rfl), by first | exact Kd.R_nil _ _ _ _ _ | exact Kd.N_nil _ _ _ _ _ | exact Kd.V_nil _ _ _ _ _ | exact Kd.Q_nil _ _ _ _ _ | exact Kd.S_nil _ _ _ _ _, by repeat (first | (with_reducible first | exact HB.out | apply below_alloc | apply pw_below_drewN | apply below_drew1 | refine below_set ?_ GE299.out | refine below_set ?_ GE300.out) | exact HB.out)⟩
      ·rw [if_neg c23] at H
       have c23b0 : (x0_2.toList == ([] : List UInt8)) = false := beq_eq_false_iff_ne.mpr c23
       have c23b1 : (x0_2.toList != ([] : List UInt8)) = true := bne_iff_ne.mpr c23
       replace H := Option.bind_eq_some_iff.mp H
       obtain ⟨⟨t312, t313⟩, A370, H⟩ := H
       replace H : ((credenzaref09_Number.f k2 t312).bind fun bt314 => ((credenzaref09_after.f bt314.2.1 (⟨#[47]⟩ : ByteArray)).bind fun bt317 => ((credenzaref09_Number.f k2 bt317.1).bind fun bt319 => (if t313 = true then (if bt314.2.2 = true then (if bt317.2 = true then (if bt319.2.2 = true then (if x301002_2.length < 8796093022208 then (credenzaref09_Parse.l0 k2 bt319.2.1 t303 t308 (x301002_2 ++ [(⟨bt314.1, bt319.1⟩ : S51)])) else (none)) else (some (0, 0, ([] : List (S51)), 10))) else (some (0, 0, ([] : List (S51)), 10))) else (some (0, 0, ([] : List (S51)), 10))) else (some (0, 0, ([] : List (S51)), 10)))))) = some (r1, r2, r3, r4) := H
       have A37 := Aside0.mk A370
       clear A370
       replace H := Option.bind_eq_some_iff.mp H
       obtain ⟨⟨t314, t315, t316⟩, A380, H⟩ := H
       replace H : ((credenzaref09_after.f t315 (⟨#[47]⟩ : ByteArray)).bind fun bt317 => ((credenzaref09_Number.f k2 bt317.1).bind fun bt319 => (if t313 = true then (if t316 = true then (if bt317.2 = true then (if bt319.2.2 = true then (if x301002_2.length < 8796093022208 then (credenzaref09_Parse.l0 k2 bt319.2.1 t303 t308 (x301002_2 ++ [(⟨t314, bt319.1⟩ : S51)])) else (none)) else (some (0, 0, ([] : List (S51)), 10))) else (some (0, 0, ([] : List (S51)), 10))) else (some (0, 0, ([] : List (S51)), 10))) else (some (0, 0, ([] : List (S51)), 10))))) = some (r1, r2, r3, r4) := H
       have A38 := Aside0.mk A380
       clear A380
       replace H := Option.bind_eq_some_iff.mp H
       obtain ⟨⟨t317, t318⟩, A390, H⟩ := H
       replace H : ((credenzaref09_Number.f k2 t317).bind fun bt319 => (if t313 = true then (if t316 = true then (if t318 = true then (if bt319.2.2 = true then (if x301002_2.length < 8796093022208 then (credenzaref09_Parse.l0 k2 bt319.2.1 t303 t308 (x301002_2 ++ [(⟨t314, bt319.1⟩ : S51)])) else (none)) else (some (0, 0, ([] : List (S51)), 10))) else (some (0, 0, ([] : List (S51)), 10))) else (some (0, 0, ([] : List (S51)), 10))) else (some (0, 0, ([] : List (S51)), 10)))) = some (r1, r2, r3, r4) := H
       have A39 := Aside0.mk A390
       clear A390
       replace H := Option.bind_eq_some_iff.mp H
       obtain ⟨⟨t319, t320, t321⟩, A400, H⟩ := H
       replace H : (if t313 = true then (if t316 = true then (if t318 = true then (if t321 = true then (if x301002_2.length < 8796093022208 then (credenzaref09_Parse.l0 k2 t320 t303 t308 (x301002_2 ++ [(⟨t314, t319⟩ : S51)])) else (none)) else (some (0, 0, ([] : List (S51)), 10))) else (some (0, 0, ([] : List (S51)), 10))) else (some (0, 0, ([] : List (S51)), 10))) else (some (0, 0, ([] : List (S51)), 10))) = some (r1, r2, r3, r4) := H
       have A40 := Aside0.mk A400
       clear A400
       by_cases c41 : t313 = true
       ·subst c41
        have H1 : (if t316 = true then (if t318 = true then (if t321 = true then (if x301002_2.length < 8796093022208 then (credenzaref09_Parse.l0 k2 t320 t303 t308 (x301002_2 ++ [(⟨t314, t319⟩ : S51)])) else (none)) else (some (0, 0, ([] : List (S51)), 10))) else (some (0, 0, ([] : List (S51)), 10))) else (some (0, 0, ([] : List (S51)), 10))) = some (r1, r2, r3, r4) := by rw [if_pos rfl] at H; exact H
        clear H
        have H := H1
        clear H1
        by_cases c42 : t316 = true
        ·subst c42
         have H1 : (if t318 = true then (if t321 = true then (if x301002_2.length < 8796093022208 then (credenzaref09_Parse.l0 k2 t320 t303 t308 (x301002_2 ++ [(⟨t314, t319⟩ : S51)])) else (none)) else (some (0, 0, ([] : List (S51)), 10))) else (some (0, 0, ([] : List (S51)), 10))) = some (r1, r2, r3, r4) := by rw [if_pos rfl] at H; exact H
         clear H
         have H := H1
         clear H1
         by_cases c43 : t318 = true
         ·subst c43
          have H1 : (if t321 = true then (if x301002_2.length < 8796093022208 then (credenzaref09_Parse.l0 k2 t320 t303 t308 (x301002_2 ++ [(⟨t314, t319⟩ : S51)])) else (none)) else (some (0, 0, ([] : List (S51)), 10))) = some (r1, r2, r3, r4) := by rw [if_pos rfl] at H; exact H
          clear H
          have H := H1
          clear H1
          by_cases c44 : t321 = true
          ·subst c44
           have H1 : (if x301002_2.length < 8796093022208 then (credenzaref09_Parse.l0 k2 t320 t303 t308 (x301002_2 ++ [(⟨t314, t319⟩ : S51)])) else (none)) = some (r1, r2, r3, r4) := by rw [if_pos rfl] at H; exact H
           clear H
           have H := H1
           clear H1
           by_cases c45 : x301002_2.length < 8796093022208
           ·rw [if_pos c45] at H
            have LMc45 := Aside0.mk c45
            clear c45
            obtain ⟨y322, hy322⟩ : ∃ y_ : List (S51), y_ = (x301002_2 ++ [(⟨t314, t319⟩ : S51)]) := ⟨_, rfl⟩
            replace H : (credenzaref09_Parse.l0 k2 t320 t303 t308 y322) = some (r1, r2, r3, r4) := by first | (rw [hy322]; with_reducible exact H) | (have H2_ := (Option.bind_some _ _).symm.trans H; rw [hy322]; with_reducible exact H2_) | (have H2_ := (Option.bind_some _ _).symm.trans H; with_reducible exact H2_) | with_reducible exact H | (rw [hy322]; exact H) | exact H
            have Ny322 := Aside0.mk hy322
            clear hy322
            have H' := Aside0.mk H
            clear H
            go_wp2_with (first | ((with_reducible refine gate_callee (f := 32) rfl ?_); refine goesL_ (some 69) rfl rfl Tryd.func32 (by kernel_rfl) rfl #[.string x0_2, .string (⟨#[32]⟩ : ByteArray)] rfl (by (try simp only [List.map_toArray, List.map_cons, List.map_nil]); first | done | rfl | (simp only [List.length_drop, List.length_take]; rfl)) ?_; (with_reducible refine (credenzaref09_after.calls x0_2 (⟨#[32]⟩ : ByteArray) t312 true _ A37.out).mono ?_); rintro e w' ⟨rfl, ⟨nd, rfl⟩⟩; refine ⟨_, rfl, ?_⟩; (try (rw [drewN_self wr]; generalize hq_ : World.drewN wr _ = wr; have n0_ : Aside0 (Kd.R k51 51 wr w.heap.size (fun _ => True) u301002 x301002_2) := ⟨by rw [← hq_]; exact (by (with_reducible repeat (first | apply Kd.R_alloc | apply Kd.R_drewN | apply Kd.R_drew)); exact HO_301002.out)⟩; have n1_ : Aside0 (wr.heap[gb299]? = some (.cells #[.int .i64 x300000_2, .int .i64 x300001_2, .slice none 0 0] 32 (0, 0))) := ⟨by rw [← hq_]; exact (by (with_reducible repeat (first | refine blk_drewN ?_ _ | refine blk_drew ?_ | refine blk_alloc ?_ _)); exact BK299.out)⟩; have n2_ : Aside0 (wr.heap[gb300]? = some (.cells #[.int .i64 t303, .int .i64 t308, u301002] 32 (0, 0))) := ⟨by rw [← hq_]; exact (by (with_reducible repeat (first | refine blk_drewN ?_ _ | refine blk_drew ?_ | refine blk_alloc ?_ _)); exact BK300.out)⟩; have n3_ : Aside0 (Below w.heap.size w wr) := ⟨by rw [← hq_]; exact (by repeat (first | (with_reducible first | exact HB.out | apply below_alloc | apply pw_below_drewN | apply below_drew1 | refine below_set ?_ GE299.out | refine below_set ?_ GE300.out) | exact HB.out))⟩; clear HO_301002 BK299 BK300 HB hq_; have HO_301002 := n0_; have BK299 := n1_; have BK300 := n2_; have HB := n3_; clear n0_ n1_ n2_ n3_))) | ((with_reducible refine gate_callee (f := 33) rfl ?_); refine goesL_ (some 74) rfl rfl Tryd.func33 (by kernel_rfl) rfl #[.string t312] rfl (by (try simp only [List.map_toArray, List.map_cons, List.map_nil]); first | done | rfl | (simp only [List.length_drop, List.length_take]; rfl)) ?_; (with_reducible refine (credenzaref09_Number.calls k2 t312 t314 t315 true _ A38.out).mono ?_); rintro e w46 ⟨rfl, hb⟩; refine ⟨_, rfl, ?_⟩; have n0_ := Aside0.mk (Kd.R_below (by (with_reducible repeat (first | apply Kd.R_alloc | apply Kd.R_drewN | apply Kd.R_drew)); exact HO_301002.out) hb); have n1_ := Aside0.mk (blk_below (g := gb299) (o := .cells #[.int .i64 x300000_2, .int .i64 x300001_2, .slice none 0 0] 32 (0, 0)) (by (with_reducible repeat (first | refine blk_drewN ?_ _ | refine blk_drew ?_ | refine blk_alloc ?_ _)); exact BK299.out) hb); have n2_ := Aside0.mk (blk_below (g := gb300) (o := .cells #[.int .i64 t303, .int .i64 t308, u301002] 32 (0, 0)) (by (with_reducible repeat (first | refine blk_drewN ?_ _ | refine blk_drew ?_ | refine blk_alloc ?_ _)); exact BK300.out) hb); have n3_ := Aside0.mk (below_step (by repeat (first | (with_reducible first | exact HB.out | apply below_alloc | apply pw_below_drewN | apply below_drew1 | refine below_set ?_ GE299.out | refine below_set ?_ GE300.out) | exact HB.out)) hb); clear HO_301002; clear BK299; clear BK300; clear HB; have HO_301002 := n0_; have BK299 := n1_; have BK300 := n2_; have HB := n3_; clear n0_ n1_ n2_ n3_; (try clear hb); (try clear hb2); (try clear hk); (try clear hi)) | ((with_reducible refine gate_callee (f := 32) rfl ?_); refine goesL_ (some 80) rfl rfl Tryd.func32 (by kernel_rfl) rfl #[.string t315, .string (⟨#[47]⟩ : ByteArray)] rfl (by (try simp only [List.map_toArray, List.map_cons, List.map_nil]); first | done | rfl | (simp only [List.length_drop, List.length_take]; rfl)) ?_; (with_reducible refine (credenzaref09_after.calls t315 (⟨#[47]⟩ : ByteArray) t317 true _ A39.out).mono ?_); rintro e w' ⟨rfl, ⟨nd, rfl⟩⟩; refine ⟨_, rfl, ?_⟩; (try (rw [drewN_self w46]; generalize hq_ : World.drewN w46 _ = w46; have n0_ : Aside0 (Kd.R k51 51 w46 w.heap.size (fun _ => True) u301002 x301002_2) := ⟨by rw [← hq_]; exact (by (with_reducible repeat (first | apply Kd.R_alloc | apply Kd.R_drewN | apply Kd.R_drew)); exact HO_301002.out)⟩; have n1_ : Aside0 (w46.heap[gb299]? = some (.cells #[.int .i64 x300000_2, .int .i64 x300001_2, .slice none 0 0] 32 (0, 0))) := ⟨by rw [← hq_]; exact (by (with_reducible repeat (first | refine blk_drewN ?_ _ | refine blk_drew ?_ | refine blk_alloc ?_ _)); exact BK299.out)⟩; have n2_ : Aside0 (w46.heap[gb300]? = some (.cells #[.int .i64 t303, .int .i64 t308, u301002] 32 (0, 0))) := ⟨by rw [← hq_]; exact (by (with_reducible repeat (first | refine blk_drewN ?_ _ | refine blk_drew ?_ | refine blk_alloc ?_ _)); exact BK300.out)⟩; have n3_ : Aside0 (Below w.heap.size w w46) := ⟨by rw [← hq_]; exact (by repeat (first | (with_reducible first | exact HB.out | apply below_alloc | apply pw_below_drewN | apply below_drew1 | refine below_set ?_ GE299.out | refine below_set ?_ GE300.out) | exact HB.out))⟩; clear HO_301002 BK299 BK300 HB hq_; have HO_301002 := n0_; have BK299 := n1_; have BK300 := n2_; have HB := n3_; clear n0_ n1_ n2_ n3_))) | ((with_reducible refine gate_callee (f := 33) rfl ?_); refine goesL_ (some 85) rfl rfl Tryd.func33 (by kernel_rfl) rfl #[.string t317] rfl (by (try simp only [List.map_toArray, List.map_cons, List.map_nil]); first | done | rfl | (simp only [List.length_drop, List.length_take]; rfl)) ?_; (with_reducible refine (credenzaref09_Number.calls k2 t317 t319 t320 true _ A40.out).mono ?_); rintro e w47 ⟨rfl, hb⟩; refine ⟨_, rfl, ?_⟩; have n0_ := Aside0.mk (Kd.R_below (by (with_reducible repeat (first | apply Kd.R_alloc | apply Kd.R_drewN | apply Kd.R_drew)); exact HO_301002.out) hb); have n1_ := Aside0.mk (blk_below (g := gb299) (o := .cells #[.int .i64 x300000_2, .int .i64 x300001_2, .slice none 0 0] 32 (0, 0)) (by (with_reducible repeat (first | refine blk_drewN ?_ _ | refine blk_drew ?_ | refine blk_alloc ?_ _)); exact BK299.out) hb); have n2_ := Aside0.mk (blk_below (g := gb300) (o := .cells #[.int .i64 t303, .int .i64 t308, u301002] 32 (0, 0)) (by (with_reducible repeat (first | refine blk_drewN ?_ _ | refine blk_drew ?_ | refine blk_alloc ?_ _)); exact BK300.out) hb); have n3_ := Aside0.mk (below_step (by repeat (first | (with_reducible first | exact HB.out | apply below_alloc | apply pw_below_drewN | apply below_drew1 | refine below_set ?_ GE299.out | refine below_set ?_ GE300.out) | exact HB.out)) hb); clear HO_301002; clear BK299; clear BK300; clear HB; have HO_301002 := n0_; have BK299 := n1_; have BK300 := n2_; have HB := n3_; clear n0_ n1_ n2_ n3_; (try clear hb); (try clear hb2); (try clear hk); (try clear hi); have hnb48 := NB300_299.out; have hnc48 := NB299_300.out; have hcz49_0 : w47.cell? ⟨gb300, 0, none⟩ = some (.int .i64 t303) := (blk_cell BK300.out 0).trans rfl; have hcz49_1 : w47.cell? ⟨gb300, 1, none⟩ = some (.int .i64 t308) := (blk_cell BK300.out 1).trans rfl; have hcz49_2 : w47.cell? ⟨gb300, 2, none⟩ = some (u301002) := (blk_cell BK300.out 2).trans rfl; have hfz49_0 := blk_frozen BK300.out 0; have hfz49_1 := blk_frozen BK300.out 1; have hfz49_2 := blk_frozen BK300.out 2) | ((with_reducible refine gate_builtin (b := .append) (xs := #[.tmp 105, .tmp 109]) rfl ?_); at_builtin; refine Kd.R_append k51 (w0 := w) w.heap.size rfl (.tmp 105) (.tmp 109) 30 51 (.agg #[(.int .i64 0), (.int .i64 0)]) 16 rfl Tryd.underlying30 info51 rfl (by decide) (by omega) u301002 x301002_2 (⟨t314, t319⟩ : S51) [.int .i64 t314, .int .i64 t319] (fun _ => True) (fun _ => False) rfl rfl ?aP (fun _ hk => hk.elim) ?aF ?aO ?aB ?aS ?aL ?_; (case aP => exact k51_mkM _ _ _ (⟨t314, t319⟩ : S51)); (case aB => exact (by repeat (first | (with_reducible first | exact HB.out | apply below_alloc | apply pw_below_drewN | apply below_drew1 | refine below_set ?_ GE299.out | refine below_set ?_ GE300.out) | exact HB.out))); (case aF => exact (fun _ _ => trivial)); (case aO => exact (by (with_reducible repeat (first | apply Kd.R_alloc | apply Kd.R_drewN | apply Kd.R_drew)); exact HO_301002.out)); (case aS => exact (below_size (by repeat (first | (with_reducible first | exact HB.out | apply below_alloc | apply pw_below_drewN | apply below_drew1 | refine below_set ?_ GE299.out | refine below_set ?_ GE300.out) | exact HB.out)))); (case aL => have := LMc45.out; omega); intro v323 w50 ho hb hg hat; rw [← Ny322.out] at ho; have n0_ := Aside0.mk (blk_grown (g := gb299) (o := .cells #[.int .i64 x300000_2, .int .i64 x300001_2, .slice none 0 0] 32 (0, 0)) (by (with_reducible repeat (first | refine blk_drewN ?_ _ | refine blk_drew ?_ | refine blk_alloc ?_ _)); exact BK299.out) hg (Kd.R_ne HO_301002.out BK299.out (by decide))); have n1_ := Aside0.mk (blk_grown (g := gb300) (o := .cells #[.int .i64 t303, .int .i64 t308, u301002] 32 (0, 0)) (by (with_reducible repeat (first | refine blk_drewN ?_ _ | refine blk_drew ?_ | refine blk_alloc ?_ _)); exact BK300.out) hg (Kd.R_ne HO_301002.out BK300.out (by decide))); have n2_ := Aside0.mk (hb); have n3_ := Aside0.mk (ho); clear BK299; clear BK300; clear HB; clear HO_301002; have BK299 := n0_; have BK300 := n1_; have HB := n2_; have HO324 := n3_; clear n0_ n1_ n2_ n3_; clear ho hb hg hat; obtain ⟨Ao51, co51, eo51⟩ := Kd.R_slice HO324.out; subst eo51; have hcz52_0 : w50.cell? ⟨gb300, 0, none⟩ = some (.int .i64 t303) := (blk_cell BK300.out 0).trans rfl; have hcz52_1 : w50.cell? ⟨gb300, 1, none⟩ = some (.int .i64 t308) := (blk_cell BK300.out 1).trans rfl; have hcz52_2 : w50.cell? ⟨gb300, 2, none⟩ = some (u301002) := (blk_cell BK300.out 2).trans rfl; have hfz52_0 := blk_frozen BK300.out 0; have hfz52_1 := blk_frozen BK300.out 1; have hfz52_2 := blk_frozen BK300.out 2))
            go_roundg k2
            case measure => have := HJ5.out; have := HK2.out; omega
            case rel => exact ⟨(t320), (x300000_2), (x300001_2), (y322), (.slice Ao51 y322.length co51), (by first | rfl | (simp; done) | (simp [*]; done)), H', ⟨by have := HJ5.out; have := HK2.out; omega⟩, ⟨by (with_reducible repeat (first | apply Kd.R_alloc | apply Kd.R_drewN | apply Kd.R_drew)); exact Kd.R_mono (Kd.R_far (p := ⟨gb300, 2, none⟩) (Kd.R_types HO324.out BK300.out (by decide)) (fun _ hk => hk.2) (.slice Ao51 y322.length co51)) (fun _ hk => trivial)⟩, ⟨by (with_reducible repeat (first | refine blk_drewN ?_ _ | refine blk_drew ?_ | refine blk_alloc ?_ _)); refine blk_far ?_ NB299_300.out _; (with_reducible repeat (first | refine blk_drewN ?_ _ | refine blk_drew ?_ | refine blk_alloc ?_ _)); exact BK299.out⟩, ⟨by (with_reducible repeat (first | refine blk_drewN ?_ _ | refine blk_drew ?_ | refine blk_alloc ?_ _)); refine blk_put (cs := #[.int .i64 t303, .int .i64 t308, u301002]) ?_ 2 _ rfl; (with_reducible repeat (first | refine blk_drewN ?_ _ | refine blk_drew ?_ | refine blk_alloc ?_ _)); exact BK300.out⟩, ⟨by repeat (first | (with_reducible first | exact HB.out | apply below_alloc | apply pw_below_drewN | apply below_drew1 | refine below_set ?_ GE299.out | refine below_set ?_ GE300.out) | exact HB.out)⟩⟩
           ·rw [if_neg c45] at H
            exact absurd H (by simp)
          ·replace c44 := Bool.eq_false_iff.mpr c44
           subst c44
           have H1 : (some (0, 0, ([] : List (S51)), 10)) = some (r1, r2, r3, r4) := by rw [if_neg (show ¬ (false = true) by decide)] at H; exact H
           clear H
           have H := H1
           clear H1
           simp only [Option.some.injEq, Prod.mk.injEq] at H
           obtain ⟨rfl, rfl, rfl, rfl⟩ := H
           go_wp2_with (first | ((with_reducible refine gate_callee (f := 32) rfl ?_); refine goesL_ (some 69) rfl rfl Tryd.func32 (by kernel_rfl) rfl #[.string x0_2, .string (⟨#[32]⟩ : ByteArray)] rfl (by (try simp only [List.map_toArray, List.map_cons, List.map_nil]); first | done | rfl | (simp only [List.length_drop, List.length_take]; rfl)) ?_; (with_reducible refine (credenzaref09_after.calls x0_2 (⟨#[32]⟩ : ByteArray) t312 true _ A37.out).mono ?_); rintro e w' ⟨rfl, ⟨nd, rfl⟩⟩; refine ⟨_, rfl, ?_⟩; (try (rw [drewN_self wr]; generalize hq_ : World.drewN wr _ = wr; have n0_ : Aside0 (Kd.R k51 51 wr w.heap.size (fun _ => True) u301002 x301002_2) := ⟨by rw [← hq_]; exact (by (with_reducible repeat (first | apply Kd.R_alloc | apply Kd.R_drewN | apply Kd.R_drew)); exact HO_301002.out)⟩; have n1_ : Aside0 (wr.heap[gb299]? = some (.cells #[.int .i64 x300000_2, .int .i64 x300001_2, .slice none 0 0] 32 (0, 0))) := ⟨by rw [← hq_]; exact (by (with_reducible repeat (first | refine blk_drewN ?_ _ | refine blk_drew ?_ | refine blk_alloc ?_ _)); exact BK299.out)⟩; have n2_ : Aside0 (wr.heap[gb300]? = some (.cells #[.int .i64 t303, .int .i64 t308, u301002] 32 (0, 0))) := ⟨by rw [← hq_]; exact (by (with_reducible repeat (first | refine blk_drewN ?_ _ | refine blk_drew ?_ | refine blk_alloc ?_ _)); exact BK300.out)⟩; have n3_ : Aside0 (Below w.heap.size w wr) := ⟨by rw [← hq_]; exact (by repeat (first | (with_reducible first | exact HB.out | apply below_alloc | apply pw_below_drewN | apply below_drew1 | refine below_set ?_ GE299.out | refine below_set ?_ GE300.out) | exact HB.out))⟩; clear HO_301002 BK299 BK300 HB hq_; have HO_301002 := n0_; have BK299 := n1_; have BK300 := n2_; have HB := n3_; clear n0_ n1_ n2_ n3_))) | ((with_reducible refine gate_callee (f := 33) rfl ?_); refine goesL_ (some 74) rfl rfl Tryd.func33 (by kernel_rfl) rfl #[.string t312] rfl (by (try simp only [List.map_toArray, List.map_cons, List.map_nil]); first | done | rfl | (simp only [List.length_drop, List.length_take]; rfl)) ?_; (with_reducible refine (credenzaref09_Number.calls k2 t312 t314 t315 true _ A38.out).mono ?_); rintro e w53 ⟨rfl, hb⟩; refine ⟨_, rfl, ?_⟩; have n0_ := Aside0.mk (Kd.R_below (by (with_reducible repeat (first | apply Kd.R_alloc | apply Kd.R_drewN | apply Kd.R_drew)); exact HO_301002.out) hb); have n1_ := Aside0.mk (blk_below (g := gb299) (o := .cells #[.int .i64 x300000_2, .int .i64 x300001_2, .slice none 0 0] 32 (0, 0)) (by (with_reducible repeat (first | refine blk_drewN ?_ _ | refine blk_drew ?_ | refine blk_alloc ?_ _)); exact BK299.out) hb); have n2_ := Aside0.mk (blk_below (g := gb300) (o := .cells #[.int .i64 t303, .int .i64 t308, u301002] 32 (0, 0)) (by (with_reducible repeat (first | refine blk_drewN ?_ _ | refine blk_drew ?_ | refine blk_alloc ?_ _)); exact BK300.out) hb); have n3_ := Aside0.mk (below_step (by repeat (first | (with_reducible first | exact HB.out | apply below_alloc | apply pw_below_drewN | apply below_drew1 | refine below_set ?_ GE299.out | refine below_set ?_ GE300.out) | exact HB.out)) hb); clear HO_301002; clear BK299; clear BK300; clear HB; have HO_301002 := n0_; have BK299 := n1_; have BK300 := n2_; have HB := n3_; clear n0_ n1_ n2_ n3_; (try clear hb); (try clear hb2); (try clear hk); (try clear hi)) | ((with_reducible refine gate_callee (f := 32) rfl ?_); refine goesL_ (some 80) rfl rfl Tryd.func32 (by kernel_rfl) rfl #[.string t315, .string (⟨#[47]⟩ : ByteArray)] rfl (by (try simp only [List.map_toArray, List.map_cons, List.map_nil]); first | done | rfl | (simp only [List.length_drop, List.length_take]; rfl)) ?_; (with_reducible refine (credenzaref09_after.calls t315 (⟨#[47]⟩ : ByteArray) t317 true _ A39.out).mono ?_); rintro e w' ⟨rfl, ⟨nd, rfl⟩⟩; refine ⟨_, rfl, ?_⟩; (try (rw [drewN_self w53]; generalize hq_ : World.drewN w53 _ = w53; have n0_ : Aside0 (Kd.R k51 51 w53 w.heap.size (fun _ => True) u301002 x301002_2) := ⟨by rw [← hq_]; exact (by (with_reducible repeat (first | apply Kd.R_alloc | apply Kd.R_drewN | apply Kd.R_drew)); exact HO_301002.out)⟩; have n1_ : Aside0 (w53.heap[gb299]? = some (.cells #[.int .i64 x300000_2, .int .i64 x300001_2, .slice none 0 0] 32 (0, 0))) := ⟨by rw [← hq_]; exact (by (with_reducible repeat (first | refine blk_drewN ?_ _ | refine blk_drew ?_ | refine blk_alloc ?_ _)); exact BK299.out)⟩; have n2_ : Aside0 (w53.heap[gb300]? = some (.cells #[.int .i64 t303, .int .i64 t308, u301002] 32 (0, 0))) := ⟨by rw [← hq_]; exact (by (with_reducible repeat (first | refine blk_drewN ?_ _ | refine blk_drew ?_ | refine blk_alloc ?_ _)); exact BK300.out)⟩; have n3_ : Aside0 (Below w.heap.size w w53) := ⟨by rw [← hq_]; exact (by repeat (first | (with_reducible first | exact HB.out | apply below_alloc | apply pw_below_drewN | apply below_drew1 | refine below_set ?_ GE299.out | refine below_set ?_ GE300.out) | exact HB.out))⟩; clear HO_301002 BK299 BK300 HB hq_; have HO_301002 := n0_; have BK299 := n1_; have BK300 := n2_; have HB := n3_; clear n0_ n1_ n2_ n3_))) | ((with_reducible refine gate_callee (f := 33) rfl ?_); refine goesL_ (some 85) rfl rfl Tryd.func33 (by kernel_rfl) rfl #[.string t317] rfl (by (try simp only [List.map_toArray, List.map_cons, List.map_nil]); first | done | rfl | (simp only [List.length_drop, List.length_take]; rfl)) ?_; (with_reducible refine (credenzaref09_Number.calls k2 t317 t319 t320 false _ A40.out).mono ?_); rintro e w54 ⟨rfl, hb⟩; refine ⟨_, rfl, ?_⟩; have n0_ := Aside0.mk (Kd.R_below (by (with_reducible repeat (first | apply Kd.R_alloc | apply Kd.R_drewN | apply Kd.R_drew)); exact HO_301002.out) hb); have n1_ := Aside0.mk (blk_below (g := gb299) (o := .cells #[.int .i64 x300000_2, .int .i64 x300001_2, .slice none 0 0] 32 (0, 0)) (by (with_reducible repeat (first | refine blk_drewN ?_ _ | refine blk_drew ?_ | refine blk_alloc ?_ _)); exact BK299.out) hb); have n2_ := Aside0.mk (blk_below (g := gb300) (o := .cells #[.int .i64 t303, .int .i64 t308, u301002] 32 (0, 0)) (by (with_reducible repeat (first | refine blk_drewN ?_ _ | refine blk_drew ?_ | refine blk_alloc ?_ _)); exact BK300.out) hb); have n3_ := Aside0.mk (below_step (by repeat (first | (with_reducible first | exact HB.out | apply below_alloc | apply pw_below_drewN | apply below_drew1 | refine below_set ?_ GE299.out | refine below_set ?_ GE300.out) | exact HB.out)) hb); clear HO_301002; clear BK299; clear BK300; clear HB; have HO_301002 := n0_; have BK299 := n1_; have BK300 := n2_; have HB := n3_; clear n0_ n1_ n2_ n3_; (try clear hb); (try clear hb2); (try clear hk); (try clear hi); have hnb55 := NB299_300.out; have hnc55 := NB300_299.out; have hcz56_0 : w54.cell? ⟨gb299, 0, none⟩ = some (.int .i64 x300000_2) := (blk_cell BK299.out 0).trans rfl; have hcz56_1 : w54.cell? ⟨gb299, 1, none⟩ = some (.int .i64 x300001_2) := (blk_cell BK299.out 1).trans rfl; have hcz56_2 : w54.cell? ⟨gb299, 2, none⟩ = some (.slice none 0 0) := (blk_cell BK299.out 2).trans rfl; have hfz56_0 := blk_frozen BK299.out 0; have hfz56_1 := blk_frozen BK299.out 1; have hfz56_2 := blk_frozen BK299.out 2))
           refine bodyPost_ret (results_ct rfl _ _ gb299 32 #[.int .i64 0, .int .i64 0, .slice none 0 0] (0, 0) _ rfl (by (with_reducible repeat (first | refine blk_drewN ?_ _ | refine blk_drew ?_ | refine blk_alloc ?_ _)); refine blk_put (cs := #[.int .i64 0, .int .i64 0, .slice none 0 0]) ?_ 2 _ rfl; (with_reducible repeat (first | refine blk_drewN ?_ _ | refine blk_drew ?_ | refine blk_alloc ?_ _)); refine blk_put (cs := #[.int .i64 0, .int .i64 x300001_2, .slice none 0 0]) ?_ 1 _ rfl; (with_reducible repeat (first | refine blk_drewN ?_ _ | refine blk_drew ?_ | refine blk_alloc ?_ _)); refine blk_put (cs := #[.int .i64 x300000_2, .int .i64 x300001_2, .slice none 0 0]) ?_ 0 _ rfl; (with_reducible repeat (first | refine blk_drewN ?_ _ | refine blk_drew ?_ | refine blk_alloc ?_ _)); exact BK299.out) Tryd.underlying32 rfl (by kernel_rfl)) rfl ?_
           exact ⟨_, by first | rfl | (simp [errW_none, errW_some] <;> rfl) | (simp [*, errW_none, errW_some] <;> rfl), by first | exact Kd.R_nil _ _ _ _ _ | exact Kd.N_nil _ _ _ _ _ | exact Kd.V_nil _ _ _ _ _ | exact Kd.Q_nil _ _ _ _ _ | exact Kd.S_nil _ _ _ _ _, by repeat (first | (with_reducible first | exact HB.out | apply below_alloc | apply pw_below_drewN | apply below_drew1 | refine below_set ?_ GE299.out | refine below_set ?_ GE300.out) | exact HB.out)⟩
         ·replace c43 := Bool.eq_false_iff.mpr c43
          subst c43
          have H1 : (some (0, 0, ([] : List (S51)), 10)) = some (r1, r2, r3, r4) := by rw [if_neg (show ¬ (false = true) by decide)] at H; exact H
          clear H
          have H := H1
          clear H1
          simp only [Option.some.injEq, Prod.mk.injEq] at H
          obtain ⟨rfl, rfl, rfl, rfl⟩ := H
          go_wp2_with (first | ((with_reducible refine gate_callee (f := 32) rfl ?_); refine goesL_ (some 69) rfl rfl Tryd.func32 (by kernel_rfl) rfl #[.string x0_2, .string (⟨#[32]⟩ : ByteArray)] rfl (by (try simp only [List.map_toArray, List.map_cons, List.map_nil]); first | done | rfl | (simp only [List.length_drop, List.length_take]; rfl)) ?_; (with_reducible refine (credenzaref09_after.calls x0_2 (⟨#[32]⟩ : ByteArray) t312 true _ A37.out).mono ?_); rintro e w' ⟨rfl, ⟨nd, rfl⟩⟩; refine ⟨_, rfl, ?_⟩; (try (rw [drewN_self wr]; generalize hq_ : World.drewN wr _ = wr; have n0_ : Aside0 (Kd.R k51 51 wr w.heap.size (fun _ => True) u301002 x301002_2) := ⟨by rw [← hq_]; exact (by (with_reducible repeat (first | apply Kd.R_alloc | apply Kd.R_drewN | apply Kd.R_drew)); exact HO_301002.out)⟩; have n1_ : Aside0 (wr.heap[gb299]? = some (.cells #[.int .i64 x300000_2, .int .i64 x300001_2, .slice none 0 0] 32 (0, 0))) := ⟨by rw [← hq_]; exact (by (with_reducible repeat (first | refine blk_drewN ?_ _ | refine blk_drew ?_ | refine blk_alloc ?_ _)); exact BK299.out)⟩; have n2_ : Aside0 (wr.heap[gb300]? = some (.cells #[.int .i64 t303, .int .i64 t308, u301002] 32 (0, 0))) := ⟨by rw [← hq_]; exact (by (with_reducible repeat (first | refine blk_drewN ?_ _ | refine blk_drew ?_ | refine blk_alloc ?_ _)); exact BK300.out)⟩; have n3_ : Aside0 (Below w.heap.size w wr) := ⟨by rw [← hq_]; exact (by repeat (first | (with_reducible first | exact HB.out | apply below_alloc | apply pw_below_drewN | apply below_drew1 | refine below_set ?_ GE299.out | refine below_set ?_ GE300.out) | exact HB.out))⟩; clear HO_301002 BK299 BK300 HB hq_; have HO_301002 := n0_; have BK299 := n1_; have BK300 := n2_; have HB := n3_; clear n0_ n1_ n2_ n3_))) | ((with_reducible refine gate_callee (f := 33) rfl ?_); refine goesL_ (some 74) rfl rfl Tryd.func33 (by kernel_rfl) rfl #[.string t312] rfl (by (try simp only [List.map_toArray, List.map_cons, List.map_nil]); first | done | rfl | (simp only [List.length_drop, List.length_take]; rfl)) ?_; (with_reducible refine (credenzaref09_Number.calls k2 t312 t314 t315 true _ A38.out).mono ?_); rintro e w57 ⟨rfl, hb⟩; refine ⟨_, rfl, ?_⟩; have n0_ := Aside0.mk (Kd.R_below (by (with_reducible repeat (first | apply Kd.R_alloc | apply Kd.R_drewN | apply Kd.R_drew)); exact HO_301002.out) hb); have n1_ := Aside0.mk (blk_below (g := gb299) (o := .cells #[.int .i64 x300000_2, .int .i64 x300001_2, .slice none 0 0] 32 (0, 0)) (by (with_reducible repeat (first | refine blk_drewN ?_ _ | refine blk_drew ?_ | refine blk_alloc ?_ _)); exact BK299.out) hb); have n2_ := Aside0.mk (blk_below (g := gb300) (o := .cells #[.int .i64 t303, .int .i64 t308, u301002] 32 (0, 0)) (by (with_reducible repeat (first | refine blk_drewN ?_ _ | refine blk_drew ?_ | refine blk_alloc ?_ _)); exact BK300.out) hb); have n3_ := Aside0.mk (below_step (by repeat (first | (with_reducible first | exact HB.out | apply below_alloc | apply pw_below_drewN | apply below_drew1 | refine below_set ?_ GE299.out | refine below_set ?_ GE300.out) | exact HB.out)) hb); clear HO_301002; clear BK299; clear BK300; clear HB; have HO_301002 := n0_; have BK299 := n1_; have BK300 := n2_; have HB := n3_; clear n0_ n1_ n2_ n3_; (try clear hb); (try clear hb2); (try clear hk); (try clear hi)) | ((with_reducible refine gate_callee (f := 32) rfl ?_); refine goesL_ (some 80) rfl rfl Tryd.func32 (by kernel_rfl) rfl #[.string t315, .string (⟨#[47]⟩ : ByteArray)] rfl (by (try simp only [List.map_toArray, List.map_cons, List.map_nil]); first | done | rfl | (simp only [List.length_drop, List.length_take]; rfl)) ?_; (with_reducible refine (credenzaref09_after.calls t315 (⟨#[47]⟩ : ByteArray) t317 false _ A39.out).mono ?_); rintro e w' ⟨rfl, ⟨nd, rfl⟩⟩; refine ⟨_, rfl, ?_⟩; (try (rw [drewN_self w57]; generalize hq_ : World.drewN w57 _ = w57; have n0_ : Aside0 (Kd.R k51 51 w57 w.heap.size (fun _ => True) u301002 x301002_2) := ⟨by rw [← hq_]; exact (by (with_reducible repeat (first | apply Kd.R_alloc | apply Kd.R_drewN | apply Kd.R_drew)); exact HO_301002.out)⟩; have n1_ : Aside0 (w57.heap[gb299]? = some (.cells #[.int .i64 x300000_2, .int .i64 x300001_2, .slice none 0 0] 32 (0, 0))) := ⟨by rw [← hq_]; exact (by (with_reducible repeat (first | refine blk_drewN ?_ _ | refine blk_drew ?_ | refine blk_alloc ?_ _)); exact BK299.out)⟩; have n2_ : Aside0 (w57.heap[gb300]? = some (.cells #[.int .i64 t303, .int .i64 t308, u301002] 32 (0, 0))) := ⟨by rw [← hq_]; exact (by (with_reducible repeat (first | refine blk_drewN ?_ _ | refine blk_drew ?_ | refine blk_alloc ?_ _)); exact BK300.out)⟩; have n3_ : Aside0 (Below w.heap.size w w57) := ⟨by rw [← hq_]; exact (by repeat (first | (with_reducible first | exact HB.out | apply below_alloc | apply pw_below_drewN | apply below_drew1 | refine below_set ?_ GE299.out | refine below_set ?_ GE300.out) | exact HB.out))⟩; clear HO_301002 BK299 BK300 HB hq_; have HO_301002 := n0_; have BK299 := n1_; have BK300 := n2_; have HB := n3_; clear n0_ n1_ n2_ n3_))) | ((with_reducible refine gate_callee (f := 33) rfl ?_); refine goesL_ (some 85) rfl rfl Tryd.func33 (by kernel_rfl) rfl #[.string t317] rfl (by (try simp only [List.map_toArray, List.map_cons, List.map_nil]); first | done | rfl | (simp only [List.length_drop, List.length_take]; rfl)) ?_; (with_reducible refine (credenzaref09_Number.calls k2 t317 t319 t320 t321 _ A40.out).mono ?_); rintro e w58 ⟨rfl, hb⟩; refine ⟨_, rfl, ?_⟩; have n0_ := Aside0.mk (Kd.R_below (by (with_reducible repeat (first | apply Kd.R_alloc | apply Kd.R_drewN | apply Kd.R_drew)); exact HO_301002.out) hb); have n1_ := Aside0.mk (blk_below (g := gb299) (o := .cells #[.int .i64 x300000_2, .int .i64 x300001_2, .slice none 0 0] 32 (0, 0)) (by (with_reducible repeat (first | refine blk_drewN ?_ _ | refine blk_drew ?_ | refine blk_alloc ?_ _)); exact BK299.out) hb); have n2_ := Aside0.mk (blk_below (g := gb300) (o := .cells #[.int .i64 t303, .int .i64 t308, u301002] 32 (0, 0)) (by (with_reducible repeat (first | refine blk_drewN ?_ _ | refine blk_drew ?_ | refine blk_alloc ?_ _)); exact BK300.out) hb); have n3_ := Aside0.mk (below_step (by repeat (first | (with_reducible first | exact HB.out | apply below_alloc | apply pw_below_drewN | apply below_drew1 | refine below_set ?_ GE299.out | refine below_set ?_ GE300.out) | exact HB.out)) hb); clear HO_301002; clear BK299; clear BK300; clear HB; have HO_301002 := n0_; have BK299 := n1_; have BK300 := n2_; have HB := n3_; clear n0_ n1_ n2_ n3_; (try clear hb); (try clear hb2); (try clear hk); (try clear hi); have hnb59 := NB299_300.out; have hnc59 := NB300_299.out; have hcz60_0 : w58.cell? ⟨gb299, 0, none⟩ = some (.int .i64 x300000_2) := (blk_cell BK299.out 0).trans rfl; have hcz60_1 : w58.cell? ⟨gb299, 1, none⟩ = some (.int .i64 x300001_2) := (blk_cell BK299.out 1).trans rfl; have hcz60_2 : w58.cell? ⟨gb299, 2, none⟩ = some (.slice none 0 0) := (blk_cell BK299.out 2).trans rfl; have hfz60_0 := blk_frozen BK299.out 0; have hfz60_1 := blk_frozen BK299.out 1; have hfz60_2 := blk_frozen BK299.out 2))
          refine bodyPost_ret (results_ct rfl _ _ gb299 32 #[.int .i64 0, .int .i64 0, .slice none 0 0] (0, 0) _ rfl (by (with_reducible repeat (first | refine blk_drewN ?_ _ | refine blk_drew ?_ | refine blk_alloc ?_ _)); refine blk_put (cs := #[.int .i64 0, .int .i64 0, .slice none 0 0]) ?_ 2 _ rfl; (with_reducible repeat (first | refine blk_drewN ?_ _ | refine blk_drew ?_ | refine blk_alloc ?_ _)); refine blk_put (cs := #[.int .i64 0, .int .i64 x300001_2, .slice none 0 0]) ?_ 1 _ rfl; (with_reducible repeat (first | refine blk_drewN ?_ _ | refine blk_drew ?_ | refine blk_alloc ?_ _)); refine blk_put (cs := #[.int .i64 x300000_2, .int .i64 x300001_2, .slice none 0 0]) ?_ 0 _ rfl; (with_reducible repeat (first | refine blk_drewN ?_ _ | refine blk_drew ?_ | refine blk_alloc ?_ _)); exact BK299.out) Tryd.underlying32 rfl (by kernel_rfl)) rfl ?_
          exact ⟨_, by first | rfl | (simp [errW_none, errW_some] <;> rfl) | (simp [*, errW_none, errW_some] <;> rfl), by first | exact Kd.R_nil _ _ _ _ _ | exact Kd.N_nil _ _ _ _ _ | exact Kd.V_nil _ _ _ _ _ | exact Kd.Q_nil _ _ _ _ _ | exact Kd.S_nil _ _ _ _ _, by repeat (first | (with_reducible first | exact HB.out | apply below_alloc | apply pw_below_drewN | apply below_drew1 | refine below_set ?_ GE299.out | refine below_set ?_ GE300.out) | exact HB.out)⟩
        ·replace c42 := Bool.eq_false_iff.mpr c42
         subst c42
         have H1 : (some (0, 0, ([] : List (S51)), 10)) = some (r1, r2, r3, r4) := by rw [if_neg (show ¬ (false = true) by decide)] at H; exact H
         clear H
         have H := H1
         clear H1
         simp only [Option.some.injEq, Prod.mk.injEq] at H
         obtain ⟨rfl, rfl, rfl, rfl⟩ := H
         go_wp2_with (first | ((with_reducible refine gate_callee (f := 32) rfl ?_); refine goesL_ (some 69) rfl rfl Tryd.func32 (by kernel_rfl) rfl #[.string x0_2, .string (⟨#[32]⟩ : ByteArray)] rfl (by (try simp only [List.map_toArray, List.map_cons, List.map_nil]); first | done | rfl | (simp only [List.length_drop, List.length_take]; rfl)) ?_; (with_reducible refine (credenzaref09_after.calls x0_2 (⟨#[32]⟩ : ByteArray) t312 true _ A37.out).mono ?_); rintro e w' ⟨rfl, ⟨nd, rfl⟩⟩; refine ⟨_, rfl, ?_⟩; (try (rw [drewN_self wr]; generalize hq_ : World.drewN wr _ = wr; have n0_ : Aside0 (Kd.R k51 51 wr w.heap.size (fun _ => True) u301002 x301002_2) := ⟨by rw [← hq_]; exact (by (with_reducible repeat (first | apply Kd.R_alloc | apply Kd.R_drewN | apply Kd.R_drew)); exact HO_301002.out)⟩; have n1_ : Aside0 (wr.heap[gb299]? = some (.cells #[.int .i64 x300000_2, .int .i64 x300001_2, .slice none 0 0] 32 (0, 0))) := ⟨by rw [← hq_]; exact (by (with_reducible repeat (first | refine blk_drewN ?_ _ | refine blk_drew ?_ | refine blk_alloc ?_ _)); exact BK299.out)⟩; have n2_ : Aside0 (wr.heap[gb300]? = some (.cells #[.int .i64 t303, .int .i64 t308, u301002] 32 (0, 0))) := ⟨by rw [← hq_]; exact (by (with_reducible repeat (first | refine blk_drewN ?_ _ | refine blk_drew ?_ | refine blk_alloc ?_ _)); exact BK300.out)⟩; have n3_ : Aside0 (Below w.heap.size w wr) := ⟨by rw [← hq_]; exact (by repeat (first | (with_reducible first | exact HB.out | apply below_alloc | apply pw_below_drewN | apply below_drew1 | refine below_set ?_ GE299.out | refine below_set ?_ GE300.out) | exact HB.out))⟩; clear HO_301002 BK299 BK300 HB hq_; have HO_301002 := n0_; have BK299 := n1_; have BK300 := n2_; have HB := n3_; clear n0_ n1_ n2_ n3_))) | ((with_reducible refine gate_callee (f := 33) rfl ?_); refine goesL_ (some 74) rfl rfl Tryd.func33 (by kernel_rfl) rfl #[.string t312] rfl (by (try simp only [List.map_toArray, List.map_cons, List.map_nil]); first | done | rfl | (simp only [List.length_drop, List.length_take]; rfl)) ?_; (with_reducible refine (credenzaref09_Number.calls k2 t312 t314 t315 false _ A38.out).mono ?_); rintro e w61 ⟨rfl, hb⟩; refine ⟨_, rfl, ?_⟩; have n0_ := Aside0.mk (Kd.R_below (by (with_reducible repeat (first | apply Kd.R_alloc | apply Kd.R_drewN | apply Kd.R_drew)); exact HO_301002.out) hb); have n1_ := Aside0.mk (blk_below (g := gb299) (o := .cells #[.int .i64 x300000_2, .int .i64 x300001_2, .slice none 0 0] 32 (0, 0)) (by (with_reducible repeat (first | refine blk_drewN ?_ _ | refine blk_drew ?_ | refine blk_alloc ?_ _)); exact BK299.out) hb); have n2_ := Aside0.mk (blk_below (g := gb300) (o := .cells #[.int .i64 t303, .int .i64 t308, u301002] 32 (0, 0)) (by (with_reducible repeat (first | refine blk_drewN ?_ _ | refine blk_drew ?_ | refine blk_alloc ?_ _)); exact BK300.out) hb); have n3_ := Aside0.mk (below_step (by repeat (first | (with_reducible first | exact HB.out | apply below_alloc | apply pw_below_drewN | apply below_drew1 | refine below_set ?_ GE299.out | refine below_set ?_ GE300.out) | exact HB.out)) hb); clear HO_301002; clear BK299; clear BK300; clear HB; have HO_301002 := n0_; have BK299 := n1_; have BK300 := n2_; have HB := n3_; clear n0_ n1_ n2_ n3_; (try clear hb); (try clear hb2); (try clear hk); (try clear hi)) | ((with_reducible refine gate_callee (f := 32) rfl ?_); refine goesL_ (some 80) rfl rfl Tryd.func32 (by kernel_rfl) rfl #[.string t315, .string (⟨#[47]⟩ : ByteArray)] rfl (by (try simp only [List.map_toArray, List.map_cons, List.map_nil]); first | done | rfl | (simp only [List.length_drop, List.length_take]; rfl)) ?_; (with_reducible refine (credenzaref09_after.calls t315 (⟨#[47]⟩ : ByteArray) t317 t318 _ A39.out).mono ?_); rintro e w' ⟨rfl, ⟨nd, rfl⟩⟩; refine ⟨_, rfl, ?_⟩; (try (rw [drewN_self w61]; generalize hq_ : World.drewN w61 _ = w61; have n0_ : Aside0 (Kd.R k51 51 w61 w.heap.size (fun _ => True) u301002 x301002_2) := ⟨by rw [← hq_]; exact (by (with_reducible repeat (first | apply Kd.R_alloc | apply Kd.R_drewN | apply Kd.R_drew)); exact HO_301002.out)⟩; have n1_ : Aside0 (w61.heap[gb299]? = some (.cells #[.int .i64 x300000_2, .int .i64 x300001_2, .slice none 0 0] 32 (0, 0))) := ⟨by rw [← hq_]; exact (by (with_reducible repeat (first | refine blk_drewN ?_ _ | refine blk_drew ?_ | refine blk_alloc ?_ _)); exact BK299.out)⟩; have n2_ : Aside0 (w61.heap[gb300]? = some (.cells #[.int .i64 t303, .int .i64 t308, u301002] 32 (0, 0))) := ⟨by rw [← hq_]; exact (by (with_reducible repeat (first | refine blk_drewN ?_ _ | refine blk_drew ?_ | refine blk_alloc ?_ _)); exact BK300.out)⟩; have n3_ : Aside0 (Below w.heap.size w w61) := ⟨by rw [← hq_]; exact (by repeat (first | (with_reducible first | exact HB.out | apply below_alloc | apply pw_below_drewN | apply below_drew1 | refine below_set ?_ GE299.out | refine below_set ?_ GE300.out) | exact HB.out))⟩; clear HO_301002 BK299 BK300 HB hq_; have HO_301002 := n0_; have BK299 := n1_; have BK300 := n2_; have HB := n3_; clear n0_ n1_ n2_ n3_))) | ((with_reducible refine gate_callee (f := 33) rfl ?_); refine goesL_ (some 85) rfl rfl Tryd.func33 (by kernel_rfl) rfl #[.string t317] rfl (by (try simp only [List.map_toArray, List.map_cons, List.map_nil]); first | done | rfl | (simp only [List.length_drop, List.length_take]; rfl)) ?_; (with_reducible refine (credenzaref09_Number.calls k2 t317 t319 t320 t321 _ A40.out).mono ?_); rintro e w62 ⟨rfl, hb⟩; refine ⟨_, rfl, ?_⟩; have n0_ := Aside0.mk (Kd.R_below (by (with_reducible repeat (first | apply Kd.R_alloc | apply Kd.R_drewN | apply Kd.R_drew)); exact HO_301002.out) hb); have n1_ := Aside0.mk (blk_below (g := gb299) (o := .cells #[.int .i64 x300000_2, .int .i64 x300001_2, .slice none 0 0] 32 (0, 0)) (by (with_reducible repeat (first | refine blk_drewN ?_ _ | refine blk_drew ?_ | refine blk_alloc ?_ _)); exact BK299.out) hb); have n2_ := Aside0.mk (blk_below (g := gb300) (o := .cells #[.int .i64 t303, .int .i64 t308, u301002] 32 (0, 0)) (by (with_reducible repeat (first | refine blk_drewN ?_ _ | refine blk_drew ?_ | refine blk_alloc ?_ _)); exact BK300.out) hb); have n3_ := Aside0.mk (below_step (by repeat (first | (with_reducible first | exact HB.out | apply below_alloc | apply pw_below_drewN | apply below_drew1 | refine below_set ?_ GE299.out | refine below_set ?_ GE300.out) | exact HB.out)) hb); clear HO_301002; clear BK299; clear BK300; clear HB; have HO_301002 := n0_; have BK299 := n1_; have BK300 := n2_; have HB := n3_; clear n0_ n1_ n2_ n3_; (try clear hb); (try clear hb2); (try clear hk); (try clear hi); have hnb63 := NB299_300.out; have hnc63 := NB300_299.out; have hcz64_0 : w62.cell? ⟨gb299, 0, none⟩ = some (.int .i64 x300000_2) := (blk_cell BK299.out 0).trans rfl; have hcz64_1 : w62.cell? ⟨gb299, 1, none⟩ = some (.int .i64 x300001_2) := (blk_cell BK299.out 1).trans rfl; have hcz64_2 : w62.cell? ⟨gb299, 2, none⟩ = some (.slice none 0 0) := (blk_cell BK299.out 2).trans rfl; have hfz64_0 := blk_frozen BK299.out 0; have hfz64_1 := blk_frozen BK299.out 1; have hfz64_2 := blk_frozen BK299.out 2))
         refine bodyPost_ret (results_ct rfl _ _ gb299 32 #[.int .i64 0, .int .i64 0, .slice none 0 0] (0, 0) _ rfl (by (with_reducible repeat (first | refine blk_drewN ?_ _ | refine blk_drew ?_ | refine blk_alloc ?_ _)); refine blk_put (cs := #[.int .i64 0, .int .i64 0, .slice none 0 0]) ?_ 2 _ rfl; (with_reducible repeat (first | refine blk_drewN ?_ _ | refine blk_drew ?_ | refine blk_alloc ?_ _)); refine blk_put (cs := #[.int .i64 0, .int .i64 x300001_2, .slice none 0 0]) ?_ 1 _ rfl; (with_reducible repeat (first | refine blk_drewN ?_ _ | refine blk_drew ?_ | refine blk_alloc ?_ _)); refine blk_put (cs := #[.int .i64 x300000_2, .int .i64 x300001_2, .slice none 0 0]) ?_ 0 _ rfl; (with_reducible repeat (first | refine blk_drewN ?_ _ | refine blk_drew ?_ | refine blk_alloc ?_ _)); exact BK299.out) Tryd.underlying32 rfl (by kernel_rfl)) rfl ?_
         exact ⟨_, by first | rfl | (simp [errW_none, errW_some] <;> rfl) | (simp [*, errW_none, errW_some] <;> rfl), by first | exact Kd.R_nil _ _ _ _ _ | exact Kd.N_nil _ _ _ _ _ | exact Kd.V_nil _ _ _ _ _ | exact Kd.Q_nil _ _ _ _ _ | exact Kd.S_nil _ _ _ _ _, by repeat (first | (with_reducible first | exact HB.out | apply below_alloc | apply pw_below_drewN | apply below_drew1 | refine below_set ?_ GE299.out | refine below_set ?_ GE300.out) | exact HB.out)⟩
       ·replace c41 := Bool.eq_false_iff.mpr c41
        subst c41
        have H1 : (some (0, 0, ([] : List (S51)), 10)) = some (r1, r2, r3, r4) := by rw [if_neg (show ¬ (false = true) by decide)] at H; exact H
        clear H
        have H := H1
        clear H1
        simp only [Option.some.injEq, Prod.mk.injEq] at H
        obtain ⟨rfl, rfl, rfl, rfl⟩ := H
        go_wp2_with (first | ((with_reducible refine gate_callee (f := 32) rfl ?_); refine goesL_ (some 69) rfl rfl Tryd.func32 (by kernel_rfl) rfl #[.string x0_2, .string (⟨#[32]⟩ : ByteArray)] rfl (by (try simp only [List.map_toArray, List.map_cons, List.map_nil]); first | done | rfl | (simp only [List.length_drop, List.length_take]; rfl)) ?_; (with_reducible refine (credenzaref09_after.calls x0_2 (⟨#[32]⟩ : ByteArray) t312 false _ A37.out).mono ?_); rintro e w' ⟨rfl, ⟨nd, rfl⟩⟩; refine ⟨_, rfl, ?_⟩; (try (rw [drewN_self wr]; generalize hq_ : World.drewN wr _ = wr; have n0_ : Aside0 (Kd.R k51 51 wr w.heap.size (fun _ => True) u301002 x301002_2) := ⟨by rw [← hq_]; exact (by (with_reducible repeat (first | apply Kd.R_alloc | apply Kd.R_drewN | apply Kd.R_drew)); exact HO_301002.out)⟩; have n1_ : Aside0 (wr.heap[gb299]? = some (.cells #[.int .i64 x300000_2, .int .i64 x300001_2, .slice none 0 0] 32 (0, 0))) := ⟨by rw [← hq_]; exact (by (with_reducible repeat (first | refine blk_drewN ?_ _ | refine blk_drew ?_ | refine blk_alloc ?_ _)); exact BK299.out)⟩; have n2_ : Aside0 (wr.heap[gb300]? = some (.cells #[.int .i64 t303, .int .i64 t308, u301002] 32 (0, 0))) := ⟨by rw [← hq_]; exact (by (with_reducible repeat (first | refine blk_drewN ?_ _ | refine blk_drew ?_ | refine blk_alloc ?_ _)); exact BK300.out)⟩; have n3_ : Aside0 (Below w.heap.size w wr) := ⟨by rw [← hq_]; exact (by repeat (first | (with_reducible first | exact HB.out | apply below_alloc | apply pw_below_drewN | apply below_drew1 | refine below_set ?_ GE299.out | refine below_set ?_ GE300.out) | exact HB.out))⟩; clear HO_301002 BK299 BK300 HB hq_; have HO_301002 := n0_; have BK299 := n1_; have BK300 := n2_; have HB := n3_; clear n0_ n1_ n2_ n3_))) | ((with_reducible refine gate_callee (f := 33) rfl ?_); refine goesL_ (some 74) rfl rfl Tryd.func33 (by kernel_rfl) rfl #[.string t312] rfl (by (try simp only [List.map_toArray, List.map_cons, List.map_nil]); first | done | rfl | (simp only [List.length_drop, List.length_take]; rfl)) ?_; (with_reducible refine (credenzaref09_Number.calls k2 t312 t314 t315 t316 _ A38.out).mono ?_); rintro e w65 ⟨rfl, hb⟩; refine ⟨_, rfl, ?_⟩; have n0_ := Aside0.mk (Kd.R_below (by (with_reducible repeat (first | apply Kd.R_alloc | apply Kd.R_drewN | apply Kd.R_drew)); exact HO_301002.out) hb); have n1_ := Aside0.mk (blk_below (g := gb299) (o := .cells #[.int .i64 x300000_2, .int .i64 x300001_2, .slice none 0 0] 32 (0, 0)) (by (with_reducible repeat (first | refine blk_drewN ?_ _ | refine blk_drew ?_ | refine blk_alloc ?_ _)); exact BK299.out) hb); have n2_ := Aside0.mk (blk_below (g := gb300) (o := .cells #[.int .i64 t303, .int .i64 t308, u301002] 32 (0, 0)) (by (with_reducible repeat (first | refine blk_drewN ?_ _ | refine blk_drew ?_ | refine blk_alloc ?_ _)); exact BK300.out) hb); have n3_ := Aside0.mk (below_step (by repeat (first | (with_reducible first | exact HB.out | apply below_alloc | apply pw_below_drewN | apply below_drew1 | refine below_set ?_ GE299.out | refine below_set ?_ GE300.out) | exact HB.out)) hb); clear HO_301002; clear BK299; clear BK300; clear HB; have HO_301002 := n0_; have BK299 := n1_; have BK300 := n2_; have HB := n3_; clear n0_ n1_ n2_ n3_; (try clear hb); (try clear hb2); (try clear hk); (try clear hi)) | ((with_reducible refine gate_callee (f := 32) rfl ?_); refine goesL_ (some 80) rfl rfl Tryd.func32 (by kernel_rfl) rfl #[.string t315, .string (⟨#[47]⟩ : ByteArray)] rfl (by (try simp only [List.map_toArray, List.map_cons, List.map_nil]); first | done | rfl | (simp only [List.length_drop, List.length_take]; rfl)) ?_; (with_reducible refine (credenzaref09_after.calls t315 (⟨#[47]⟩ : ByteArray) t317 t318 _ A39.out).mono ?_); rintro e w' ⟨rfl, ⟨nd, rfl⟩⟩; refine ⟨_, rfl, ?_⟩; (try (rw [drewN_self w65]; generalize hq_ : World.drewN w65 _ = w65; have n0_ : Aside0 (Kd.R k51 51 w65 w.heap.size (fun _ => True) u301002 x301002_2) := ⟨by rw [← hq_]; exact (by (with_reducible repeat (first | apply Kd.R_alloc | apply Kd.R_drewN | apply Kd.R_drew)); exact HO_301002.out)⟩; have n1_ : Aside0 (w65.heap[gb299]? = some (.cells #[.int .i64 x300000_2, .int .i64 x300001_2, .slice none 0 0] 32 (0, 0))) := ⟨by rw [← hq_]; exact (by (with_reducible repeat (first | refine blk_drewN ?_ _ | refine blk_drew ?_ | refine blk_alloc ?_ _)); exact BK299.out)⟩; have n2_ : Aside0 (w65.heap[gb300]? = some (.cells #[.int .i64 t303, .int .i64 t308, u301002] 32 (0, 0))) := ⟨by rw [← hq_]; exact (by (with_reducible repeat (first | refine blk_drewN ?_ _ | refine blk_drew ?_ | refine blk_alloc ?_ _)); exact BK300.out)⟩; have n3_ : Aside0 (Below w.heap.size w w65) := ⟨by rw [← hq_]; exact (by repeat (first | (with_reducible first | exact HB.out | apply below_alloc | apply pw_below_drewN | apply below_drew1 | refine below_set ?_ GE299.out | refine below_set ?_ GE300.out) | exact HB.out))⟩; clear HO_301002 BK299 BK300 HB hq_; have HO_301002 := n0_; have BK299 := n1_; have BK300 := n2_; have HB := n3_; clear n0_ n1_ n2_ n3_))) | ((with_reducible refine gate_callee (f := 33) rfl ?_); refine goesL_ (some 85) rfl rfl Tryd.func33 (by kernel_rfl) rfl #[.string t317] rfl (by (try simp only [List.map_toArray, List.map_cons, List.map_nil]); first | done | rfl | (simp only [List.length_drop, List.length_take]; rfl)) ?_; (with_reducible refine (credenzaref09_Number.calls k2 t317 t319 t320 t321 _ A40.out).mono ?_); rintro e w66 ⟨rfl, hb⟩; refine ⟨_, rfl, ?_⟩; have n0_ := Aside0.mk (Kd.R_below (by (with_reducible repeat (first | apply Kd.R_alloc | apply Kd.R_drewN | apply Kd.R_drew)); exact HO_301002.out) hb); have n1_ := Aside0.mk (blk_below (g := gb299) (o := .cells #[.int .i64 x300000_2, .int .i64 x300001_2, .slice none 0 0] 32 (0, 0)) (by (with_reducible repeat (first | refine blk_drewN ?_ _ | refine blk_drew ?_ | refine blk_alloc ?_ _)); exact BK299.out) hb); have n2_ := Aside0.mk (blk_below (g := gb300) (o := .cells #[.int .i64 t303, .int .i64 t308, u301002] 32 (0, 0)) (by (with_reducible repeat (first | refine blk_drewN ?_ _ | refine blk_drew ?_ | refine blk_alloc ?_ _)); exact BK300.out) hb); have n3_ := Aside0.mk (below_step (by repeat (first | (with_reducible first | exact HB.out | apply below_alloc | apply pw_below_drewN | apply below_drew1 | refine below_set ?_ GE299.out | refine below_set ?_ GE300.out) | exact HB.out)) hb); clear HO_301002; clear BK299; clear BK300; clear HB; have HO_301002 := n0_; have BK299 := n1_; have BK300 := n2_; have HB := n3_; clear n0_ n1_ n2_ n3_; (try clear hb); (try clear hb2); (try clear hk); (try clear hi); have hnb67 := NB299_300.out; have hnc67 := NB300_299.out; have hcz68_0 : w66.cell? ⟨gb299, 0, none⟩ = some (.int .i64 x300000_2) := (blk_cell BK299.out 0).trans rfl; have hcz68_1 : w66.cell? ⟨gb299, 1, none⟩ = some (.int .i64 x300001_2) := (blk_cell BK299.out 1).trans rfl; have hcz68_2 : w66.cell? ⟨gb299, 2, none⟩ = some (.slice none 0 0) := (blk_cell BK299.out 2).trans rfl; have hfz68_0 := blk_frozen BK299.out 0; have hfz68_1 := blk_frozen BK299.out 1; have hfz68_2 := blk_frozen BK299.out 2))
        refine bodyPost_ret (results_ct rfl _ _ gb299 32 #[.int .i64 0, .int .i64 0, .slice none 0 0] (0, 0) _ rfl (by (with_reducible repeat (first | refine blk_drewN ?_ _ | refine blk_drew ?_ | refine blk_alloc ?_ _)); refine blk_put (cs := #[.int .i64 0, .int .i64 0, .slice none 0 0]) ?_ 2 _ rfl; (with_reducible repeat (first | refine blk_drewN ?_ _ | refine blk_drew ?_ | refine blk_alloc ?_ _)); refine blk_put (cs := #[.int .i64 0, .int .i64 x300001_2, .slice none 0 0]) ?_ 1 _ rfl; (with_reducible repeat (first | refine blk_drewN ?_ _ | refine blk_drew ?_ | refine blk_alloc ?_ _)); refine blk_put (cs := #[.int .i64 x300000_2, .int .i64 x300001_2, .slice none 0 0]) ?_ 0 _ rfl; (with_reducible repeat (first | refine blk_drewN ?_ _ | refine blk_drew ?_ | refine blk_alloc ?_ _)); exact BK299.out) Tryd.underlying32 rfl (by kernel_rfl)) rfl ?_
        exact ⟨_, by first | rfl | (simp [errW_none, errW_some] <;> rfl) | (simp [*, errW_none, errW_some] <;> rfl), by first | exact Kd.R_nil _ _ _ _ _ | exact Kd.N_nil _ _ _ _ _ | exact Kd.V_nil _ _ _ _ _ | exact Kd.Q_nil _ _ _ _ _ | exact Kd.S_nil _ _ _ _ _, by repeat (first | (with_reducible first | exact HB.out | apply below_alloc | apply pw_below_drewN | apply below_drew1 | refine below_set ?_ GE299.out | refine below_set ?_ GE300.out) | exact HB.out)⟩

end Go.Proofs.YtmldhpnkkkmloaaDoor.Q

namespace Go.Proofs.YtmldhpnkkkmloaaDoor.Pure
open Go.RowKit Go.Proofs.YtmldhpnkkkmloaaDoor.Q Go.Proofs.YtmldhpnkkkmloaaDoorW.PrintWords Go.Proofs.YtmldhpnkkkmloaaDoorW.PrintLast Go.Proofs.YtmldhpnkkkmloaaDoorW.PrintMore Go.Proofs.YtmldhpnkkkmloaaDoor.TierN
set_option linter.unusedVariables false

theorem mk_extract (l : List UInt8) (i j : Nat) : (mk l).extract i j = mk ((l.drop i).take (j - i)) := by
  rw [← mk_self ((mk l).extract i j)]
  congr 1
  have := Lib.extract_toList (mk l) i j
  rw [ByteArray.toList_eq, mk_data] at this
  exact this
def aftV (l p : List UInt8) : List UInt8 × Bool := if l.take p.length = p then (l.drop p.length, true) else (l, false)
theorem after_some (l p : List UInt8) : credenzaref09_after.f (mk l) (mk p) = some (mk (aftV l p).1, (aftV l p).2) := by
  unfold credenzaref09_after.f aftV
  rw [mk_size, mk_size, mk_extract, mk_extract, mk_toList, mk_toList, List.drop_zero, Nat.sub_zero]
  have e : (l.drop p.length).take (l.length - p.length) = l.drop p.length := List.take_of_length_le (by rw [List.length_drop]; exact Nat.le_refl _)
  rw [e]
  by_cases c : l.take p.length = p
  · have hl : p.length ≤ l.length := by
      have := congrArg List.length c
      rw [List.length_take] at this
      omega
    rw [if_pos hl, if_pos (beq_iff_eq.2 c), if_pos c]
  · rw [if_neg c]
    by_cases hl : p.length ≤ l.length
    · rw [if_pos hl, if_neg (by rw [beq_iff_eq]; exact c)]
    · rw [if_neg hl]
theorem aft_true {l p : List UInt8} (h : (aftV l p).2 = true) : l = p ++ (aftV l p).1 := by
  unfold aftV at h ⊢
  by_cases c : l.take p.length = p
  · rw [if_pos c]
    conv => lhs; rw [← List.take_append_drop p.length l, c]
  · rw [if_neg c] at h; cases h
theorem aft_app (p r : List UInt8) : aftV (p ++ r) p = (r, true) := by
  unfold aftV
  rw [if_pos (List.take_left' rfl), List.drop_left' rfl]

/-! Numbers, digit by digit. -/
def dig (c : UInt8) : Prop := 48 ≤ c.toNat ∧ c.toNat ≤ 57
instance (c : UInt8) : Decidable (dig c) := inferInstanceAs (Decidable (_ ∧ _))
def dval (n : Nat) (l : List UInt8) : Nat := l.foldl (fun a c => a * 10 + (c.toNat - 48)) n
theorem dval_nil (n : Nat) : dval n [] = n := by unfold dval; rw [List.foldl_nil]
theorem dval_cons (n : Nat) (c : UInt8) (l : List UInt8) : dval n (c :: l) = dval (n * 10 + (c.toNat - 48)) l := by unfold dval; rw [List.foldl_cons]
theorem dval_app (x y : List UInt8) (n : Nat) : dval n (x ++ y) = dval (dval n x) y := by unfold dval; rw [List.foldl_append]
theorem dval_D : ∀ (n u : Nat), u ≤ n → dval 0 (D u) = u := by
  intro n
  induction n with
  | zero =>
    intro u hu
    obtain rfl : u = 0 := by omega
    rw [D, Lib.decDigits_one (by omega), dval_cons, dval_nil]; rfl
  | succ n ih =>
    intro u hu
    by_cases h : u < 10
    · rw [D, Lib.decDigits_one h]
      have e : (UInt8.ofNat (48 + u)).toNat = 48 + u := by simp [UInt8.toNat_ofNat']; omega
      simp only [dval_cons, dval_nil, e]
      omega
    · rw [D, Lib.decDigits, dif_neg h, dval_app, ih (u / 10) (by omega)]
      have e : (UInt8.ofNat (48 + u % 10)).toNat = 48 + u % 10 := by simp [UInt8.toNat_ofNat']; omega
      simp only [dval_cons, dval_nil, e]
      omega
theorem D10 {u : Nat} (h : u ≤ 2147483647) : (D u).length ≤ 10 := by
  have : ∀ (k u : Nat), u < 10 ^ k → 0 < k → (D u).length ≤ k := by
    intro k
    induction k with
    | zero => intro u _ h; omega
    | succ k ih =>
      intro u h _
      by_cases c : u < 10
      · rw [D, Lib.decDigits_one c]; simp
      · have hk : 0 < k := by
          cases k with
          | zero => simp at h; omega
          | succ k => omega
        have := ih (u / 10) (by rw [Nat.pow_succ] at h; omega) hk
        rw [D, Lib.decDigits, dif_neg c, List.length_append]
        unfold D at this
        simp only [List.length_singleton]
        omega
  exact this 10 u (by omega) (by omega)
def stops (r : List UInt8) : Prop := r = [] ∨ ∃ c t, r = c :: t ∧ ¬ dig c
theorem exists_run : ∀ (m : Nat) (l : List UInt8), ∃ ds r, l = ds ++ r ∧ (∀ c ∈ ds, dig c) ∧ ds.length ≤ m ∧ (stops r ∨ ds.length = m)
  | 0, l => ⟨[], l, rfl, by simp, by simp, .inr rfl⟩
  | m + 1, [] => ⟨[], [], rfl, by simp, by simp, .inl (.inl rfl)⟩
  | m + 1, c :: l => by
    by_cases h : dig c
    · obtain ⟨ds, r, e, h1, h2, h3⟩ := exists_run m l
      refine ⟨c :: ds, r, by rw [e]; rfl, fun x hx => ?_, by simp; omega, ?_⟩
      · rcases List.mem_cons.1 hx with rfl | hx
        · exact h
        · exact h1 x hx
      · rcases h3 with h3 | h3
        · exact .inl h3
        · exact .inr (by simp [h3])
    · exact ⟨[], c :: l, rfl, by simp, by simp, .inl (.inr ⟨c, l, rfl, h⟩)⟩
def finish (l : List UInt8) (v m : Nat) : Int × ByteArray × Bool := if m = 0 then (0, mk l, false) else if v > 2147483647 then (0, mk l, false) else if D v = l.take m then ((v : Int), mk (l.drop m), true) else (0, mk l, false)
theorem bt_mk (l : List UInt8) (p : Nat) (h : p < l.length) : bt (mk l) (p : Int) = (l[p].toNat : Int) := by
  unfold bt
  rw [Int.toNat_natCast, dif_pos (by rw [mk_size]; exact h)]
  rfl
theorem fin_ev (l : List UInt8) (v m : Nat) (hm : m ≤ l.length) (hl : l.length ≤ 1000000) : Ev (fun k => if (m : Int) = 0 then (some (0, mk l, false)) else (if (v : Int) > 2147483647 then (some (0, mk l, false)) else ((credenzaref09_Digits.f k (v : Int)).bind fun t266 => (if (m : Int) ≤ ((mk l).size : Int) then (if t266.toList = ((mk l).extract 0 ((m : Int)).toNat).toList then (some ((v : Int), (mk l).extract ((m : Int)).toNat (mk l).size, true)) else (some (0, mk l, false))) else (none))))) (finish l v m) := by
  unfold finish
  by_cases c0 : m = 0
  · rw [if_pos c0]
    exact Ev.congr (fun k => by rw [if_pos (by omega)]) (Ev.now _)
  rw [if_neg c0]
  refine Ev.congr (fun k => by rw [if_neg (by omega)]) ?_
  by_cases c1 : v > 2147483647
  · rw [if_pos c1]
    exact Ev.congr (fun k => by rw [if_pos (by omega)]) (Ev.now _)
  rw [if_neg c1]
  refine Ev.congr (fun k => by rw [if_neg (by omega)]) (Ev.bind (digits_ev v v (Nat.le_refl _) (by omega)) ?_)
  refine Ev.congr (fun k => ?_) (Ev.now _)
  have e : (l.drop m).take (l.length - m) = l.drop m := List.take_of_length_le (by rw [List.length_drop]; exact Nat.le_refl _)
  rw [if_pos (by rw [mk_size]; omega), Int.toNat_natCast, mk_extract, mk_extract, mk_toList, mk_toList, List.drop_zero, Nat.sub_zero, mk_size, e]
  split <;> rfl
theorem num_l0 (l : List UInt8) (hl : l.length ≤ 1000000) (r : List UInt8) : ∀ (ds : List UInt8) (p v : Nat), l.drop p = ds ++ r → p ≤ l.length → (∀ c ∈ ds, dig c) → p + ds.length ≤ 10 → (stops r ∨ p + ds.length = 10) → v < 10 ^ p →
    Ev (fun k => credenzaref09_Number.l0 k (mk l) (v : Int) (p : Int)) (finish l (dval v ds) (p + ds.length)) := by
  intro ds
  induction ds with
  | nil =>
    intro p v e hp _ h10 hs hv
    rw [List.length_nil, Nat.add_zero] at h10 hs ⊢
    rw [dval_nil]
    have hf := fin_ev l v p hp hl
    by_cases c : p < l.length
    · have e1 : l[p] :: l.drop (p + 1) = r := by rw [← List.drop_eq_getElem_cons c, e]; rfl
      by_cases hd : dig l[p]
      · have h10' : p = 10 := by
          rcases hs with hs | hs
          · rcases hs with hs | ⟨x, t, hs, hx⟩
            · rw [hs] at e1; cases e1
            · rw [hs] at e1
              injection e1 with e1 _
              rw [e1] at hd
              exact absurd hd hx
          · exact hs
        refine Ev.step (fun k => ?_) hf
        obtain ⟨d1, d2⟩ := hd
        rw [credenzaref09_Number.l0, if_pos (by rw [mk_size]; omega), if_pos (by omega), bt_mk l p c, if_pos (by omega), if_pos (by omega), if_neg (by omega)]
      · refine Ev.step (fun k => ?_) hf
        unfold dig at hd
        rw [credenzaref09_Number.l0, if_pos (by rw [mk_size]; omega), if_pos (by omega), bt_mk l p c]
        by_cases d1 : 48 ≤ l[p].toNat
        · rw [if_pos (by omega), if_neg (by omega)]
        · rw [if_neg (by omega)]
    · refine Ev.step (fun k => ?_) hf
      rw [credenzaref09_Number.l0, if_neg (by rw [mk_size]; omega)]
      congr 1
  | cons x ds ih =>
    intro p v e hp hd h10 hs hv
    have c : p < l.length := by
      have := congrArg List.length e
      rw [List.length_drop, List.length_append, List.length_cons] at this
      omega
    have e1 : l[p] = x ∧ l.drop (p + 1) = ds ++ r := by
      rw [List.drop_eq_getElem_cons c] at e
      injection e with e1 e2
      exact ⟨e1, e2⟩
    obtain ⟨d1, d2⟩ := hd x (by simp)
    rw [List.length_cons] at h10 hs ⊢
    have hp10 : (10 : Nat) ^ p ≤ 10 ^ 9 := Nat.pow_le_pow_right (by omega) (by omega)
    have hlt : v * 10 + (x.toNat - 48) < 10 ^ (p + 1) := by rw [Nat.pow_succ]; omega
    have hs2 : stops r ∨ p + 1 + ds.length = 10 := by
      rcases hs with hs | hs
      · exact .inl hs
      · exact .inr (by omega)
    have := ih (p + 1) (v * 10 + (x.toNat - 48)) e1.2 (by omega) (fun c hc => hd c (List.mem_cons_of_mem _ hc)) (by omega) hs2 hlt
    rw [dval_cons, show p + (ds.length + 1) = p + 1 + ds.length by omega]
    refine Ev.step (fun k => ?_) this
    rw [credenzaref09_Number.l0, if_pos (by rw [mk_size]; omega), if_pos (by omega), bt_mk l p c, e1.1, if_pos (by omega), if_pos (by omega), if_pos (by omega), w64 (x := (v : Int) * 10) (by omega) (by omega), w64 (by omega) (by omega), w64 (x := (p : Int) + 1) (by omega) (by omega)]
    congr 1
    omega
/-- What Number tells. -/
theorem number_ev (l : List UInt8) (hl : l.length ≤ 1000000) : ∃ (n : Int) (r : List UInt8) (b : Bool), Ev (fun k => credenzaref09_Number.f k (mk l)) (n, mk r, b) ∧
    (b = true → small n ∧ l = D n.toNat ++ r) ∧ (b = false → r = l) ∧ (∀ (u : Nat) (s : List UInt8), u ≤ 2147483647 → stops s → l = D u ++ s → n = (u : Int) ∧ r = s ∧ b = true) := by
  obtain ⟨ds, r, e, h1, h2, h3⟩ := exists_run 10 l
  have ev := num_l0 l hl r ds 0 0 (by rw [List.drop_zero]; exact e) (by omega) h1 (by omega) (by simpa using h3) (by decide)
  rw [Nat.zero_add] at ev
  have ev' : Ev (fun k => credenzaref09_Number.f k (mk l)) (finish l (dval 0 ds) ds.length) := Ev.congr (fun k => by rw [credenzaref09_Number.f]; rfl) ev
  have et : l.take ds.length = ds := by rw [e, List.take_left' rfl]
  have ed : l.drop ds.length = r := by rw [e, List.drop_left' rfl]
  have uniq : ∀ (u : Nat) (s : List UInt8), u ≤ 2147483647 → stops s → l = D u ++ s → ds = D u ∧ r = s := by
    intro u s hu hs hl'
    have hD : (D u).length ≤ 10 := D10 hu
    have key : ds ++ r = D u ++ s := by rw [← e, hl']
    rcases Nat.lt_trichotomy ds.length (D u).length with hlt | heq | hgt
    · exfalso
      have hr : stops r := by
        rcases h3 with h3 | h3
        · exact h3
        · omega
      have hg : (ds ++ r)[ds.length]? = (D u ++ s)[ds.length]? := by rw [key]
      rw [List.getElem?_append_right (Nat.le_refl _), Nat.sub_self, List.getElem?_append_left hlt, List.getElem?_eq_getElem hlt] at hg
      rcases hr with hr | ⟨c, t, hr, hc⟩
      · rw [hr] at hg; simp at hg
      · rw [hr] at hg
        simp at hg
        exact hc (by rw [hg]; exact D_digit (List.getElem_mem hlt))
    · exact List.append_inj key heq
    · exfalso
      have hg : (ds ++ r)[(D u).length]? = (D u ++ s)[(D u).length]? := by rw [key]
      rw [List.getElem?_append_left hgt, List.getElem?_eq_getElem hgt, List.getElem?_append_right (Nat.le_refl _), Nat.sub_self] at hg
      rcases hs with hs | ⟨c, t, hs, hc⟩
      · rw [hs] at hg; simp at hg
      · rw [hs] at hg
        simp at hg
        exact hc (by rw [← hg]; exact h1 _ (List.getElem_mem hgt))
  unfold finish at ev'
  by_cases c0 : ds.length = 0
  · rw [if_pos c0] at ev'
    refine ⟨0, l, false, ev', by simp, by simp, fun u s hu hs hl' => ?_⟩
    have := (uniq u s hu hs hl').1
    rw [List.length_eq_zero_iff.1 c0] at this
    exact absurd this.symm (D_ne u)
  rw [if_neg c0] at ev'
  by_cases c1 : dval 0 ds > 2147483647
  · rw [if_pos c1] at ev'
    refine ⟨0, l, false, ev', by simp, by simp, fun u s hu hs hl' => ?_⟩
    have := (uniq u s hu hs hl').1
    rw [this, dval_D u u (Nat.le_refl _)] at c1
    omega
  rw [if_neg c1, et, ed] at ev'
  by_cases c2 : D (dval 0 ds) = ds
  · rw [if_pos c2] at ev'
    refine ⟨_, r, true, ev', fun _ => ⟨⟨by omega, by omega⟩, ?_⟩, by simp, fun u s hu hs hl' => ?_⟩
    · rw [Int.toNat_natCast, c2]; exact e
    · obtain ⟨e1, e2⟩ := uniq u s hu hs hl'
      refine ⟨?_, e2, rfl⟩
      rw [e1, dval_D u u (Nat.le_refl _)]
  · rw [if_neg c2] at ev'
    refine ⟨0, l, false, ev', by simp, by simp, fun u s hu hs hl' => ?_⟩
    have := (uniq u s hu hs hl').1
    rw [this, dval_D u u (Nat.le_refl _)] at c2
    exact absurd rfl c2
end Go.Proofs.YtmldhpnkkkmloaaDoor.Pure

namespace Go.Proofs.YtmldhpnkkkmloaaDoor.Q
open Go.RowKit Go.Proofs.YtmldhpnkkkmloaaDoorW.PrintWords Go.Proofs.YtmldhpnkkkmloaaDoorW.PrintLast Go.Proofs.YtmldhpnkkkmloaaDoorW.PrintMore
attribute [local go_sem] max2_int min2_int max_two min_two max_three min_three max_four min_four   -- for this text's walks alone
set_option linter.unusedVariables false
set_option linter.unusedSimpArgs false

/-! ### credenzalaw09_TierParses: function 4 -/
def credenzalaw09_TierParses.j0 : Nat → ByteArray → Int → Bool → Int → Int → List (S49) → Option (Bool)
 | 0, _, _, _, _, _, _ => none
 | k + 1, x0, x6, x32, x333000, x333001, x333002 => if x32 = true then (some false) else (if x6 = 0 then ((tier_Text.f k x333000 x333001 x333002).bind fun bt346 => (if bt346.2 = 0 then (if bt346.1.toList = x0.toList then ((credenzalaw09_awake.f k).bind fun t348 => (some t348)) else (some false)) else (some false))) else ((credenzalaw09_awake.f k).bind fun t349 => (some t349)))
def credenzalaw09_TierParses.f (k : Nat) (a0 : ByteArray) : Option (Bool) := if (a0.size : Int) > 200 then ((credenzalaw09_awake.f k).bind fun t325 => (some t325)) else ((tier_Parse.f k a0).bind fun bt326 => ((credenzaref09_Parse.f k a0).bind fun bt333 => (if bt326.2.2.2 = bt333.2.2.2 then ((credenzalaw09_ref.f k bt326.1 bt326.2.1 bt326.2.2.1).bind fun bt340 => ((credenzaref09_Same.f k bt340.1 bt340.2.1 bt340.2.2 bt333.1 bt333.2.1 bt333.2.2.1).bind fun t345 => (credenzalaw09_TierParses.j0 k a0 bt333.2.2.2 (!t345) bt326.1 bt326.2.1 bt326.2.2.1))) else (credenzalaw09_TierParses.j0 k a0 bt333.2.2.2 true bt326.1 bt326.2.1 bt326.2.2.1))))
theorem credenzalaw09_TierParses.mono_l : ∀ k, (∀ y0 y1 y2 y3 y4 y5, LeO (credenzalaw09_TierParses.j0 k y0 y1 y2 y3 y4 y5) (credenzalaw09_TierParses.j0 (k + 1) y0 y1 y2 y3 y4 y5))
 | 0 => fun _ _ _ _ _ _ r h => by simp [credenzalaw09_TierParses.j0] at h
 | k + 1 => by
  have ih0 := credenzalaw09_TierParses.mono_l k
  ·intro y0 y1 y2 y3 y4 y5
   unfold credenzalaw09_TierParses.j0
   repeat' first
   | (with_reducible exact ih0 _ _ _ _ _ _)
   | (with_reducible exact credenzalaw09_awake.mono _)
   | (with_reducible exact credenzalaw09_ref.mono _ _ _ _)
   | (with_reducible exact credenzaref09_Parse.mono _ _)
   | (with_reducible exact credenzaref09_Same.mono _ _ _ _ _ _ _)
   | (with_reducible exact tier_Parse.mono _ _)
   | (with_reducible exact tier_Text.mono _ _ _ _)
   | (with_reducible exact LeO.refl _)
   | (with_reducible exact LeO.none _)
   | (with_reducible refine LeO.ite ?_ ?_)
   | (with_reducible refine LeO.bind ?_ (fun _ => ?_))
   | exact ih0 _ _ _ _ _ _
   | exact credenzalaw09_awake.mono _
   | exact credenzalaw09_ref.mono _ _ _ _
   | exact credenzaref09_Parse.mono _ _
   | exact credenzaref09_Same.mono _ _ _ _ _ _ _
   | exact tier_Parse.mono _ _
   | exact tier_Text.mono _ _ _ _
   | exact LeO.none _
   | refine LeO.ite ?_ ?_
   | refine LeO.bind ?_ (fun _ => ?_)
theorem credenzalaw09_TierParses.mono : ∀ a0 k, LeO (credenzalaw09_TierParses.f k a0) (credenzalaw09_TierParses.f (k + 1) a0) := by
 intro a0 k
 have ih0 := credenzalaw09_TierParses.mono_l k
 unfold credenzalaw09_TierParses.f
 repeat' first
   | (with_reducible exact ih0 _ _ _ _ _ _)
   | (with_reducible exact credenzalaw09_awake.mono _)
   | (with_reducible exact credenzalaw09_ref.mono _ _ _ _)
   | (with_reducible exact credenzaref09_Parse.mono _ _)
   | (with_reducible exact credenzaref09_Same.mono _ _ _ _ _ _ _)
   | (with_reducible exact tier_Parse.mono _ _)
   | (with_reducible exact tier_Text.mono _ _ _ _)
   | (with_reducible exact LeO.refl _)
   | (with_reducible exact LeO.none _)
   | (with_reducible refine LeO.ite ?_ ?_)
   | (with_reducible refine LeO.bind ?_ (fun _ => ?_))
   | exact ih0 _ _ _ _ _ _
   | exact credenzalaw09_awake.mono _
   | exact credenzalaw09_ref.mono _ _ _ _
   | exact credenzaref09_Parse.mono _ _
   | exact credenzaref09_Same.mono _ _ _ _ _ _ _
   | exact tier_Parse.mono _ _
   | exact tier_Text.mono _ _ _ _
   | exact LeO.none _
   | refine LeO.ite ?_ ?_
   | refine LeO.bind ?_ (fun _ => ?_)
def credenzalaw09_TierParses.T5 : Bool × List (List Nat × List Nat) := (true, [([], []), ([], []), ([0, 1], [0, 1]), ([2], [2]), ([3], [3]), ([4, 3, 3], [3, 4]), ([3], [3]), ([5, 6, 5, 3], [3, 5, 6]), ([7, 3], [3, 7]), ([3, 8], [3, 8])])
def credenzalaw09_TierParses.B5 : List Nat := [0, 0, 3, 7, 15, 31, 15, 127, 255, 511]
theorem credenzalaw09_TierParses.tab5 : rtab .any (opsOf Tryd.f4 5) = credenzalaw09_TierParses.T5 := by kernel_rfl
theorem credenzalaw09_TierParses.bits5 : waitsOk credenzalaw09_TierParses.T5.2 credenzalaw09_TierParses.B5 = true := by kernel_rfl
set_option maxHeartbeats 8000000 in
set_option maxRecDepth 100000 in
theorem credenzalaw09_TierParses.calls (k : Nat) (a0 : ByteArray) (r : Bool) (w : World) (hG : Gl w) (h : credenzalaw09_TierParses.f k a0 = some r) :
  Calls Tryd.prog 4 #[.string a0] w fun e w' => e = .returned (.bool r) ∧ Below w.heap.size w w' := by
 have hu24 := Tryd.underlying24
 have hu32 := Tryd.underlying32
 have HB := Aside0.mk (Below.refl w.heap.size w)
 have H : (if (a0.size : Int) > 200 then ((credenzalaw09_awake.f k).bind fun t325 => (some t325)) else ((tier_Parse.f k a0).bind fun bt326 => ((credenzaref09_Parse.f k a0).bind fun bt333 => (if bt326.2.2.2 = bt333.2.2.2 then ((credenzalaw09_ref.f k bt326.1 bt326.2.1 bt326.2.2.1).bind fun bt340 => ((credenzaref09_Same.f k bt340.1 bt340.2.1 bt340.2.2 bt333.1 bt333.2.1 bt333.2.2.1).bind fun t345 => (credenzalaw09_TierParses.j0 k a0 bt333.2.2.2 (!t345) bt326.1 bt326.2.1 bt326.2.2.1))) else (credenzalaw09_TierParses.j0 k a0 bt333.2.2.2 true bt326.1 bt326.2.1 bt326.2.2.1))))) = some r := h
 clear h
 by_cases c2 : (a0.size : Int) > 200
 ·rw [if_pos c2] at H
  have c2b0 : decide (200 < (a0.size : Int)) = true := decide_eq_true c2
  have c2b1 : decide (200 < a0.size) = true := decide_eq_true (by omega)
  clear c2
  replace H := Option.bind_eq_some_iff.mp H
  obtain ⟨t325, A30, H⟩ := H
  replace H : (some t325) = some r := H
  have A3 := Aside0.mk A30
  clear A30
  obtain rfl := Option.some.inj H
  go_enter Tryd.func4, Tryd.ntmps4
  go_wp2_with (first | ((with_reducible refine gate_callee (f := 8) rfl ?_); refine goesL_ (some 12) rfl rfl Tryd.func8 (by kernel_rfl) rfl #[] rfl (by (try simp only [List.map_toArray, List.map_cons, List.map_nil]); first | done | rfl | (simp only [List.length_drop, List.length_take]; rfl)) ?_; (with_reducible refine (credenzalaw09_awake.calls k  t325 _ ?side1 A3.out).mono ?_); (case side1 => exact hG.below (by repeat (first | (with_reducible first | exact HB.out | apply below_alloc | apply pw_below_drewN | apply below_drew1) | exact HB.out))); rintro e w4 ⟨rfl, hb⟩; refine ⟨_, rfl, ?_⟩; have n0_ := Aside0.mk (below_step (by repeat (first | (with_reducible first | exact HB.out | apply below_alloc | apply pw_below_drewN | apply below_drew1) | exact HB.out)) hb); clear HB; have HB := n0_; clear n0_; (try clear hb); (try clear hb2); (try clear hk); (try clear hi)))
  go_ret
  exact ⟨by first | rfl | (simp [errW_none, errW_some] <;> rfl) | (simp [*, errW_none, errW_some] <;> rfl), by repeat (first | (with_reducible first | exact HB.out | apply below_alloc | apply pw_below_drewN | apply below_drew1) | exact HB.out)⟩
 ·rw [if_neg c2] at H
  have c2b0 : decide (200 < (a0.size : Int)) = false := decide_eq_false c2
  have c2b1 : decide (200 < a0.size) = false := decide_eq_false (by omega)
  clear c2
  replace H := Option.bind_eq_some_iff.mp H
  obtain ⟨⟨t326, t327, t328, t331⟩, A50, H⟩ := H
  replace H : ((credenzaref09_Parse.f k a0).bind fun bt333 => (if t331 = bt333.2.2.2 then ((credenzalaw09_ref.f k t326 t327 t328).bind fun bt340 => ((credenzaref09_Same.f k bt340.1 bt340.2.1 bt340.2.2 bt333.1 bt333.2.1 bt333.2.2.1).bind fun t345 => (credenzalaw09_TierParses.j0 k a0 bt333.2.2.2 (!t345) t326 t327 t328))) else (credenzalaw09_TierParses.j0 k a0 bt333.2.2.2 true t326 t327 t328))) = some r := H
  have A5 := Aside0.mk A50
  clear A50
  replace H := Option.bind_eq_some_iff.mp H
  obtain ⟨⟨t333, t334, t335, t338⟩, A60, H⟩ := H
  replace H : (if t331 = t338 then ((credenzalaw09_ref.f k t326 t327 t328).bind fun bt340 => ((credenzaref09_Same.f k bt340.1 bt340.2.1 bt340.2.2 t333 t334 t335).bind fun t345 => (credenzalaw09_TierParses.j0 k a0 t338 (!t345) t326 t327 t328))) else (credenzalaw09_TierParses.j0 k a0 t338 true t326 t327 t328)) = some r := H
  have A6 := Aside0.mk A60
  clear A60
  have HC7 := Aside0.mk H
  clear H
  go_enter Tryd.func4, Tryd.ntmps4
  go_upto_region 5 with (first | ((with_reducible refine gate_callee (f := 13) rfl ?_); refine goesL_ (some 15) rfl rfl Tryd.func13 (by kernel_rfl) rfl #[.string a0] rfl (by (try simp only [List.map_toArray, List.map_cons, List.map_nil]); first | done | rfl | (simp only [List.length_drop, List.length_take]; rfl)) ?_; (with_reducible refine (tier_Parse.calls k a0 t326 t327 t328 t331 _ ?side1 A5.out).mono ?_); (case side1 => exact hG.below (by repeat (first | (with_reducible first | exact HB.out | apply below_alloc | apply pw_below_drewN | apply below_drew1) | exact HB.out))); rintro e w8 ⟨v329, rfl, ho0, hb⟩; refine ⟨_, rfl, ?_⟩; have n0_ := Aside0.mk (Kd.R_lower ho0 (below_size (by repeat (first | (with_reducible first | exact HB.out | apply below_alloc | apply pw_below_drewN | apply below_drew1) | exact HB.out)))); have n1_ := Aside0.mk (below_step (by repeat (first | (with_reducible first | exact HB.out | apply below_alloc | apply pw_below_drewN | apply below_drew1) | exact HB.out)) hb); clear HB; have HO330 := n0_; have HB := n1_; clear n0_ n1_; (try clear hb); (try clear hb2); (try clear hk); (try clear hi); (try clear ho0)) | ((with_reducible refine gate_dst (N := 3) rfl ?_); refine box_event ?hg (N := 3) ?hd (cs := #[.int .i64 0, .int .i64 0, .slice none 0 0]) (t := 24) ?hr ?_; (case hd => rfl); (case hg => rfl); (case hr => first | (go_simp; done) | (go_simp; rfl)); intro gb332 hg w9 hbox hb; have n0_ := Aside0.mk (Kd.R_below (by (with_reducible repeat (first | apply Kd.R_alloc | apply Kd.R_drewN | apply Kd.R_drew)); exact HO330.out) hb); have n1_ := Aside0.mk (below_step (by repeat (first | (with_reducible first | exact HB.out | apply below_alloc | apply pw_below_drewN | apply below_drew1) | exact HB.out)) hb); have n2_ := Aside0.mk (hbox); have n3_ := Aside0.mk ((by rw [hg]; exact (below_size (by repeat (first | (with_reducible first | exact HB.out | apply below_alloc | apply pw_below_drewN | apply below_drew1) | exact HB.out))) : w.heap.size ≤ gb332)); have n4_ := Aside0.mk ((by rw [hg]; exact (below_size (by repeat (first | (with_reducible first | exact HB.out | apply below_alloc | apply pw_below_drewN | apply below_drew1) | exact HB.out))) : w.heap.size ≤ gb332)); clear HO330; clear HB; have HO330 := n0_; have HB := n1_; have BK332 := n2_; have GW332 := n3_; have GE332 := n4_; clear n0_ n1_ n2_ n3_ n4_; clear hb hbox hg; have hcz10_0 : w9.cell? ⟨gb332, 0, none⟩ = some (.int .i64 0) := (blk_cell BK332.out 0).trans rfl; have hcz10_1 : w9.cell? ⟨gb332, 1, none⟩ = some (.int .i64 0) := (blk_cell BK332.out 1).trans rfl; have hcz10_2 : w9.cell? ⟨gb332, 2, none⟩ = some (.slice none 0 0) := (blk_cell BK332.out 2).trans rfl; have hfz10_0 := blk_frozen BK332.out 0; have hfz10_1 := blk_frozen BK332.out 1; have hfz10_2 := blk_frozen BK332.out 2; obtain ⟨Ao11, co11, eo11⟩ := Kd.R_slice HO330.out; subst eo11) | ((with_reducible refine gate_callee (f := 17) rfl ?_); refine goesL_ (some 20) rfl rfl Tryd.func17 (by kernel_rfl) rfl #[.string a0] rfl (by (try simp only [List.map_toArray, List.map_cons, List.map_nil]); first | done | rfl | (simp only [List.length_drop, List.length_take]; rfl)) ?_; (with_reducible refine (credenzaref09_Parse.calls k a0 t333 t334 t335 t338 _ A6.out).mono ?_); rintro e w12 ⟨v336, rfl, ho0, hb⟩; refine ⟨_, rfl, ?_⟩; have n0_ := Aside0.mk (Kd.R_below (by (with_reducible repeat (first | apply Kd.R_alloc | apply Kd.R_drewN | apply Kd.R_drew)); exact (Kd.R_mono (Kd.R_far (p := ⟨gb332, 2, none⟩) (Kd.R_far (p := ⟨gb332, 1, none⟩) (Kd.R_far (p := ⟨gb332, 0, none⟩) (Kd.R_types HO330.out BK332.out (by decide)) (fun _ hk => hk.2) (.int .i64 t326)) (fun _ hk => hk.2) (.int .i64 t327)) (fun _ hk => hk.2) (.slice Ao11 t328.length co11)) (fun _ h_ => h_.1))) hb); have n1_ := Aside0.mk (Kd.R_lower ho0 (below_size (by repeat (first | (with_reducible first | exact HB.out | apply below_alloc | apply pw_below_drewN | apply below_drew1 | refine below_set ?_ GE332.out) | exact HB.out)))); have n2_ := Aside0.mk (blk_below (g := gb332) (o := .cells #[.int .i64 t326, .int .i64 t327, .slice Ao11 t328.length co11] 24 (0, 0)) (by (with_reducible repeat (first | refine blk_drewN ?_ _ | refine blk_drew ?_ | refine blk_alloc ?_ _)); refine blk_put (cs := #[.int .i64 t326, .int .i64 t327, .slice none 0 0]) ?_ 2 _ rfl; (with_reducible repeat (first | refine blk_drewN ?_ _ | refine blk_drew ?_ | refine blk_alloc ?_ _)); refine blk_put (cs := #[.int .i64 t326, .int .i64 0, .slice none 0 0]) ?_ 1 _ rfl; (with_reducible repeat (first | refine blk_drewN ?_ _ | refine blk_drew ?_ | refine blk_alloc ?_ _)); refine blk_put (cs := #[.int .i64 0, .int .i64 0, .slice none 0 0]) ?_ 0 _ rfl; (with_reducible repeat (first | refine blk_drewN ?_ _ | refine blk_drew ?_ | refine blk_alloc ?_ _)); exact BK332.out) hb); have n3_ := Aside0.mk (below_step (by repeat (first | (with_reducible first | exact HB.out | apply below_alloc | apply pw_below_drewN | apply below_drew1 | refine below_set ?_ GE332.out) | exact HB.out)) hb); clear HO330; clear BK332; clear HB; have HO330 := n0_; have HO337 := n1_; have BK332 := n2_; have HB := n3_; clear n0_ n1_ n2_ n3_; (try clear hb); (try clear hb2); (try clear hk); (try clear hi); (try clear ho0)) | ((with_reducible refine gate_dst (N := 5) rfl ?_); refine box_event ?hg (N := 5) ?hd (cs := #[.int .i64 0, .int .i64 0, .slice none 0 0]) (t := 32) ?hr ?_; (case hd => rfl); (case hg => rfl); (case hr => first | (go_simp; done) | (go_simp; rfl)); intro gb339 hg w13 hbox hb; have n0_ := Aside0.mk (Kd.R_below (by (with_reducible repeat (first | apply Kd.R_alloc | apply Kd.R_drewN | apply Kd.R_drew)); exact HO330.out) hb); have n1_ := Aside0.mk (Kd.R_below (by (with_reducible repeat (first | apply Kd.R_alloc | apply Kd.R_drewN | apply Kd.R_drew)); exact HO337.out) hb); have n2_ := Aside0.mk (blk_below (g := gb332) (o := .cells #[.int .i64 t326, .int .i64 t327, .slice Ao11 t328.length co11] 24 (0, 0)) (by (with_reducible repeat (first | refine blk_drewN ?_ _ | refine blk_drew ?_ | refine blk_alloc ?_ _)); exact BK332.out) hb); have n3_ := Aside0.mk (below_step (by repeat (first | (with_reducible first | exact HB.out | apply below_alloc | apply pw_below_drewN | apply below_drew1 | refine below_set ?_ GE332.out) | exact HB.out)) hb); have n4_ := Aside0.mk (hbox); have n5_ := Aside0.mk ((by rw [hg]; exact (below_size (by repeat (first | (with_reducible first | exact HB.out | apply below_alloc | apply pw_below_drewN | apply below_drew1 | refine below_set ?_ GE332.out) | exact HB.out))) : w.heap.size ≤ gb339)); have n6_ := Aside0.mk ((by rw [hg]; exact (below_size (by repeat (first | (with_reducible first | exact HB.out | apply below_alloc | apply pw_below_drewN | apply below_drew1 | refine below_set ?_ GE332.out) | exact HB.out))) : w.heap.size ≤ gb339)); have n7_ := Aside0.mk ((by rw [hg]; exact Nat.ne_of_lt (blk_lt (g := gb332) (o := .cells #[.int .i64 t326, .int .i64 t327, .slice Ao11 t328.length co11] 24 (0, 0)) (by (with_reducible repeat (first | refine blk_drewN ?_ _ | refine blk_drew ?_ | refine blk_alloc ?_ _)); exact BK332.out)) : gb332 ≠ gb339)); have n8_ := Aside0.mk ((by rw [hg]; exact Nat.ne_of_gt (blk_lt (g := gb332) (o := .cells #[.int .i64 t326, .int .i64 t327, .slice Ao11 t328.length co11] 24 (0, 0)) (by (with_reducible repeat (first | refine blk_drewN ?_ _ | refine blk_drew ?_ | refine blk_alloc ?_ _)); exact BK332.out)) : gb339 ≠ gb332)); clear HO330; clear HO337; clear BK332; clear HB; have HO330 := n0_; have HO337 := n1_; have BK332 := n2_; have HB := n3_; have BK339 := n4_; have GW339 := n5_; have GE339 := n6_; have NB332_339 := n7_; have NB339_332 := n8_; clear n0_ n1_ n2_ n3_ n4_ n5_ n6_ n7_ n8_; clear hb hbox hg; have hnb14 := NB339_332.out; have hnc14 := NB332_339.out; have hcz15_0 : w13.cell? ⟨gb339, 0, none⟩ = some (.int .i64 0) := (blk_cell BK339.out 0).trans rfl; have hcz15_1 : w13.cell? ⟨gb339, 1, none⟩ = some (.int .i64 0) := (blk_cell BK339.out 1).trans rfl; have hcz15_2 : w13.cell? ⟨gb339, 2, none⟩ = some (.slice none 0 0) := (blk_cell BK339.out 2).trans rfl; have hfz15_0 := blk_frozen BK339.out 0; have hfz15_1 := blk_frozen BK339.out 1; have hfz15_2 := blk_frozen BK339.out 2; obtain ⟨Ao16, co16, eo16⟩ := Kd.R_slice HO337.out; subst eo16))
  (try simp only [Act.put, List.setIfInBounds_toArray, List.set_cons_zero, List.set_cons_succ])
  go_cut [32] (fun v32 wc => ∃ (kq : Nat) (x32_6 : Bool), v32 = .bool x32_6 ∧ Aside0 (credenzalaw09_TierParses.j0 kq a0 t338 x32_6 t326 t327 t328 = some r) ∧ Aside0 (kq ≤ k) ∧ Aside0 (Kd.R k49 49 wc w.heap.size (fun _ => True) (.slice Ao11 t328.length co11) t328) ∧ Aside0 (Kd.R k51 51 wc w.heap.size (fun _ => True) (.slice Ao16 t335.length co16) t335) ∧ Aside0 (wc.heap[gb332]? = some (.cells #[.int .i64 t326, .int .i64 t327, (.slice Ao11 t328.length co11)] 24 (0, 0))) ∧ Aside0 (wc.heap[gb339]? = some (.cells #[.int .i64 t333, .int .i64 t334, (.slice Ao16 t335.length co16)] 32 (0, 0))) ∧ Aside0 (Below w.heap.size w wc))
  case first =>
   have H := HC7.out
   clear HC7
   by_cases c17 : t331 = t338
   ·rw [if_pos c17] at H
    have c17b0 : (t331 == t338) = true := beq_iff_eq.mpr c17
    have c17b1 : (t331 != t338) = false := bne_eq_false_iff_eq.mpr c17
    clear c17
    (first | rw [c17b0] | (simp only [i64_w, i32_w]; rw [c17b0]) | skip)
    replace H := Option.bind_eq_some_iff.mp H
    obtain ⟨⟨t340, t341, t342⟩, A180, H⟩ := H
    replace H : ((credenzaref09_Same.f k t340 t341 t342 t333 t334 t335).bind fun t345 => (credenzalaw09_TierParses.j0 k a0 t338 (!t345) t326 t327 t328)) = some r := H
    have A18 := Aside0.mk A180
    clear A180
    replace H := Option.bind_eq_some_iff.mp H
    obtain ⟨t345, A190, H⟩ := H
    replace H : (credenzalaw09_TierParses.j0 k a0 t338 (!t345) t326 t327 t328) = some r := H
    have A19 := Aside0.mk A190
    clear A190
    have H' := Aside0.mk H
    clear H
    try go_wp2
    have n0_ : Aside0 (Kd.R k49 49 (((w13.setCell ⟨gb339, 0, none⟩ (.int .i64 t333)).setCell ⟨gb339, 1, none⟩ (.int .i64 t334)).setCell ⟨gb339, 2, none⟩ (.slice Ao16 t335.length co16)) w.heap.size (fun _ => True) (.slice Ao11 t328.length co11) t328) := ⟨by (with_reducible repeat (first | apply Kd.R_alloc | apply Kd.R_drewN | apply Kd.R_drew)); exact Kd.R_mono (Kd.R_far (p := ⟨gb339, 2, none⟩) (Kd.R_far (p := ⟨gb339, 1, none⟩) (Kd.R_far (p := ⟨gb339, 0, none⟩) (Kd.R_types HO330.out BK339.out (by decide)) (fun _ hk => hk.2) (.int .i64 t333)) (fun _ hk => hk.2) (.int .i64 t334)) (fun _ hk => hk.2) (.slice Ao16 t335.length co16)) (fun _ hk => trivial)⟩
    have n1_ : Aside0 (Kd.R k51 51 (((w13.setCell ⟨gb339, 0, none⟩ (.int .i64 t333)).setCell ⟨gb339, 1, none⟩ (.int .i64 t334)).setCell ⟨gb339, 2, none⟩ (.slice Ao16 t335.length co16)) w.heap.size (fun _ => True) (.slice Ao16 t335.length co16) t335) := ⟨by (with_reducible repeat (first | apply Kd.R_alloc | apply Kd.R_drewN | apply Kd.R_drew)); exact Kd.R_mono (Kd.R_far (p := ⟨gb339, 2, none⟩) (Kd.R_far (p := ⟨gb339, 1, none⟩) (Kd.R_far (p := ⟨gb339, 0, none⟩) (Kd.R_types HO337.out BK339.out (by decide)) (fun _ hk => hk.2) (.int .i64 t333)) (fun _ hk => hk.2) (.int .i64 t334)) (fun _ hk => hk.2) (.slice Ao16 t335.length co16)) (fun _ hk => trivial)⟩
    have n2_ : Aside0 ((((w13.setCell ⟨gb339, 0, none⟩ (.int .i64 t333)).setCell ⟨gb339, 1, none⟩ (.int .i64 t334)).setCell ⟨gb339, 2, none⟩ (.slice Ao16 t335.length co16)).heap[gb332]? = some (.cells #[.int .i64 t326, .int .i64 t327, .slice Ao11 t328.length co11] 24 (0, 0))) := ⟨by (with_reducible repeat (first | refine blk_drewN ?_ _ | refine blk_drew ?_ | refine blk_alloc ?_ _)); refine blk_far ?_ NB332_339.out _; (with_reducible repeat (first | refine blk_drewN ?_ _ | refine blk_drew ?_ | refine blk_alloc ?_ _)); refine blk_far ?_ NB332_339.out _; (with_reducible repeat (first | refine blk_drewN ?_ _ | refine blk_drew ?_ | refine blk_alloc ?_ _)); refine blk_far ?_ NB332_339.out _; (with_reducible repeat (first | refine blk_drewN ?_ _ | refine blk_drew ?_ | refine blk_alloc ?_ _)); exact BK332.out⟩
    have n3_ : Aside0 ((((w13.setCell ⟨gb339, 0, none⟩ (.int .i64 t333)).setCell ⟨gb339, 1, none⟩ (.int .i64 t334)).setCell ⟨gb339, 2, none⟩ (.slice Ao16 t335.length co16)).heap[gb339]? = some (.cells #[.int .i64 t333, .int .i64 t334, .slice Ao16 t335.length co16] 32 (0, 0))) := ⟨by (with_reducible repeat (first | refine blk_drewN ?_ _ | refine blk_drew ?_ | refine blk_alloc ?_ _)); refine blk_put (cs := #[.int .i64 t333, .int .i64 t334, .slice none 0 0]) ?_ 2 _ rfl; (with_reducible repeat (first | refine blk_drewN ?_ _ | refine blk_drew ?_ | refine blk_alloc ?_ _)); refine blk_put (cs := #[.int .i64 t333, .int .i64 0, .slice none 0 0]) ?_ 1 _ rfl; (with_reducible repeat (first | refine blk_drewN ?_ _ | refine blk_drew ?_ | refine blk_alloc ?_ _)); refine blk_put (cs := #[.int .i64 0, .int .i64 0, .slice none 0 0]) ?_ 0 _ rfl; (with_reducible repeat (first | refine blk_drewN ?_ _ | refine blk_drew ?_ | refine blk_alloc ?_ _)); exact BK339.out⟩
    have n4_ : Aside0 (Below w.heap.size w (((w13.setCell ⟨gb339, 0, none⟩ (.int .i64 t333)).setCell ⟨gb339, 1, none⟩ (.int .i64 t334)).setCell ⟨gb339, 2, none⟩ (.slice Ao16 t335.length co16))) := ⟨by repeat (first | (with_reducible first | exact HB.out | apply below_alloc | apply pw_below_drewN | apply below_drew1 | refine below_set ?_ GE332.out | refine below_set ?_ GE339.out) | exact HB.out)⟩
    (try clear HO330)
    (try clear HO337)
    (try clear BK332)
    (try clear BK339)
    (try clear HB)
    generalize (((w13.setCell ⟨gb339, 0, none⟩ (.int .i64 t333)).setCell ⟨gb339, 1, none⟩ (.int .i64 t334)).setCell ⟨gb339, 2, none⟩ (.slice Ao16 t335.length co16)) = w20 at n0_ n1_ n2_ n3_ n4_ ⊢
    have HO330 := n0_
    have HO337 := n1_
    have BK332 := n2_
    have BK339 := n3_
    have HB := n4_
    clear n0_ n1_ n2_ n3_ n4_
    have n0_ := Aside0.mk (Kd.R_drew HO330.out)
    have n1_ := Aside0.mk (Kd.R_drew HO337.out)
    have n2_ := Aside0.mk (blk_drew BK332.out)
    have n3_ := Aside0.mk (blk_drew BK339.out)
    have n4_ := Aside0.mk (below_drew1 HB.out)
    clear HO330
    clear HO337
    clear BK332
    clear BK339
    clear HB
    have HO330 := n0_
    have HO337 := n1_
    have BK332 := n2_
    have BK339 := n3_
    have HB := n4_
    clear n0_ n1_ n2_ n3_ n4_
    refine start_ (n := 10) (S := fun w' => w'.cell? ⟨gb332, 0, none⟩ = some (.int .i64 t326) ∧ w'.cell? ⟨gb332, 1, none⟩ = some (.int .i64 t327) ∧ w'.cell? ⟨gb332, 2, none⟩ = some (.slice Ao11 t328.length co11) ∧ w'.cell? ⟨gb339, 0, none⟩ = some (.int .i64 t333) ∧ w'.cell? ⟨gb339, 1, none⟩ = some (.int .i64 t334) ∧ w'.cell? ⟨gb339, 2, none⟩ = some (.slice Ao16 t335.length co16)) (ds := []) #[false, false, false, false, false, false, false, false, false, false] (by kernel_rfl) rfl rfl ⟨(blk_cell BK332.out 0).trans rfl, (blk_cell BK332.out 1).trans rfl, (blk_cell BK332.out 2).trans rfl, (blk_cell BK339.out 0).trans rfl, (blk_cell BK339.out 1).trans rfl, (blk_cell BK339.out 2).trans rfl⟩ (fun hHeld => ?_); refine with_tabW credenzalaw09_TierParses.tab5 credenzalaw09_TierParses.bits5 (fun HT_ HW_ => ?_)
    generalize w20.drew = w21 at HO330 HO337 BK332 BK339 HB hHeld ⊢
    refine pure_ (i := 0) (N := some 23) (v := ?_) (a' := ?_) #[true, false, false, false, false, false, false, false, false, false] rfl rfl (any_of HT_.out (by kernel_rfl)) (fun _ _ _ h => h) (Or.inl ⟨by rfl, ?_⟩) ?_ ?_
    rotate_left
    ·intro w'
     go_simp
     with_reducible rfl
    rotate_left
    ·simp only [Act.put, List.setIfInBounds_toArray, List.set_cons_zero, List.set_cons_succ, i64_w, i32_w]
     rfl
    refine pure_ (i := 1) (N := some 24) (v := ?_) (a' := ?_) #[true, true, false, false, false, false, false, false, false, false] rfl rfl (any_of HT_.out (by kernel_rfl)) (fun _ _ _ h => h) (Or.inl ⟨by rfl, ?_⟩) ?_ ?_
    rotate_left
    ·intro w'
     go_simp
     with_reducible rfl
    rotate_left
    ·simp only [Act.put, List.setIfInBounds_toArray, List.set_cons_zero, List.set_cons_succ, i64_w, i32_w]
     rfl
    refine pure_ (i := 2) (N := some 25) (v := ?_) (a' := ?_) #[true, true, true, false, false, false, false, false, false, false] rfl rfl (any_of HT_.out (by kernel_rfl)) (fun _ _ _ h => h) (Or.inl ⟨by rfl, ?_⟩) ?_ ?_
    rotate_left
    ·intro w'
     go_simp
     with_reducible rfl
    rotate_left
    ·simp only [Act.put, List.setIfInBounds_toArray, List.set_cons_zero, List.set_cons_succ, i64_w, i32_w]
     rfl
    refine pure_ (i := 3) (N := some 26) (v := ?_) (a' := ?_) #[true, true, true, true, false, false, false, false, false, false] rfl rfl (any_of HT_.out (by kernel_rfl)) (fun _ _ _ h => h) (Or.inl ⟨by rfl, ?_⟩) ?_ ?_
    rotate_left
    ·intro w'
     go_simp
     with_reducible rfl
    rotate_left
    ·simp only [Act.put, List.setIfInBounds_toArray, List.set_cons_zero, List.set_cons_succ, i64_w, i32_w]
     rfl
    refine take_ (i := 4) (N := some 27) (v := ?_) (a' := ?_) #[true, true, true, true, true, false, false, false, false, false] rfl rfl (take_ofW HT_.out HW_.out (by kernel_rfl)) (fun _ _ _ h => h) (Or.inl ⟨by rfl, ?_⟩) hHeld ?_ ?_
    rotate_left
    ·rintro w' ⟨s0, s1, s2, s3, s4, s5⟩
     go_simp
     with_reducible rfl
    rotate_left
    ·simp only [Act.put, List.setIfInBounds_toArray, List.set_cons_zero, List.set_cons_succ, i64_w, i32_w]
     rfl
    refine take_ (i := 6) (N := some 29) (v := ?_) (a' := ?_) #[true, true, true, true, true, false, true, false, false, false] rfl rfl (take_ofW HT_.out HW_.out (by kernel_rfl)) (fun _ _ _ h => h) (Or.inl ⟨by rfl, ?_⟩) hHeld ?_ ?_
    rotate_left
    ·rintro w' ⟨s0, s1, s2, s3, s4, s5⟩
     go_simp
     with_reducible rfl
    rotate_left
    ·simp only [Act.put, List.setIfInBounds_toArray, List.set_cons_zero, List.set_cons_succ, i64_w, i32_w]
     rfl
    refine one_ (i := 5) (N := some 28) #[true, true, true, true, true, true, true, false, false, false] rfl rfl (one_of HT_.out (by kernel_rfl)) (by decide) (fun K hK => ?_)
    refine goes_ Tryd.func11 (by kernel_rfl) rfl #[.agg #[.int .i64 t326, .int .i64 t327, .slice Ao11 t328.length co11]] (by rfl) rfl rfl (by (try simp only [List.map_toArray, List.map_cons, List.map_nil]); first | done | rfl | (simp only [List.length_drop, List.length_take]; rfl)) ?_
    with_reducible refine (credenzalaw09_ref.calls k t326 t327 _ _ t328 t340 t341 t342 _ ?side1 ?side2 A18.out).mono ?_
    (case side1 => repeat (first | exact (Kd.R_reads' HO330.out).2.2 | (with_reducible refine Kd.C_alloc ?_ _) | (with_reducible refine Kd.C_drewN ?_ _) | (with_reducible refine Kd.C_drew ?_)))
    (case side2 => exact (Kd.R_reads' HO330.out).2.1)
    rintro e w22 ⟨v343, rfl, ho0, hb⟩
    refine ⟨_, rfl, ?_⟩
    have n0_ := Aside0.mk (Kd.R_below (by (with_reducible repeat (first | apply Kd.R_alloc | apply Kd.R_drewN | apply Kd.R_drew)); exact HO330.out) hb)
    have n1_ := Aside0.mk (Kd.R_elder' (by (with_reducible repeat (first | apply Kd.R_alloc | apply Kd.R_drewN | apply Kd.R_drew)); exact HO337.out) (Kd.R_base ho0) hb)
    have n2_ := Aside0.mk (Kd.R_lower (Kd.R_new' ho0 (Kd.R_lt (by (with_reducible repeat (first | apply Kd.R_alloc | apply Kd.R_drewN | apply Kd.R_drew)); exact HO337.out))) (below_size (by repeat (first | (with_reducible first | exact HB.out | apply below_alloc | apply pw_below_drewN | apply below_drew1 | refine below_set ?_ GE332.out | refine below_set ?_ GE339.out) | exact HB.out))))
    have n3_ := Aside0.mk (blk_below (g := gb332) (o := .cells #[.int .i64 t326, .int .i64 t327, .slice Ao11 t328.length co11] 24 (0, 0)) (by (with_reducible repeat (first | refine blk_drewN ?_ _ | refine blk_drew ?_ | refine blk_alloc ?_ _)); exact BK332.out) hb)
    have n4_ := Aside0.mk (blk_below (g := gb339) (o := .cells #[.int .i64 t333, .int .i64 t334, .slice Ao16 t335.length co16] 32 (0, 0)) (by (with_reducible repeat (first | refine blk_drewN ?_ _ | refine blk_drew ?_ | refine blk_alloc ?_ _)); exact BK339.out) hb)
    have n5_ := Aside0.mk (below_step (by repeat (first | (with_reducible first | exact HB.out | apply below_alloc | apply pw_below_drewN | apply below_drew1 | refine below_set ?_ GE332.out | refine below_set ?_ GE339.out) | exact HB.out)) hb)
    clear HO330
    clear HO337
    clear BK332
    clear BK339
    clear HB
    have HO330 := n0_
    have HO337 := n1_
    have HO344 := n2_
    have BK332 := n3_
    have BK339 := n4_
    have HB := n5_
    clear n0_ n1_ n2_ n3_ n4_ n5_
    (try clear hb)
    (try clear hb2)
    (try clear hk)
    (try clear hi)
    (try clear ho0)
    obtain ⟨Ao23, co23, eo23⟩ := Kd.R_slice HO344.out
    (first | subst eo23 | (injection eo23 with f1_ f2_ f3_; have f4_ := f1_.symm; have f5_ := f3_.symm; clear f1_ f2_ f3_; subst f4_; subst f5_))
    refine hK.out _ _ ⟨(blk_cell BK332.out 0).trans rfl, (blk_cell BK332.out 1).trans rfl, (blk_cell BK332.out 2).trans rfl, (blk_cell BK339.out 0).trans rfl, (blk_cell BK339.out 1).trans rfl, (blk_cell BK339.out 2).trans rfl⟩ (fun hHeld => ?_)
    clear hK K
    refine norm_ (a' := ?_) ?_ ?_
    rotate_left
    ·show Act.put _ (some 28) _ = _
     simp only [Act.put, List.setIfInBounds_toArray, List.set_cons_zero, List.set_cons_succ, i64_w, i32_w]
     rfl
    refine one_ (i := 7) (N := some 30) #[true, true, true, true, true, true, true, true, false, false] rfl rfl (one_of HT_.out (by kernel_rfl)) (by decide) (fun K hK => ?_)
    refine goes_ Tryd.func16 (by kernel_rfl) rfl #[.agg #[.int .i64 t340, .int .i64 t341, .slice Ao23 t342.length co23], .agg #[.int .i64 t333, .int .i64 t334, .slice Ao16 t335.length co16]] (by rfl) rfl rfl (by (try simp only [List.map_toArray, List.map_cons, List.map_nil]); first | done | rfl | (simp only [List.length_drop, List.length_take]; rfl)) ?_
    with_reducible refine (credenzaref09_Same.calls k t340 t341 _ _ t342 t333 t334 _ _ t335 t345 _ ?side1 ?side2 ?side3 ?side4 A19.out).mono ?_
    (case side1 => repeat (first | exact (Kd.R_reads' HO344.out).2.2 | (with_reducible refine Kd.C_alloc ?_ _) | (with_reducible refine Kd.C_drewN ?_ _) | (with_reducible refine Kd.C_drew ?_)))
    (case side2 => exact (Kd.R_reads' HO344.out).2.1)
    (case side3 => repeat (first | exact (Kd.R_reads' HO337.out).2.2 | (with_reducible refine Kd.C_alloc ?_ _) | (with_reducible refine Kd.C_drewN ?_ _) | (with_reducible refine Kd.C_drew ?_)))
    (case side4 => exact (Kd.R_reads' HO337.out).2.1)
    rintro e w24 ⟨rfl, hb⟩
    refine ⟨_, rfl, ?_⟩
    have n0_ := Aside0.mk (Kd.R_below (by (with_reducible repeat (first | apply Kd.R_alloc | apply Kd.R_drewN | apply Kd.R_drew)); exact HO330.out) hb)
    have n1_ := Aside0.mk (Kd.R_below (by (with_reducible repeat (first | apply Kd.R_alloc | apply Kd.R_drewN | apply Kd.R_drew)); exact HO337.out) hb)
    have n2_ := Aside0.mk (Kd.R_below (by (with_reducible repeat (first | apply Kd.R_alloc | apply Kd.R_drewN | apply Kd.R_drew)); exact HO344.out) hb)
    have n3_ := Aside0.mk (blk_below (g := gb332) (o := .cells #[.int .i64 t326, .int .i64 t327, .slice Ao11 t328.length co11] 24 (0, 0)) (by (with_reducible repeat (first | refine blk_drewN ?_ _ | refine blk_drew ?_ | refine blk_alloc ?_ _)); exact BK332.out) hb)
    have n4_ := Aside0.mk (blk_below (g := gb339) (o := .cells #[.int .i64 t333, .int .i64 t334, .slice Ao16 t335.length co16] 32 (0, 0)) (by (with_reducible repeat (first | refine blk_drewN ?_ _ | refine blk_drew ?_ | refine blk_alloc ?_ _)); exact BK339.out) hb)
    have n5_ := Aside0.mk (below_step (by repeat (first | (with_reducible first | exact HB.out | apply below_alloc | apply pw_below_drewN | apply below_drew1 | refine below_set ?_ GE332.out | refine below_set ?_ GE339.out) | exact HB.out)) hb)
    clear HO330
    clear HO337
    clear HO344
    clear BK332
    clear BK339
    clear HB
    have HO330 := n0_
    have HO337 := n1_
    have HO344 := n2_
    have BK332 := n3_
    have BK339 := n4_
    have HB := n5_
    clear n0_ n1_ n2_ n3_ n4_ n5_
    (try clear hb)
    (try clear hb2)
    (try clear hk)
    (try clear hi)
    refine hK.out _ _ ⟨(blk_cell BK332.out 0).trans rfl, (blk_cell BK332.out 1).trans rfl, (blk_cell BK332.out 2).trans rfl, (blk_cell BK339.out 0).trans rfl, (blk_cell BK339.out 1).trans rfl, (blk_cell BK339.out 2).trans rfl⟩ (fun hHeld => ?_)
    clear hK K
    refine norm_ (a' := ?_) ?_ ?_
    rotate_left
    ·show Act.put _ (some 30) _ = _
     simp only [Act.put, List.setIfInBounds_toArray, List.set_cons_zero, List.set_cons_succ, i64_w, i32_w]
     rfl
    refine pure_ (i := 8) (N := some 31) (v := ?_) (a' := ?_) #[true, true, true, true, true, true, true, true, true, false] rfl rfl (any_of HT_.out (by kernel_rfl)) (fun _ _ _ h => h) (Or.inl ⟨by rfl, ?_⟩) ?_ ?_
    rotate_left
    ·intro w'
     go_simp
     with_reducible rfl
    rotate_left
    ·simp only [Act.put, List.setIfInBounds_toArray, List.set_cons_zero, List.set_cons_succ, i64_w, i32_w]
     rfl
    refine pure_ (i := 9) (N := some 32) (v := ?_) (a' := ?_) #[true, true, true, true, true, true, true, true, true, true] rfl rfl (any_of HT_.out (by kernel_rfl)) (fun _ _ _ h => h) (Or.inl ⟨by rfl, ?_⟩) ?_ ?_
    rotate_left
    ·intro w'
     go_simp
     with_reducible rfl
    rotate_left
    ·simp only [Act.put, List.setIfInBounds_toArray, List.set_cons_zero, List.set_cons_succ, i64_w, i32_w]
     rfl
    refine done_ (done_of HT_.out (by kernel_rfl)) ?_
    try go_wp2
    go_meet
    case rel => exact ⟨_, (!t345), (by first | rfl | (simp; done) | (simp [*]; done)), H', ⟨by first | omega | exact Nat.le_refl _⟩, ⟨by (with_reducible repeat (first | apply Kd.R_alloc | apply Kd.R_drewN | apply Kd.R_drew)); exact HO330.out⟩, ⟨by (with_reducible repeat (first | apply Kd.R_alloc | apply Kd.R_drewN | apply Kd.R_drew)); exact Kd.R_mono HO337.out (fun _ hk => trivial)⟩, ⟨by (with_reducible repeat (first | refine blk_drewN ?_ _ | refine blk_drew ?_ | refine blk_alloc ?_ _)); exact BK332.out⟩, ⟨by (with_reducible repeat (first | refine blk_drewN ?_ _ | refine blk_drew ?_ | refine blk_alloc ?_ _)); exact BK339.out⟩, ⟨by repeat (first | (with_reducible first | exact HB.out | apply below_alloc | apply pw_below_drewN | apply below_drew1 | refine below_set ?_ GE332.out | refine below_set ?_ GE339.out) | exact HB.out)⟩⟩
   ·rw [if_neg c17] at H
    have c17b0 : (t331 == t338) = false := beq_eq_false_iff_ne.mpr c17
    have c17b1 : (t331 != t338) = true := bne_iff_ne.mpr c17
    (first | rw [c17b0] | (simp only [i64_w, i32_w]; rw [c17b0]) | skip)
    have H' := Aside0.mk H
    clear H
    try go_wp2
    have n0_ : Aside0 (Kd.R k49 49 (((w13.setCell ⟨gb339, 0, none⟩ (.int .i64 t333)).setCell ⟨gb339, 1, none⟩ (.int .i64 t334)).setCell ⟨gb339, 2, none⟩ (.slice Ao16 t335.length co16)) w.heap.size (fun _ => True) (.slice Ao11 t328.length co11) t328) := ⟨by (with_reducible repeat (first | apply Kd.R_alloc | apply Kd.R_drewN | apply Kd.R_drew)); exact Kd.R_mono (Kd.R_far (p := ⟨gb339, 2, none⟩) (Kd.R_far (p := ⟨gb339, 1, none⟩) (Kd.R_far (p := ⟨gb339, 0, none⟩) (Kd.R_types HO330.out BK339.out (by decide)) (fun _ hk => hk.2) (.int .i64 t333)) (fun _ hk => hk.2) (.int .i64 t334)) (fun _ hk => hk.2) (.slice Ao16 t335.length co16)) (fun _ hk => trivial)⟩
    have n1_ : Aside0 (Kd.R k51 51 (((w13.setCell ⟨gb339, 0, none⟩ (.int .i64 t333)).setCell ⟨gb339, 1, none⟩ (.int .i64 t334)).setCell ⟨gb339, 2, none⟩ (.slice Ao16 t335.length co16)) w.heap.size (fun _ => True) (.slice Ao16 t335.length co16) t335) := ⟨by (with_reducible repeat (first | apply Kd.R_alloc | apply Kd.R_drewN | apply Kd.R_drew)); exact Kd.R_mono (Kd.R_far (p := ⟨gb339, 2, none⟩) (Kd.R_far (p := ⟨gb339, 1, none⟩) (Kd.R_far (p := ⟨gb339, 0, none⟩) (Kd.R_types HO337.out BK339.out (by decide)) (fun _ hk => hk.2) (.int .i64 t333)) (fun _ hk => hk.2) (.int .i64 t334)) (fun _ hk => hk.2) (.slice Ao16 t335.length co16)) (fun _ hk => trivial)⟩
    have n2_ : Aside0 ((((w13.setCell ⟨gb339, 0, none⟩ (.int .i64 t333)).setCell ⟨gb339, 1, none⟩ (.int .i64 t334)).setCell ⟨gb339, 2, none⟩ (.slice Ao16 t335.length co16)).heap[gb332]? = some (.cells #[.int .i64 t326, .int .i64 t327, .slice Ao11 t328.length co11] 24 (0, 0))) := ⟨by (with_reducible repeat (first | refine blk_drewN ?_ _ | refine blk_drew ?_ | refine blk_alloc ?_ _)); refine blk_far ?_ NB332_339.out _; (with_reducible repeat (first | refine blk_drewN ?_ _ | refine blk_drew ?_ | refine blk_alloc ?_ _)); refine blk_far ?_ NB332_339.out _; (with_reducible repeat (first | refine blk_drewN ?_ _ | refine blk_drew ?_ | refine blk_alloc ?_ _)); refine blk_far ?_ NB332_339.out _; (with_reducible repeat (first | refine blk_drewN ?_ _ | refine blk_drew ?_ | refine blk_alloc ?_ _)); exact BK332.out⟩
    have n3_ : Aside0 ((((w13.setCell ⟨gb339, 0, none⟩ (.int .i64 t333)).setCell ⟨gb339, 1, none⟩ (.int .i64 t334)).setCell ⟨gb339, 2, none⟩ (.slice Ao16 t335.length co16)).heap[gb339]? = some (.cells #[.int .i64 t333, .int .i64 t334, .slice Ao16 t335.length co16] 32 (0, 0))) := ⟨by (with_reducible repeat (first | refine blk_drewN ?_ _ | refine blk_drew ?_ | refine blk_alloc ?_ _)); refine blk_put (cs := #[.int .i64 t333, .int .i64 t334, .slice none 0 0]) ?_ 2 _ rfl; (with_reducible repeat (first | refine blk_drewN ?_ _ | refine blk_drew ?_ | refine blk_alloc ?_ _)); refine blk_put (cs := #[.int .i64 t333, .int .i64 0, .slice none 0 0]) ?_ 1 _ rfl; (with_reducible repeat (first | refine blk_drewN ?_ _ | refine blk_drew ?_ | refine blk_alloc ?_ _)); refine blk_put (cs := #[.int .i64 0, .int .i64 0, .slice none 0 0]) ?_ 0 _ rfl; (with_reducible repeat (first | refine blk_drewN ?_ _ | refine blk_drew ?_ | refine blk_alloc ?_ _)); exact BK339.out⟩
    have n4_ : Aside0 (Below w.heap.size w (((w13.setCell ⟨gb339, 0, none⟩ (.int .i64 t333)).setCell ⟨gb339, 1, none⟩ (.int .i64 t334)).setCell ⟨gb339, 2, none⟩ (.slice Ao16 t335.length co16))) := ⟨by repeat (first | (with_reducible first | exact HB.out | apply below_alloc | apply pw_below_drewN | apply below_drew1 | refine below_set ?_ GE332.out | refine below_set ?_ GE339.out) | exact HB.out)⟩
    (try clear HO330)
    (try clear HO337)
    (try clear BK332)
    (try clear BK339)
    (try clear HB)
    generalize (((w13.setCell ⟨gb339, 0, none⟩ (.int .i64 t333)).setCell ⟨gb339, 1, none⟩ (.int .i64 t334)).setCell ⟨gb339, 2, none⟩ (.slice Ao16 t335.length co16)) = w25 at n0_ n1_ n2_ n3_ n4_ ⊢
    have HO330 := n0_
    have HO337 := n1_
    have BK332 := n2_
    have BK339 := n3_
    have HB := n4_
    clear n0_ n1_ n2_ n3_ n4_
    have n0_ := Aside0.mk (Kd.R_drew HO330.out)
    have n1_ := Aside0.mk (Kd.R_drew HO337.out)
    have n2_ := Aside0.mk (blk_drew BK332.out)
    have n3_ := Aside0.mk (blk_drew BK339.out)
    have n4_ := Aside0.mk (below_drew1 HB.out)
    clear HO330
    clear HO337
    clear BK332
    clear BK339
    clear HB
    have HO330 := n0_
    have HO337 := n1_
    have BK332 := n2_
    have BK339 := n3_
    have HB := n4_
    clear n0_ n1_ n2_ n3_ n4_
    refine start_ (n := 10) (S := fun w' => True) (ds := []) #[false, false, false, false, false, false, false, false, false, false] (by kernel_rfl) rfl rfl trivial (fun hHeld => ?_); refine with_tabW credenzalaw09_TierParses.tab5 credenzalaw09_TierParses.bits5 (fun HT_ HW_ => ?_)
    generalize w25.drew = w26 at HO330 HO337 BK332 BK339 HB hHeld ⊢
    refine pure_ (i := 0) (N := some 23) (v := ?_) (a' := ?_) #[true, false, false, false, false, false, false, false, false, false] rfl rfl (any_of HT_.out (by kernel_rfl)) (fun _ _ _ h => h) (Or.inl ⟨by rfl, ?_⟩) ?_ ?_
    rotate_left
    ·intro w'
     go_simp
     with_reducible rfl
    rotate_left
    ·simp only [Act.put, List.setIfInBounds_toArray, List.set_cons_zero, List.set_cons_succ, i64_w, i32_w]
     rfl
    refine pure_ (i := 1) (N := some 24) (v := ?_) (a' := ?_) #[true, true, false, false, false, false, false, false, false, false] rfl rfl (any_of HT_.out (by kernel_rfl)) (fun _ _ _ h => h) (Or.inl ⟨by rfl, ?_⟩) ?_ ?_
    rotate_left
    ·intro w'
     go_simp
     with_reducible rfl
    rotate_left
    ·simp only [Act.put, List.setIfInBounds_toArray, List.set_cons_zero, List.set_cons_succ, i64_w, i32_w]
     rfl
    refine pure_ (i := 2) (N := some 25) (v := ?_) (a' := ?_) #[true, true, true, false, false, false, false, false, false, false] rfl rfl (any_of HT_.out (by kernel_rfl)) (fun _ _ _ h => h) (Or.inl ⟨by rfl, ?_⟩) ?_ ?_
    rotate_left
    ·intro w'
     go_simp
     with_reducible rfl
    rotate_left
    ·simp only [Act.put, List.setIfInBounds_toArray, List.set_cons_zero, List.set_cons_succ, i64_w, i32_w]
     rfl
    refine pure_ (i := 3) (N := some 26) (v := ?_) (a' := ?_) #[true, true, true, true, false, false, false, false, false, false] rfl rfl (any_of HT_.out (by kernel_rfl)) (fun _ _ _ h => h) (Or.inl ⟨by rfl, ?_⟩) ?_ ?_
    rotate_left
    ·intro w'
     go_simp
     with_reducible rfl
    rotate_left
    ·simp only [Act.put, List.setIfInBounds_toArray, List.set_cons_zero, List.set_cons_succ, i64_w, i32_w]
     rfl
    refine pure_ (i := 4) (N := some 27) (v := undef) (a' := ?_) #[true, true, true, true, true, false, false, false, false, false] rfl rfl (any_of HT_.out (by kernel_rfl)) (fun _ _ _ h => h) (Or.inr ⟨by rfl, rfl⟩) ?_ ?_
    rotate_left
    ·simp only [Act.put, List.setIfInBounds_toArray, List.set_cons_zero, List.set_cons_succ, i64_w, i32_w]
     rfl
    refine pure_ (i := 5) (N := some 28) (v := undef) (a' := ?_) #[true, true, true, true, true, true, false, false, false, false] rfl rfl (any_of HT_.out (by kernel_rfl)) (fun _ _ _ h => h) (Or.inr ⟨by rfl, rfl⟩) ?_ ?_
    rotate_left
    ·simp only [Act.put, List.setIfInBounds_toArray, List.set_cons_zero, List.set_cons_succ, i64_w, i32_w]
     rfl
    refine pure_ (i := 6) (N := some 29) (v := undef) (a' := ?_) #[true, true, true, true, true, true, true, false, false, false] rfl rfl (any_of HT_.out (by kernel_rfl)) (fun _ _ _ h => h) (Or.inr ⟨by rfl, rfl⟩) ?_ ?_
    rotate_left
    ·simp only [Act.put, List.setIfInBounds_toArray, List.set_cons_zero, List.set_cons_succ, i64_w, i32_w]
     rfl
    refine pure_ (i := 7) (N := some 30) (v := undef) (a' := ?_) #[true, true, true, true, true, true, true, true, false, false] rfl rfl (any_of HT_.out (by kernel_rfl)) (fun _ _ _ h => h) (Or.inr ⟨by rfl, rfl⟩) ?_ ?_
    rotate_left
    ·simp only [Act.put, List.setIfInBounds_toArray, List.set_cons_zero, List.set_cons_succ, i64_w, i32_w]
     rfl
    refine pure_ (i := 8) (N := some 31) (v := undef) (a' := ?_) #[true, true, true, true, true, true, true, true, true, false] rfl rfl (any_of HT_.out (by kernel_rfl)) (fun _ _ _ h => h) (Or.inr ⟨by rfl, rfl⟩) ?_ ?_
    rotate_left
    ·simp only [Act.put, List.setIfInBounds_toArray, List.set_cons_zero, List.set_cons_succ, i64_w, i32_w]
     rfl
    refine pure_ (i := 9) (N := some 32) (v := ?_) (a' := ?_) #[true, true, true, true, true, true, true, true, true, true] rfl rfl (any_of HT_.out (by kernel_rfl)) (fun _ _ _ h => h) (Or.inl ⟨by rfl, ?_⟩) ?_ ?_
    rotate_left
    ·intro w'
     go_simp
     with_reducible rfl
    rotate_left
    ·simp only [Act.put, List.setIfInBounds_toArray, List.set_cons_zero, List.set_cons_succ, i64_w, i32_w]
     rfl
    refine done_ (done_of HT_.out (by kernel_rfl)) ?_
    try go_wp2
    go_meet
    case rel => exact ⟨_, (true), (by first | rfl | (simp; done) | (simp [*]; done)), H', ⟨by first | omega | exact Nat.le_refl _⟩, ⟨by (with_reducible repeat (first | apply Kd.R_alloc | apply Kd.R_drewN | apply Kd.R_drew)); exact HO330.out⟩, ⟨by (with_reducible repeat (first | apply Kd.R_alloc | apply Kd.R_drewN | apply Kd.R_drew)); exact HO337.out⟩, ⟨by (with_reducible repeat (first | refine blk_drewN ?_ _ | refine blk_drew ?_ | refine blk_alloc ?_ _)); exact BK332.out⟩, ⟨by (with_reducible repeat (first | refine blk_drewN ?_ _ | refine blk_drew ?_ | refine blk_alloc ?_ _)); exact BK339.out⟩, ⟨by repeat (first | (with_reducible first | exact HB.out | apply below_alloc | apply pw_below_drewN | apply below_drew1 | refine below_set ?_ GE332.out | refine below_set ?_ GE339.out) | exact HB.out)⟩⟩
  case rest =>
   clear HC7
   try clear c1
   try clear c2
   try clear c2b0
   try clear c2b1
   try clear p2
   try clear c4
   try clear c8
   try clear c11
   try clear c13
   try clear c14
   try clear c16
   try clear c17
   try clear c17b0
   try clear c17b1
   try clear hcz10_0
   try clear hcz10_1
   try clear hcz10_2
   try clear hcz15_0
   try clear hcz15_1
   try clear hcz15_2
   try clear hfz10_0
   try clear hfz10_1
   try clear hfz10_2
   try clear hfz15_0
   try clear hfz15_1
   try clear hfz15_2
   obtain ⟨kq, x32_6, rfl, HA, HJ6, HO_333002, HO_340002, BK332, BK339, HB⟩ := hcut
   cases kq with
   | zero => exact absurd HA.out (by simp [credenzalaw09_TierParses.j0])
   | succ kj6 =>
    have H := HA.out
    clear HA
    simp only [credenzalaw09_TierParses.j0] at H
    by_cases c27 : x32_6 = true
    ·subst c27
     have H1 : (some false) = some r := by rw [if_pos rfl] at H; exact H
     clear H
     have H := H1
     clear H1
     obtain rfl := Option.some.inj H
     go_wp2
     go_ret
     exact ⟨by first | rfl | (simp [errW_none, errW_some] <;> rfl) | (simp [*, errW_none, errW_some] <;> rfl), by repeat (first | (with_reducible first | exact HB.out | apply below_alloc | apply pw_below_drewN | apply below_drew1 | refine below_set ?_ GE332.out | refine below_set ?_ GE339.out) | exact HB.out)⟩
    ·replace c27 := Bool.eq_false_iff.mpr c27
     subst c27
     have H1 : (if t338 = 0 then ((tier_Text.f kj6 t326 t327 t328).bind fun bt346 => (if bt346.2 = 0 then (if bt346.1.toList = a0.toList then ((credenzalaw09_awake.f kj6).bind fun t348 => (some t348)) else (some false)) else (some false))) else ((credenzalaw09_awake.f kj6).bind fun t349 => (some t349))) = some r := by rw [if_neg (show ¬ (false = true) by decide)] at H; exact H
     clear H
     have H := H1
     clear H1
     by_cases c28 : t338 = 0
     ·rw [if_pos c28] at H
      have c28b0 : (t338 == 0) = true := beq_iff_eq.mpr c28
      have c28b1 : (t338 != 0) = false := bne_eq_false_iff_eq.mpr c28
      clear c28
      replace H := Option.bind_eq_some_iff.mp H
      obtain ⟨⟨t346, t347⟩, A290, H⟩ := H
      replace H : (if t347 = 0 then (if t346.toList = a0.toList then ((credenzalaw09_awake.f kj6).bind fun t348 => (some t348)) else (some false)) else (some false)) = some r := H
      have A29 := Aside0.mk A290
      clear A290
      by_cases c30 : t347 = 0
      ·rw [if_pos c30] at H
       have c30b0 : (t347 == 0) = true := beq_iff_eq.mpr c30
       have c30b1 : (t347 != 0) = false := bne_eq_false_iff_eq.mpr c30
       clear c30
       by_cases c31 : t346.toList = a0.toList
       ·rw [if_pos c31] at H
        have c31b0 : (t346.toList == a0.toList) = true := beq_iff_eq.mpr c31
        have c31b1 : (t346.toList != a0.toList) = false := bne_eq_false_iff_eq.mpr c31
        clear c31
        replace H := Option.bind_eq_some_iff.mp H
        obtain ⟨t348, A320, H⟩ := H
        replace H : (some t348) = some r := H
        have A32 := Aside0.mk A320
        clear A320
        obtain rfl := Option.some.inj H
        have hnb33 := NB332_339.out
        have hnc33 := NB339_332.out
        have hcz34_0 : wc.cell? ⟨gb332, 0, none⟩ = some (.int .i64 t326) := (blk_cell BK332.out 0).trans rfl
        have hcz34_1 : wc.cell? ⟨gb332, 1, none⟩ = some (.int .i64 t327) := (blk_cell BK332.out 1).trans rfl
        have hcz34_2 : wc.cell? ⟨gb332, 2, none⟩ = some (.slice Ao11 t328.length co11) := (blk_cell BK332.out 2).trans rfl
        have hfz34_0 := blk_frozen BK332.out 0
        have hfz34_1 := blk_frozen BK332.out 1
        have hfz34_2 := blk_frozen BK332.out 2
        go_wp2_with (first | ((with_reducible refine gate_callee (f := 9) rfl ?_); refine goesL_ (some 38) rfl rfl Tryd.func9 (by kernel_rfl) rfl #[.agg #[.int .i64 t326, .int .i64 t327, .slice Ao11 t328.length co11]] rfl (by (try simp only [List.map_toArray, List.map_cons, List.map_nil]); first | done | rfl | (simp only [List.length_drop, List.length_take]; rfl)) ?_; (with_reducible refine (tier_Text.calls kj6 t326 t327 _ _ t328 t346 t347 _ ?side1 ?side2 ?side3 A29.out).mono ?_); (case side1 => repeat (first | exact (Kd.R_reads' HO_333002.out).2.2 | (with_reducible refine Kd.C_alloc ?_ _) | (with_reducible refine Kd.C_drewN ?_ _) | (with_reducible refine Kd.C_drew ?_))); (case side2 => exact (Kd.R_reads' HO_333002.out).2.1); (case side3 => exact hG.below (by repeat (first | (with_reducible first | exact HB.out | apply below_alloc | apply pw_below_drewN | apply below_drew1 | refine below_set ?_ GE332.out | refine below_set ?_ GE339.out) | exact HB.out))); rintro e w35 ⟨rfl, hb⟩; refine ⟨_, rfl, ?_⟩; have n0_ := Aside0.mk (Kd.R_below (by (with_reducible repeat (first | apply Kd.R_alloc | apply Kd.R_drewN | apply Kd.R_drew)); exact HO_333002.out) hb); have n1_ := Aside0.mk (Kd.R_below (by (with_reducible repeat (first | apply Kd.R_alloc | apply Kd.R_drewN | apply Kd.R_drew)); exact HO_340002.out) hb); have n2_ := Aside0.mk (blk_below (g := gb332) (o := .cells #[.int .i64 t326, .int .i64 t327, .slice Ao11 t328.length co11] 24 (0, 0)) (by (with_reducible repeat (first | refine blk_drewN ?_ _ | refine blk_drew ?_ | refine blk_alloc ?_ _)); exact BK332.out) hb); have n3_ := Aside0.mk (blk_below (g := gb339) (o := .cells #[.int .i64 t333, .int .i64 t334, .slice Ao16 t335.length co16] 32 (0, 0)) (by (with_reducible repeat (first | refine blk_drewN ?_ _ | refine blk_drew ?_ | refine blk_alloc ?_ _)); exact BK339.out) hb); have n4_ := Aside0.mk (below_step (by repeat (first | (with_reducible first | exact HB.out | apply below_alloc | apply pw_below_drewN | apply below_drew1 | refine below_set ?_ GE332.out | refine below_set ?_ GE339.out) | exact HB.out)) hb); clear HO_333002; clear HO_340002; clear BK332; clear BK339; clear HB; have HO_333002 := n0_; have HO_340002 := n1_; have BK332 := n2_; have BK339 := n3_; have HB := n4_; clear n0_ n1_ n2_ n3_ n4_; (try clear hb); (try clear hb2); (try clear hk); (try clear hi)) | (go_at_call 8; (with_reducible refine (credenzalaw09_awake.calls kj6  t348 _ ?side1 A32.out).mono ?_); (case side1 => exact hG.below (by repeat (first | (with_reducible first | exact HB.out | apply below_alloc | apply pw_below_drewN | apply below_drew1 | refine below_set ?_ GE332.out | refine below_set ?_ GE339.out) | exact HB.out))); rintro e w36 ⟨rfl, hb⟩; have n0_ := Aside0.mk (Kd.R_below (by (with_reducible repeat (first | apply Kd.R_alloc | apply Kd.R_drewN | apply Kd.R_drew)); exact HO_333002.out) hb); have n1_ := Aside0.mk (Kd.R_below (by (with_reducible repeat (first | apply Kd.R_alloc | apply Kd.R_drewN | apply Kd.R_drew)); exact HO_340002.out) hb); have n2_ := Aside0.mk (blk_below (g := gb332) (o := .cells #[.int .i64 t326, .int .i64 t327, .slice Ao11 t328.length co11] 24 (0, 0)) (by (with_reducible repeat (first | refine blk_drewN ?_ _ | refine blk_drew ?_ | refine blk_alloc ?_ _)); exact BK332.out) hb); have n3_ := Aside0.mk (blk_below (g := gb339) (o := .cells #[.int .i64 t333, .int .i64 t334, .slice Ao16 t335.length co16] 32 (0, 0)) (by (with_reducible repeat (first | refine blk_drewN ?_ _ | refine blk_drew ?_ | refine blk_alloc ?_ _)); exact BK339.out) hb); have n4_ := Aside0.mk (below_step (by repeat (first | (with_reducible first | exact HB.out | apply below_alloc | apply pw_below_drewN | apply below_drew1 | refine below_set ?_ GE332.out | refine below_set ?_ GE339.out) | exact HB.out)) hb); clear HO_333002; clear HO_340002; clear BK332; clear BK339; clear HB; have HO_333002 := n0_; have HO_340002 := n1_; have BK332 := n2_; have BK339 := n3_; have HB := n4_; clear n0_ n1_ n2_ n3_ n4_; (try clear hb); (try clear hb2); (try clear hk); (try clear hi)))
        go_ret
        exact ⟨by first | rfl | (simp [errW_none, errW_some] <;> rfl) | (simp [*, errW_none, errW_some] <;> rfl), by repeat (first | (with_reducible first | exact HB.out | apply below_alloc | apply pw_below_drewN | apply below_drew1 | refine below_set ?_ GE332.out | refine below_set ?_ GE339.out) | exact HB.out)⟩
       ·rw [if_neg c31] at H
        have c31b0 : (t346.toList == a0.toList) = false := beq_eq_false_iff_ne.mpr c31
        have c31b1 : (t346.toList != a0.toList) = true := bne_iff_ne.mpr c31
        obtain rfl := Option.some.inj H
        have hnb37 := NB332_339.out
        have hnc37 := NB339_332.out
        have hcz38_0 : wc.cell? ⟨gb332, 0, none⟩ = some (.int .i64 t326) := (blk_cell BK332.out 0).trans rfl
        have hcz38_1 : wc.cell? ⟨gb332, 1, none⟩ = some (.int .i64 t327) := (blk_cell BK332.out 1).trans rfl
        have hcz38_2 : wc.cell? ⟨gb332, 2, none⟩ = some (.slice Ao11 t328.length co11) := (blk_cell BK332.out 2).trans rfl
        have hfz38_0 := blk_frozen BK332.out 0
        have hfz38_1 := blk_frozen BK332.out 1
        have hfz38_2 := blk_frozen BK332.out 2
        go_wp2_with (first | ((with_reducible refine gate_callee (f := 9) rfl ?_); refine goesL_ (some 38) rfl rfl Tryd.func9 (by kernel_rfl) rfl #[.agg #[.int .i64 t326, .int .i64 t327, .slice Ao11 t328.length co11]] rfl (by (try simp only [List.map_toArray, List.map_cons, List.map_nil]); first | done | rfl | (simp only [List.length_drop, List.length_take]; rfl)) ?_; (with_reducible refine (tier_Text.calls kj6 t326 t327 _ _ t328 t346 t347 _ ?side1 ?side2 ?side3 A29.out).mono ?_); (case side1 => repeat (first | exact (Kd.R_reads' HO_333002.out).2.2 | (with_reducible refine Kd.C_alloc ?_ _) | (with_reducible refine Kd.C_drewN ?_ _) | (with_reducible refine Kd.C_drew ?_))); (case side2 => exact (Kd.R_reads' HO_333002.out).2.1); (case side3 => exact hG.below (by repeat (first | (with_reducible first | exact HB.out | apply below_alloc | apply pw_below_drewN | apply below_drew1 | refine below_set ?_ GE332.out | refine below_set ?_ GE339.out) | exact HB.out))); rintro e w39 ⟨rfl, hb⟩; refine ⟨_, rfl, ?_⟩; have n0_ := Aside0.mk (Kd.R_below (by (with_reducible repeat (first | apply Kd.R_alloc | apply Kd.R_drewN | apply Kd.R_drew)); exact HO_333002.out) hb); have n1_ := Aside0.mk (Kd.R_below (by (with_reducible repeat (first | apply Kd.R_alloc | apply Kd.R_drewN | apply Kd.R_drew)); exact HO_340002.out) hb); have n2_ := Aside0.mk (blk_below (g := gb332) (o := .cells #[.int .i64 t326, .int .i64 t327, .slice Ao11 t328.length co11] 24 (0, 0)) (by (with_reducible repeat (first | refine blk_drewN ?_ _ | refine blk_drew ?_ | refine blk_alloc ?_ _)); exact BK332.out) hb); have n3_ := Aside0.mk (blk_below (g := gb339) (o := .cells #[.int .i64 t333, .int .i64 t334, .slice Ao16 t335.length co16] 32 (0, 0)) (by (with_reducible repeat (first | refine blk_drewN ?_ _ | refine blk_drew ?_ | refine blk_alloc ?_ _)); exact BK339.out) hb); have n4_ := Aside0.mk (below_step (by repeat (first | (with_reducible first | exact HB.out | apply below_alloc | apply pw_below_drewN | apply below_drew1 | refine below_set ?_ GE332.out | refine below_set ?_ GE339.out) | exact HB.out)) hb); clear HO_333002; clear HO_340002; clear BK332; clear BK339; clear HB; have HO_333002 := n0_; have HO_340002 := n1_; have BK332 := n2_; have BK339 := n3_; have HB := n4_; clear n0_ n1_ n2_ n3_ n4_; (try clear hb); (try clear hb2); (try clear hk); (try clear hi)))
        go_ret
        exact ⟨by first | rfl | (simp [errW_none, errW_some] <;> rfl) | (simp [*, errW_none, errW_some] <;> rfl), by repeat (first | (with_reducible first | exact HB.out | apply below_alloc | apply pw_below_drewN | apply below_drew1 | refine below_set ?_ GE332.out | refine below_set ?_ GE339.out) | exact HB.out)⟩
      ·rw [if_neg c30] at H
       have c30b0 : (t347 == 0) = false := beq_eq_false_iff_ne.mpr c30
       have c30b1 : (t347 != 0) = true := bne_iff_ne.mpr c30
       obtain rfl := Option.some.inj H
       have hnb40 := NB332_339.out
       have hnc40 := NB339_332.out
       have hcz41_0 : wc.cell? ⟨gb332, 0, none⟩ = some (.int .i64 t326) := (blk_cell BK332.out 0).trans rfl
       have hcz41_1 : wc.cell? ⟨gb332, 1, none⟩ = some (.int .i64 t327) := (blk_cell BK332.out 1).trans rfl
       have hcz41_2 : wc.cell? ⟨gb332, 2, none⟩ = some (.slice Ao11 t328.length co11) := (blk_cell BK332.out 2).trans rfl
       have hfz41_0 := blk_frozen BK332.out 0
       have hfz41_1 := blk_frozen BK332.out 1
       have hfz41_2 := blk_frozen BK332.out 2
       go_wp2_with (first | ((with_reducible refine gate_callee (f := 9) rfl ?_); refine goesL_ (some 38) rfl rfl Tryd.func9 (by kernel_rfl) rfl #[.agg #[.int .i64 t326, .int .i64 t327, .slice Ao11 t328.length co11]] rfl (by (try simp only [List.map_toArray, List.map_cons, List.map_nil]); first | done | rfl | (simp only [List.length_drop, List.length_take]; rfl)) ?_; (with_reducible refine (tier_Text.calls kj6 t326 t327 _ _ t328 t346 t347 _ ?side1 ?side2 ?side3 A29.out).mono ?_); (case side1 => repeat (first | exact (Kd.R_reads' HO_333002.out).2.2 | (with_reducible refine Kd.C_alloc ?_ _) | (with_reducible refine Kd.C_drewN ?_ _) | (with_reducible refine Kd.C_drew ?_))); (case side2 => exact (Kd.R_reads' HO_333002.out).2.1); (case side3 => exact hG.below (by repeat (first | (with_reducible first | exact HB.out | apply below_alloc | apply pw_below_drewN | apply below_drew1 | refine below_set ?_ GE332.out | refine below_set ?_ GE339.out) | exact HB.out))); rintro e w42 ⟨rfl, hb⟩; refine ⟨_, rfl, ?_⟩; have n0_ := Aside0.mk (Kd.R_below (by (with_reducible repeat (first | apply Kd.R_alloc | apply Kd.R_drewN | apply Kd.R_drew)); exact HO_333002.out) hb); have n1_ := Aside0.mk (Kd.R_below (by (with_reducible repeat (first | apply Kd.R_alloc | apply Kd.R_drewN | apply Kd.R_drew)); exact HO_340002.out) hb); have n2_ := Aside0.mk (blk_below (g := gb332) (o := .cells #[.int .i64 t326, .int .i64 t327, .slice Ao11 t328.length co11] 24 (0, 0)) (by (with_reducible repeat (first | refine blk_drewN ?_ _ | refine blk_drew ?_ | refine blk_alloc ?_ _)); exact BK332.out) hb); have n3_ := Aside0.mk (blk_below (g := gb339) (o := .cells #[.int .i64 t333, .int .i64 t334, .slice Ao16 t335.length co16] 32 (0, 0)) (by (with_reducible repeat (first | refine blk_drewN ?_ _ | refine blk_drew ?_ | refine blk_alloc ?_ _)); exact BK339.out) hb); have n4_ := Aside0.mk (below_step (by repeat (first | (with_reducible first | exact HB.out | apply below_alloc | apply pw_below_drewN | apply below_drew1 | refine below_set ?_ GE332.out | refine below_set ?_ GE339.out) | exact HB.out)) hb); clear HO_333002; clear HO_340002; clear BK332; clear BK339; clear HB; have HO_333002 := n0_; have HO_340002 := n1_; have BK332 := n2_; have BK339 := n3_; have HB := n4_; clear n0_ n1_ n2_ n3_ n4_; (try clear hb); (try clear hb2); (try clear hk); (try clear hi)))
       go_ret
       exact ⟨by first | rfl | (simp [errW_none, errW_some] <;> rfl) | (simp [*, errW_none, errW_some] <;> rfl), by repeat (first | (with_reducible first | exact HB.out | apply below_alloc | apply pw_below_drewN | apply below_drew1 | refine below_set ?_ GE332.out | refine below_set ?_ GE339.out) | exact HB.out)⟩
     ·rw [if_neg c28] at H
      have c28b0 : (t338 == 0) = false := beq_eq_false_iff_ne.mpr c28
      have c28b1 : (t338 != 0) = true := bne_iff_ne.mpr c28
      replace H := Option.bind_eq_some_iff.mp H
      obtain ⟨t349, A430, H⟩ := H
      replace H : (some t349) = some r := H
      have A43 := Aside0.mk A430
      clear A430
      obtain rfl := Option.some.inj H
      go_wp2_with (first | ((with_reducible refine gate_callee (f := 8) rfl ?_); refine goesL_ (some 35) rfl rfl Tryd.func8 (by kernel_rfl) rfl #[] rfl (by (try simp only [List.map_toArray, List.map_cons, List.map_nil]); first | done | rfl | (simp only [List.length_drop, List.length_take]; rfl)) ?_; (with_reducible refine (credenzalaw09_awake.calls kj6  t349 _ ?side1 A43.out).mono ?_); (case side1 => exact hG.below (by repeat (first | (with_reducible first | exact HB.out | apply below_alloc | apply pw_below_drewN | apply below_drew1 | refine below_set ?_ GE332.out | refine below_set ?_ GE339.out) | exact HB.out))); rintro e w44 ⟨rfl, hb⟩; refine ⟨_, rfl, ?_⟩; have n0_ := Aside0.mk (Kd.R_below (by (with_reducible repeat (first | apply Kd.R_alloc | apply Kd.R_drewN | apply Kd.R_drew)); exact HO_333002.out) hb); have n1_ := Aside0.mk (Kd.R_below (by (with_reducible repeat (first | apply Kd.R_alloc | apply Kd.R_drewN | apply Kd.R_drew)); exact HO_340002.out) hb); have n2_ := Aside0.mk (blk_below (g := gb332) (o := .cells #[.int .i64 t326, .int .i64 t327, .slice Ao11 t328.length co11] 24 (0, 0)) (by (with_reducible repeat (first | refine blk_drewN ?_ _ | refine blk_drew ?_ | refine blk_alloc ?_ _)); exact BK332.out) hb); have n3_ := Aside0.mk (blk_below (g := gb339) (o := .cells #[.int .i64 t333, .int .i64 t334, .slice Ao16 t335.length co16] 32 (0, 0)) (by (with_reducible repeat (first | refine blk_drewN ?_ _ | refine blk_drew ?_ | refine blk_alloc ?_ _)); exact BK339.out) hb); have n4_ := Aside0.mk (below_step (by repeat (first | (with_reducible first | exact HB.out | apply below_alloc | apply pw_below_drewN | apply below_drew1 | refine below_set ?_ GE332.out | refine below_set ?_ GE339.out) | exact HB.out)) hb); clear HO_333002; clear HO_340002; clear BK332; clear BK339; clear HB; have HO_333002 := n0_; have HO_340002 := n1_; have BK332 := n2_; have BK339 := n3_; have HB := n4_; clear n0_ n1_ n2_ n3_ n4_; (try clear hb); (try clear hb2); (try clear hk); (try clear hi)))
      go_ret
      exact ⟨by first | rfl | (simp [errW_none, errW_some] <;> rfl) | (simp [*, errW_none, errW_some] <;> rfl), by repeat (first | (with_reducible first | exact HB.out | apply below_alloc | apply pw_below_drewN | apply below_drew1 | refine below_set ?_ GE332.out | refine below_set ?_ GE339.out) | exact HB.out)⟩

/-- THE ONE PURE STATEMENT of credenzalaw09_TierParses: yours. -/
def credenzalaw09_TierParses.Pure : Prop := ∀ (a0 : ByteArray), a0.size ≤ 140737488351232 → ∃ k, credenzalaw09_TierParses.f k a0 = some true
theorem credenzalaw09_TierParses.walk (P : credenzalaw09_TierParses.Pure) (a0 : ByteArray) (w : World) (hG : Gl w) (w0 : a0.size ≤ 140737488351232) :
  Calls Tryd.prog 4 #[.string a0] w fun e w' => e = .returned (.bool true) ∧ Below w.heap.size w w' := by
 obtain ⟨k, h⟩ := P a0 w0
 refine (credenzalaw09_TierParses.calls k a0 true w hG h).mono ?_
 rintro e w' ⟨rfl, hd⟩
 exact ⟨rfl, hd⟩

end Go.Proofs.YtmldhpnkkkmloaaDoor.Q

namespace Go.Proofs.YtmldhpnkkkmloaaDoor.Pure
open Go.RowKit Go.Proofs.YtmldhpnkkkmloaaDoor.Q Go.Proofs.YtmldhpnkkkmloaaDoorW.PrintWords Go.Proofs.YtmldhpnkkkmloaaDoorW.PrintLast Go.Proofs.YtmldhpnkkkmloaaDoorW.PrintMore Go.Proofs.YtmldhpnkkkmloaaDoor.TierN
set_option linter.unusedVariables false

/-- A text that a plan's numbers bear. -/
def Plan (l : List UInt8) (a b : Int) (ls : List Bt) : Prop := small a ∧ small b ∧ smallL ls ∧ ls ≠ [] ∧ l = joinSp (wordsP a b ls)
/-- .. the program's reading. -/
theorem letV_true {w : List UInt8} {c : UInt8} (h : (letV w c).2 = true) : small (letV w c).1 ∧ w = c :: D (letV w c).1.toNat := by
  unfold letV at h ⊢
  by_cases hp : Lib.hasPrefix w [c] = true
  · rw [if_pos hp] at h ⊢
    obtain ⟨u, hu, e1, e2⟩ := numV_true h
    rw [e2]
    refine ⟨⟨by show (0 : Int) ≤ (u : Int); omega, by show (u : Int) ≤ 2147483647; omega⟩, ?_⟩
    show w = c :: D ((u : Int)).toNat
    rw [Int.toNat_natCast, ← e1]
    cases w with
    | nil => simp [Lib.hasPrefix] at hp
    | cons x w =>
      simp [Lib.hasPrefix] at hp
      rw [hp, List.drop_one, List.tail_cons]
  · rw [if_neg hp] at h; cases h
theorem cut_true {w : List UInt8} (h : (Lib.cut w [47]).2.2 = true) : w = (Lib.cut w [47]).1 ++ 47 :: (Lib.cut w [47]).2.1 := by
  by_cases c : (47 : UInt8) ∈ w
  · obtain ⟨x, y, e, hx⟩ : ∃ x y, w = x ++ 47 :: y ∧ (47 : UInt8) ∉ x := List.eq_append_cons_of_mem c
    rw [e, cut_at hx]
  · rw [cut_no c] at h; cases h
theorem okB_true {w : List UInt8} (h : okB w = true) : small (layB w).f0 ∧ small (layB w).f1 ∧ w = wordB (layB w) := by
  unfold okB bitsV at h
  simp only [Bool.and_eq_true] at h
  obtain ⟨⟨h1, h2⟩, h3⟩ := h
  have e := cut_true h1
  obtain ⟨u, hu, e1, e2⟩ := numV_true h2
  obtain ⟨v, hv, e3, e4⟩ := numV_true h3
  have l0 : (layB w).f0 = (u : Int) := by show (numV (Lib.cut w [47]).1).1 = _; rw [e2]
  have l1 : (layB w).f1 = (v : Int) := by show (numV (Lib.cut w [47]).2.1).1 = _; rw [e4]
  refine ⟨by rw [l0]; exact ⟨by omega, by omega⟩, by rw [l1]; exact ⟨by omega, by omega⟩, ?_⟩
  unfold wordB
  rw [l0, l1, Int.toNat_natCast, Int.toNat_natCast, ← e1, ← e3]
  exact e
theorem all_words : ∀ ws : List (List UInt8), ws.all okB = true → ws = (ws.map layB).map wordB ∧ smallL (ws.map layB)
  | [], _ => ⟨rfl, by intro x hx; simp at hx⟩
  | w :: ws, h => by
    rw [List.all_cons, Bool.and_eq_true] at h
    obtain ⟨h0, h1, h2⟩ := okB_true h.1
    obtain ⟨e, hs⟩ := all_words ws h.2
    refine ⟨?_, fun x hx => ?_⟩
    · rw [List.map_cons, List.map_cons, ← h2, ← e]
    · rw [List.map_cons] at hx
      rcases List.mem_cons.1 hx with rfl | hx
      · exact ⟨h0, h1⟩
      · exact hs x hx
theorem parV_cases (l : List UInt8) : (∃ a b ls, Plan l a b ls ∧ parV (wordsOf l) = fin true a b ls) ∨ ((∀ a b ls, ¬ Plan l a b ls) ∧ parV (wordsOf l) = (0, 0, [], 10)) := by
  by_cases h : ∃ a b ls, Plan l a b ls
  · obtain ⟨a, b, ls, hp⟩ := h
    obtain ⟨ha, hb, hl, hn, e⟩ := id hp
    left
    refine ⟨a, b, ls, hp, ?_⟩
    rw [e, words_join (wordsP a b ls) (by simp [wordsP]) (no_words a b ls)]
    exact parV_words ha hb hl hn
  · right
    refine ⟨fun a b ls hp => h ⟨a, b, ls, hp⟩, ?_⟩
    obtain ⟨ws, h1, h2, e⟩ := exists_join l
    have hw : wordsOf l = ws := by rw [← e, words_join ws h1 h2]
    rw [hw]
    match ws, e with
    | [], _ => rfl
    | [w0], _ => rfl
    | [w0, w1], _ => rfl
    | w0 :: w1 :: w2 :: ws, e =>
      show fin ((letV w0 103).2 && (w2 :: ws).all okB && (letV w1 119).2) (letV w0 103).1 (letV w1 119).1 ((w2 :: ws).map layB) = _
      cases c : ((letV w0 103).2 && (w2 :: ws).all okB && (letV w1 119).2) with
      | false => rfl
      | true =>
        exfalso
        simp only [Bool.and_eq_true] at c
        obtain ⟨⟨c0, c1⟩, c2⟩ := c
        obtain ⟨ha, e0⟩ := letV_true c0
        obtain ⟨hb, e1⟩ := letV_true c2
        obtain ⟨e2, hl⟩ := all_words _ c1
        refine h ⟨_, _, (w2 :: ws).map layB, ha, hb, hl, by simp, ?_⟩
        rw [← e]
        unfold wordsP
        rw [← e0, ← e1, ← e2]
/-- .. the document's. -/
def finR (a b : Int) (l : List Bt) : Int × Int × List Rt × Int := if rightF a b l = 0 then (a, b, l.map toR, 0) else (0, 0, [], rightF a b l)
theorem stops_flat (ls : List Bt) : stops (ls.flatMap bT) := by
  cases ls with
  | nil => exact .inl rfl
  | cons x ls => exact .inr ⟨32, wordB x ++ ls.flatMap bT, rfl, by decide⟩
theorem flat_cases (l : List UInt8) (hl : l.length ≤ 1000000) (a b : Int) : ∀ (N : Nat) (r : List UInt8) (acc : List Bt), r.length ≤ N → r.length ≤ 1000000 → acc.length + r.length ≤ 1000000 →
    (∃ ls, smallL ls ∧ r = ls.flatMap bT ∧ Ev (fun k => credenzaref09_Parse.l0 k (mk r) a b (acc.map toR)) (finR a b (acc ++ ls))) ∨ ((∀ ls, smallL ls → r ≠ ls.flatMap bT) ∧ Ev (fun k => credenzaref09_Parse.l0 k (mk r) a b (acc.map toR)) (0, 0, [], 10)) := by
  intro N
  induction N with
  | zero =>
    intro r acc h _ _
    obtain rfl : r = [] := List.length_eq_zero_iff.1 (by omega)
    left
    refine ⟨[], by intro x hx; simp at hx, rfl, ?_⟩
    rw [List.append_nil]
    refine Ev.step (fun k => by rw [credenzaref09_Parse.l0, if_pos (mk_toList [])]) (Ev.bind (right_ev a b acc) ?_)
    refine Ev.congr (fun k => ?_) (Ev.now _)
    unfold finR
    split <;> rfl
  | succ N ih =>
    intro r acc h h6 hacc
    by_cases c : r = []
    · subst c
      left
      refine ⟨[], by intro x hx; simp at hx, rfl, ?_⟩
      rw [List.append_nil]
      refine Ev.step (fun k => by rw [credenzaref09_Parse.l0, if_pos (mk_toList [])]) (Ev.bind (right_ev a b acc) ?_)
      refine Ev.congr (fun k => ?_) (Ev.now _)
      unfold finR
      split <;> rfl
    · have len_aft : ∀ (s p : List UInt8), (aftV s p).1.length ≤ s.length := by
        intro s p
        unfold aftV
        split
        · rw [List.length_drop]; omega
        · exact Nat.le_refl _
      have hr1 := len_aft r [32]
      obtain ⟨n1, r1, b1, ev1, t1, f1, u1⟩ := number_ev (aftV r [32]).1 (by omega)
      have hr2 : r1.length ≤ (aftV r [32]).1.length := by
        cases b1 with
        | true => rw [(t1 rfl).2, List.length_append]; omega
        | false => rw [f1 rfl]; exact Nat.le_refl _
      have hr3 := len_aft r1 [47]
      obtain ⟨n2, r2, b2, ev2, t2, f2, u2⟩ := number_ev (aftV r1 [47]).1 (by omega)
      have hhead : ∀ (ls : List Bt), smallL ls → r = ls.flatMap bT → ∃ x l', ls = x :: l' ∧ (aftV r [32]) = (wordB x ++ l'.flatMap bT, true) ∧ n1 = x.f0 ∧ r1 = 47 :: (D x.f1.toNat ++ l'.flatMap bT) ∧ b1 = true ∧ (aftV r1 [47]) = (D x.f1.toNat ++ l'.flatMap bT, true) ∧ n2 = x.f1 ∧ r2 = l'.flatMap bT ∧ b2 = true := by
        intro ls hs e
        cases ls with
        | nil => exact absurd e c
        | cons x l' =>
          have e1 : aftV r [32] = (wordB x ++ l'.flatMap bT, true) := by
            rw [e, List.flatMap_cons]
            exact aft_app [32] (wordB x ++ l'.flatMap bT)
          obtain ⟨s0, s1⟩ := hs x (by simp)
          have e2 : (aftV r [32]).1 = D x.f0.toNat ++ (47 :: (D x.f1.toNat ++ l'.flatMap bT)) := by rw [e1]; unfold wordB; simp
          obtain ⟨g1, g2, g3⟩ := u1 x.f0.toNat (47 :: (D x.f1.toNat ++ l'.flatMap bT)) (by obtain ⟨_, _⟩ := s0; omega) (.inr ⟨47, _, rfl, by decide⟩) e2
          have e3 : aftV r1 [47] = (D x.f1.toNat ++ l'.flatMap bT, true) := by rw [g2]; exact aft_app [47] _
          obtain ⟨k1, k2, k3⟩ := u2 x.f1.toNat (l'.flatMap bT) (by obtain ⟨_, _⟩ := s1; omega) (stops_flat l') (by rw [e3])
          exact ⟨x, l', rfl, e1, by rw [g1, Int.toNat_of_nonneg s0.1], g2, g3, e3, by rw [k1, Int.toNat_of_nonneg s1.1], k2, k3⟩
      have evk : ∀ (R : Int × Int × List Rt × Int), Ev (fun k => (if (aftV r [32]).2 = true then (if b1 = true then (if (aftV r1 [47]).2 = true then (if b2 = true then (if (acc.map toR).length < 8796093022208 then (credenzaref09_Parse.l0 k (mk r2) a b (acc.map toR ++ [(⟨n1, n2⟩ : Rt)])) else (none)) else (some (0, 0, ([] : List Rt), 10))) else (some (0, 0, ([] : List Rt), 10))) else (some (0, 0, ([] : List Rt), 10))) else (some (0, 0, ([] : List Rt), 10)))) R → Ev (fun k => credenzaref09_Parse.l0 k (mk r) a b (acc.map toR)) R := by
        intro R hR
        refine Ev.step (fun k => by rw [credenzaref09_Parse.l0, if_neg (by rw [mk_toList]; exact c), show (⟨#[32]⟩ : ByteArray) = mk [32] from rfl, after_some, Option.bind_some]) ?_
        refine Ev.bind ev1 ?_
        refine Ev.congr (fun k => by rw [show (⟨#[47]⟩ : ByteArray) = mk [47] from rfl, after_some, Option.bind_some]) ?_
        exact Ev.bind ev2 hR
      cases ca : (aftV r [32]).2 with
      | false =>
        right
        refine ⟨fun ls hs e => ?_, evk _ (Ev.congr (fun k => by rw [if_neg (by rw [ca]; simp)]) (Ev.now _))⟩
        obtain ⟨x, l', _, e1, _⟩ := hhead ls hs e
        rw [e1] at ca; cases ca
      | true =>
      cases cb : b1 with
      | false =>
        right
        refine ⟨fun ls hs e => ?_, evk _ (Ev.congr (fun k => by rw [if_pos ca, if_neg (by rw [cb]; simp)]) (Ev.now _))⟩
        obtain ⟨x, l', _, e1, _, _, e2, _⟩ := hhead ls hs e
        rw [e2] at cb; cases cb
      | true =>
      cases cc : (aftV r1 [47]).2 with
      | false =>
        right
        refine ⟨fun ls hs e => ?_, evk _ (Ev.congr (fun k => by rw [if_pos ca, if_pos cb, if_neg (by rw [cc]; simp)]) (Ev.now _))⟩
        obtain ⟨x, l', _, e1, _, _, e2, e3, _⟩ := hhead ls hs e
        rw [e3] at cc; cases cc
      | true =>
      cases cd : b2 with
      | false =>
        right
        refine ⟨fun ls hs e => ?_, evk _ (Ev.congr (fun k => by rw [if_pos ca, if_pos cb, if_pos cc, if_neg (by rw [cd]; simp)]) (Ev.now _))⟩
        obtain ⟨x, l', _, e1, _, _, e2, e3, _, _, e4⟩ := hhead ls hs e
        rw [e4] at cd; cases cd
      | true =>
        obtain ⟨sm1, q1⟩ := t1 cb
        obtain ⟨sm2, q2⟩ := t2 cd
        have p1 := aft_true ca
        have p2 := aft_true cc
        have hr : r = bT ⟨n1, n2⟩ ++ r2 := by
          unfold bT wordB
          conv => lhs; rw [p1, q1, p2, q2]
          simp
        have hlen : r2.length + 1 ≤ r.length := by
          rw [hr]
          unfold bT
          rw [List.length_append, List.length_cons]
          omega
        have ev := fun R => evk R
        have hacc2 : acc.map toR ++ [(⟨n1, n2⟩ : Rt)] = (acc ++ [(⟨n1, n2⟩ : Bt)]).map toR := by rw [List.map_append]; rfl
        have go : ∀ R, Ev (fun k => credenzaref09_Parse.l0 k (mk r2) a b ((acc ++ [(⟨n1, n2⟩ : Bt)]).map toR)) R → Ev (fun k => credenzaref09_Parse.l0 k (mk r) a b (acc.map toR)) R := fun R hR =>
          evk R (Ev.congr (fun k => by rw [if_pos ca, if_pos cb, if_pos cc, if_pos cd, if_pos (by rw [List.length_map]; omega), hacc2]) hR)
        rcases ih r2 (acc ++ [(⟨n1, n2⟩ : Bt)]) (by omega) (by omega) (by rw [List.length_append, List.length_singleton]; omega) with ⟨ls, hs, e, hev⟩ | ⟨hno, hev⟩
        · left
          refine ⟨⟨n1, n2⟩ :: ls, fun x hx => ?_, by rw [List.flatMap_cons, ← e]; exact hr, ?_⟩
          · rcases List.mem_cons.1 hx with rfl | hx
            · exact ⟨sm1, sm2⟩
            · exact hs x hx
          · rw [List.append_assoc] at hev
            exact go _ hev
        · right
          refine ⟨fun ls hs e => ?_, go _ hev⟩
          obtain ⟨x, l', e0, _, _, _, _, _, _, e4, _⟩ := hhead ls hs e
          exact hno l' (fun y hy => hs y (by rw [e0]; exact List.mem_cons_of_mem _ hy)) e4
theorem aft_len (s p : List UInt8) : (aftV s p).1.length ≤ s.length := by
  unfold aftV
  split
  · rw [List.length_drop]; omega
  · exact Nat.le_refl _
theorem refP (l : List UInt8) (hl : l.length ≤ 100000) : (∃ a b ls, Plan l a b ls ∧ Ev (fun k => credenzaref09_Parse.f k (mk l)) (finR a b ls)) ∨ ((∀ a b ls, ¬ Plan l a b ls) ∧ Ev (fun k => credenzaref09_Parse.f k (mk l)) (0, 0, [], 10)) := by
  have hr1 := aft_len l [103]
  obtain ⟨n1, r1, b1, ev1, t1, f1, u1⟩ := number_ev (aftV l [103]).1 (by omega)
  have hr2 : r1.length ≤ (aftV l [103]).1.length := by
    cases b1 with
    | true => rw [(t1 rfl).2, List.length_append]; omega
    | false => rw [f1 rfl]; exact Nat.le_refl _
  have hr3 := aft_len r1 [32, 119]
  obtain ⟨n2, r2, b2, ev2, t2, f2, u2⟩ := number_ev (aftV r1 [32, 119]).1 (by omega)
  have hr4 : r2.length ≤ (aftV r1 [32, 119]).1.length := by
    cases b2 with
    | true => rw [(t2 rfl).2, List.length_append]; omega
    | false => rw [f2 rfl]; exact Nat.le_refl _
  have hhead : ∀ a b ls, Plan l a b ls → (aftV l [103]).2 = true ∧ b1 = true ∧ (aftV r1 [32, 119]).2 = true ∧ b2 = true ∧ r2 = ls.flatMap bT ∧ r2 ≠ [] := by
    intro a b ls hp
    obtain ⟨ha, hb, hs, hn, e⟩ := hp
    rw [fmt_eq] at e
    have e1 : aftV l [103] = (D a.toNat ++ (32 :: 119 :: (D b.toNat ++ ls.flatMap bT)), true) := by
      rw [e, show ((103 :: D a.toNat) ++ (32 :: 119 :: D b.toNat)) ++ ls.flatMap bT = [103] ++ (D a.toNat ++ (32 :: 119 :: (D b.toNat ++ ls.flatMap bT))) by simp]
      exact aft_app [103] _
    obtain ⟨g1, g2, g3⟩ := u1 a.toNat (32 :: 119 :: (D b.toNat ++ ls.flatMap bT)) (by obtain ⟨_, _⟩ := ha; omega) (.inr ⟨32, _, rfl, by decide⟩) (by rw [e1])
    have e3 : aftV r1 [32, 119] = (D b.toNat ++ ls.flatMap bT, true) := by rw [g2]; exact aft_app [32, 119] _
    obtain ⟨k1, k2, k3⟩ := u2 b.toNat (ls.flatMap bT) (by obtain ⟨_, _⟩ := hb; omega) (stops_flat ls) (by rw [e3])
    refine ⟨by rw [e1], g3, by rw [e3], k3, k2, ?_⟩
    rw [k2]
    cases ls with
    | nil => exact absurd rfl hn
    | cons x ls => rw [List.flatMap_cons]; unfold bT; simp
  have j0t : Ev (fun k => credenzaref09_Parse.j0 k (mk r2) n1 n2 true 0 0) (0, 0, [], 10) := Ev.step (fun k => by rw [credenzaref09_Parse.j0, if_pos rfl]) (Ev.now _)
  have evk : ∀ R, Ev (fun k => (if (aftV l [103]).2 = true then (if b1 = true then (if (aftV r1 [32, 119]).2 = true then (if b2 = true then (credenzaref09_Parse.j0 k (mk r2) n1 n2 ((mk r2).toList == ([] : List UInt8)) 0 0) else (credenzaref09_Parse.j0 k (mk r2) n1 n2 true 0 0)) else (credenzaref09_Parse.j0 k (mk r2) n1 n2 true 0 0)) else (credenzaref09_Parse.j0 k (mk r2) n1 n2 true 0 0)) else (credenzaref09_Parse.j0 k (mk r2) n1 n2 true 0 0))) R → Ev (fun k => credenzaref09_Parse.f k (mk l)) R := by
    intro R hR
    refine Ev.congr (fun k => by rw [credenzaref09_Parse.f, show (⟨#[103]⟩ : ByteArray) = mk [103] from rfl, after_some, Option.bind_some]) ?_
    refine Ev.bind ev1 ?_
    refine Ev.congr (fun k => by rw [show (⟨#[32, 119]⟩ : ByteArray) = mk [32, 119] from rfl, after_some, Option.bind_some]) ?_
    exact Ev.bind ev2 hR
  by_cases ca : (aftV l [103]).2 = true
  · by_cases cb : b1 = true
    · by_cases cc : (aftV r1 [32, 119]).2 = true
      · by_cases cd : b2 = true
        · by_cases ce : r2 = []
          · right
            refine ⟨fun a b ls hp => (hhead a b ls hp).2.2.2.2.2 ce, evk _ (Ev.congr (fun k => ?_) j0t)⟩
            rw [if_pos ca, if_pos cb, if_pos cc, if_pos cd, mk_toList, ce]; rfl
          · obtain ⟨sm1, q1⟩ := t1 cb
            obtain ⟨sm2, q2⟩ := t2 cd
            have p1 := aft_true ca
            have p2 := aft_true cc
            have hr : l = (([103] ++ D n1.toNat) ++ ([32, 119] ++ D n2.toNat)) ++ r2 := by
              conv => lhs; rw [p1, q1, p2, q2]
              simp
            have go : ∀ R, Ev (fun k => credenzaref09_Parse.l0 k (mk r2) n1 n2 (([] : List Bt).map toR)) R → Ev (fun k => credenzaref09_Parse.f k (mk l)) R := by
              intro R hR
              refine evk R (Ev.congr (f := fun k => credenzaref09_Parse.j0 k (mk r2) n1 n2 false 0 0) (fun k => ?_) (Ev.step (fun k => ?_) hR))
              · rw [if_pos ca, if_pos cb, if_pos cc, if_pos cd, mk_toList, show (r2 == ([] : List UInt8)) = false from beq_eq_false_iff_ne.2 ce]
              · rw [credenzaref09_Parse.j0, if_neg (by simp)]; rfl
            rcases flat_cases r2 (by omega) n1 n2 r2.length r2 [] (Nat.le_refl _) (by omega) (by simp; omega) with ⟨ls, hs, e, hev⟩ | ⟨hno, hev⟩
            · left
              refine ⟨n1, n2, ls, ⟨sm1, sm2, hs, fun h => ce (by rw [e, h]; rfl), ?_⟩, go _ hev⟩
              rw [fmt_eq, ← e]
              exact hr
            · right
              exact ⟨fun a b ls hp => hno ls hp.2.2.1 (hhead a b ls hp).2.2.2.2.1, go _ hev⟩
        · right
          exact ⟨fun a b ls hp => cd (hhead a b ls hp).2.2.2.1, evk _ (Ev.congr (fun k => by rw [if_pos ca, if_pos cb, if_pos cc, if_neg cd]) j0t)⟩
      · right
        exact ⟨fun a b ls hp => cc (hhead a b ls hp).2.2.1, evk _ (Ev.congr (fun k => by rw [if_pos ca, if_pos cb, if_neg cc]) j0t)⟩
    · right
      exact ⟨fun a b ls hp => cb (hhead a b ls hp).2.1, evk _ (Ev.congr (fun k => by rw [if_pos ca, if_neg cb]) j0t)⟩
  · right
    exact ⟨fun a b ls hp => ca (hhead a b ls hp).1, evk _ (Ev.congr (fun k => by rw [if_neg ca]) j0t)⟩
theorem plan_uniq {l : List UInt8} {a b a' b' : Int} {ls ls' : List Bt} (h : Plan l a b ls) (h' : Plan l a' b' ls') : a = a' ∧ b = b' ∧ ls = ls' := by
  obtain ⟨ha, hb, hs, hn, e⟩ := h
  obtain ⟨ha', hb', hs', hn', e'⟩ := h'
  have w := words_join (wordsP a b ls) (by simp [wordsP]) (no_words a b ls)
  have w' := words_join (wordsP a' b' ls') (by simp [wordsP]) (no_words a' b' ls')
  rw [← e] at w
  rw [← e', w] at w'
  unfold wordsP at w'
  injection w' with w0 w'
  injection w' with w1 w2
  have x0 := letV_word 103 ha
  rw [w0, letV_word 103 ha'] at x0
  have x1 := letV_word 119 hb
  rw [w1, letV_word 119 hb'] at x1
  have x2 := (lay_words hs).1
  rw [w2, (lay_words hs').1] at x2
  exact ⟨(Prod.mk.inj x0).1.symm, (Prod.mk.inj x1).1.symm, x2.symm⟩
theorem join_count : ∀ ws : List (List UInt8), ws.length ≤ (joinSp ws).length + 1
  | [] => by simp
  | [w] => by simp
  | w :: v :: ws => by
    have := join_count (v :: ws)
    rw [joinSp, List.length_append, List.length_cons]
    simp only [List.length_cons] at this ⊢
    omega
theorem words_count (l : List UInt8) : (wordsOf l).length ≤ l.length + 1 := by
  obtain ⟨ws, h1, h2, rfl⟩ := exists_join l
  rw [words_join ws h1 h2]
  exact join_count ws
theorem parses_bad (l : List UInt8) (e : Int) (he : e ≠ 0) (h1 : Ev (fun k => tier_Parse.f k (mk l)) (0, 0, [], e)) (h2 : Ev (fun k => credenzaref09_Parse.f k (mk l)) (0, 0, [], e)) (hl : ¬ ((mk l).size : Int) > 200) : Ev (fun k => credenzalaw09_TierParses.f k (mk l)) true := by
  refine Ev.congr (fun k => by rw [credenzalaw09_TierParses.f, if_neg hl]) (Ev.bind h1 (Ev.bind h2 ?_))
  refine Ev.congr (fun k => by rw [if_pos rfl]) (Ev.bind (ref_ev 0 0 [] (by simp)) (Ev.bind (sameR_ev 0 0 [] 0 0 [] (by simp)) ?_))
  refine Ev.step (fun k => ?_) awake09_ev
  show credenzalaw09_TierParses.j0 (k + 1) (mk l) e false 0 0 [] = _
  rw [credenzalaw09_TierParses.j0, if_neg (by simp), if_neg he]
theorem TierParses (s : ByteArray) (_ : s.size ≤ 140737488351232) : ∃ k, credenzalaw09_TierParses.f k s = some true := by
  rw [← mk_self s]
  generalize s.data.toList = l
  refine Ev.rounds ?_
  by_cases hl : ((mk l).size : Int) > 200
  · exact Ev.congr (fun k => by rw [credenzalaw09_TierParses.f, if_pos hl]) awake09_ev
  have hln : l.length ≤ 200 := by rw [mk_size] at hl; omega
  have hw := words_count l
  have ht := parse_ev l (by omega) (by omega)
  rcases parV_cases l with ⟨a, b, ls, hp, e⟩ | ⟨hno, e⟩
  · rw [e] at ht
    rcases refP l (by omega) with ⟨a', b', ls', hp', hr⟩ | ⟨hno, _⟩
    · obtain ⟨rfl, rfl, rfl⟩ := plan_uniq hp hp'
      by_cases h0 : rightF a b ls = 0
      · have h6 := (rightF_zero h0).2.2.2.2.2.1
        have ht' : Ev (fun k => tier_Parse.f k (mk l)) (a, b, ls, 0) := by
          unfold fin at ht
          rw [if_pos rfl, if_pos h0] at ht
          exact ht
        have hr' : Ev (fun k => credenzaref09_Parse.f k (mk l)) (a, b, ls.map toR, 0) := by
          unfold finR at hr
          rw [if_pos h0] at hr
          exact hr
        have es : equalF a b ls a b ls = true := by unfold equalF; rw [eqL_refl, beq_self_eq_true, beq_self_eq_true]; rfl
        refine Ev.congr (fun k => by rw [credenzalaw09_TierParses.f, if_neg hl]) (Ev.bind ht' (Ev.bind hr' ?_))
        refine Ev.congr (fun k => by rw [if_pos rfl]) (Ev.bind (ref_ev a b ls (by omega)) (Ev.bind (sameR_ev a b ls a b ls (by omega)) ?_))
        refine Ev.congr (f := fun k => credenzalaw09_TierParses.j0 k (mk l) 0 false a b ls) (fun k => by rw [es]; rfl) ?_
        refine Ev.step (fun k => by rw [credenzalaw09_TierParses.j0, if_neg (by simp), if_pos rfl]) (Ev.bind (text_ev h0) ?_)
        exact Ev.congr (fun k => by rw [if_pos rfl, if_pos (by rw [mk_toList, mk_toList]; exact hp.2.2.2.2.symm)]) awake09_ev
      · refine parses_bad l (rightF a b ls) h0 ?_ ?_ hl
        · unfold fin at ht
          rw [if_pos rfl, if_neg h0] at ht
          exact ht
        · unfold finR at hr
          rw [if_neg h0] at hr
          exact hr
    · exact absurd hp (hno a b ls)
  · rw [e] at ht
    rcases refP l (by omega) with ⟨a', b', ls', hp', hr⟩ | ⟨_, hr⟩
    · exact absurd hp' (hno a' b' ls')
    · exact parses_bad l 10 (by omega) ht hr hl
theorem TierParses_row (s : ByteArray) (h : s.size ≤ 140737488351232) : ∃ k, credenzalaw09_TierParses.f k s = some true := TierParses s h
end Go.Proofs.YtmldhpnkkkmloaaDoor.Pure

namespace Go.Proofs.YtmldhpnkkkmloaaDoor.tierParses
open Go.ChangeShapes Go.WideShapes Go.ChangeAt Go.RowKit Go.Proofs.YtmldhpnkkkmloaaDoorW.PrintWords Go.Proofs.YtmldhpnkkkmloaaDoorW.PrintLast
open Go.ChangeMaps (open_string shut_string)
set_option linter.unusedVariables false
theorem own : ownKnob Tryd.prog.godebug = none := by kernel_rfl
theorem laidOut : laidOutB Tryd.prog = true := by kernel_rfl
set_option maxRecDepth 100000 in
theorem lifted (os : Os) (started : os.Started) (H : Type) (enc : TypeId × Value → H) :
    ReturnsInHanded {} Tryd.checked os 4 .any (fun w args => (Rows.tierParsesSpec.pre enc Tryd.prog Tryd.f4 [] false w args ∧ laidMetH Tryd.prog laidL w) ∧ sizedMet enc Tryd.prog Tryd.f4 (OpenSpec.ofChange Rows.tierParsesSpec) false w args) (Rows.tierParsesSpec.post enc Tryd.prog Tryd.f4 false true false false) := by
  refine wrap_shaped (C := Tryd.checked) (X := fun w _ => laidMetH Tryd.prog laidL w) (fun _ _ _ hh h => h.of_heap hh) own started (by kernel_rfl) Tryd.func4
    (ChangeSpec.witness_shaped (enc := enc) (C := Tryd.checked) (os := os) (X := fun w _ => laidMetH Tryd.prog laidL w) false (World.laidAll Tryd.prog os laidL) #[.string ByteArray.empty] 8 (World.laidAll_os _ _ _)
      (World.shaped_of_ZipB (by kernel_rfl) (by kernel_rfl)) (by kernel_rfl) (by kernel_rfl) (by kernel_rfl)
      (by rw [MakeChecks.laidMetH_plain _ _ _ (by kernel_rfl)]; exact laidMet_laidAll _ (by kernel_rfl) (by kernel_rfl))) ?_
  intro W base args ds gs before hval0 hW hsz0 hL hsh
  have hsz : (DataW.weightsEach Tryd.prog (Tryd.f4.params.toList ++ Rows.tierParsesSpec.plain.varTypes Tryd.prog) (ds ++ gs)).all (· ≤ reachBytes) = true := hsz0
  have hG := gl_of_laid hL hsh
  have hval : ∀ (j : Nat) t v, Tryd.f4.params[j]? = some t → args[j]? = some v → Value.okWide Tryd.prog W .any base t v := hval0
  have hW' := hW
  obtain ⟨p, q, hA0, hV, rfl, hfz, hnd⟩ := hW
  have hA : DataW.TrodAll enc Tryd.prog W 0 (fun _ => true) true Tryd.f4.params.toList args.toList ds p := hA0
  rw [Tryd.params4] at hA hval hsz
  obtain ⟨v0, vs0, d0, ds0, p0, q0, hargs, rfl, rfl, h0, r0⟩ := trodAll_cons hA
  obtain ⟨rfl, rfl, rfl⟩ := trodAll_nil r0
  obtain rfl : args = #[v0] := by cases args; simp_all
  obtain ⟨rfl, rfl⟩ := trodVars_none hV
  obtain ⟨a0, rfl, rfl, rfl, y0⟩ := open_string Tryd.underlying9 (hval 0 9 v0 rfl rfl) h0
  have w0 : a0.size ≤ 140737488351232 := by
    have z := sized_string hsz (j := 0) (t := 9) rfl rfl
    rw [Array.length_toList] at z
    exact z
  clear hA0 hval0 hsz0 hsz
  obtain ⟨k, hk⟩ := Pure.TierParses_row a0 w0
  refine (Q.credenzalaw09_TierParses.calls k a0 true W  hG hk).mono ?_
  rintro e W' ⟨rfl, bel⟩
  exact ⟨_, rfl, _, _, _, [], _, [], hW', trodAll_mk1 (shut_bool Tryd.underlying4 _), (trodAll_cons_mk (shut_string Tryd.underlying9 y0) trodAll_mk0), rfl, bel.frame _, fun h => by cases h⟩
theorem over : Rows.tierParsesRow.holds Tryd.pinned (OpenSpec.ofChange Rows.tierParsesSpec) :=
  OpenClaim.holds_of_wide 4 Tryd.f4 rfl rfl rfl rfl rfl rfl rfl ⟨rfl, rfl, rfl, rfl, rfl⟩ rfl rfl rfl rfl rfl (by kernel_rfl) Tryd.func4 (by kernel_rfl)
    (of_decide_eq_true (by kernel_rfl)) (by unfold Func.isWrapper; first | (rw [if_pos (by decide +kernel)]; kernel_rfl) | (rw [if_neg (by decide +kernel)]; exact ⟨rfl, rfl⟩))
    (fun os started H enc _ => lifted os started H enc)
theorem card_holds : Claim7.holds Tryd.pinned (.plain (OpenSpec.ofChange Rows.tierParsesSpec)) Rows.tierParsesCard :=
  Claim7.holds_tied_plain_at .later [] [.data, .data, .data, .data, .sentinel, .sentinel, .pinned] true (true, "b919752249d168aae7c4bdc5ba172f57bbd34e8d34366b9d2ede4122e7b0a920") true over (fun _ h => by cases h) (by kernel_rfl) (fun _ h => by cases h) tierParses_row_tie rfl ⟨rfl, rfl⟩ (by kernel_rfl) rfl
    (fun f fn hf hfn => by
      obtain rfl : f = 4 := Option.some.inj ((show Tryd.prog.funcNamed "credenza/credenzalaw09.TierParses" = some 4 by kernel_rfl).symm.trans hf) |>.symm
      obtain rfl : fn = Tryd.f4 := (Option.some.inj (Tryd.func4.symm.trans hfn)).symm
      exact ⟨by kernel_rfl, fun j t ht => by
        rw [Tryd.params4] at ht
        have hm : t ∈ [9] := by simpa using Array.mem_of_getElem? ht
        have hall : ([9].all fun u => !Tryd.prog.wantsStandIn u) = true := by kernel_rfl
        exact (show Tryd.prog.wantsStandIn t = false by simpa using List.all_eq_true.1 hall t hm)⟩)
    (by kernel_rfl)
end Go.Proofs.YtmldhpnkkkmloaaDoor.tierParses
namespace Go.Proofs.YtmldhpnkkkmloaaDoor
/-- The card, under a short name, for the claim. -/
theorem tierParses_holds : Rows.TierParsesCardSaid := tierParses.card_holds
end Go.Proofs.YtmldhpnkkkmloaaDoor
