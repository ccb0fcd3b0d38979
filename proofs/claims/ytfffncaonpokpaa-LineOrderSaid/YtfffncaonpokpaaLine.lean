/- The walks of package line's methods over a line of whole numbers: each leaves the line that its document says; conditions: the receiver is such a line (its length at most 2^20). -/
import Derived.Test.YtfffncaonpokpaaProg
import Derived.Test.YtfffncaonpokpaaKit
import Derived.Test.YtfffncaonpokpaaShelf
import Derived.Lib.OwnBridge
namespace Go.Proofs.Ytfffncaonpokpaa
open Go.RowKit

theorem info_int : (Try.prog.info? 3).map (fun i => (i.zero, i.size, i.bytes)) = some (some (.int .i64 0), 1, 8) := by kernel_rfl

/-- a row of ints: the value written out -/
theorem own_form {w : World} {B e : Nat} {v : Value} {n : Nat} {xs : List Value} (h : w.ownsRow B e 1 v n xs) : ∃ A cap, v = .slice A n cap ∧ n ≤ cap := by
  rcases h.2 with ⟨rfl, rfl⟩ | ⟨g, cap, cur, rfl, _, _, hn, _⟩
  · exact ⟨_, _, rfl, Nat.le_refl _⟩
  · exact ⟨_, _, rfl, hn⟩

theorem own_shape {w : World} {B e n : Nat} {v : Value} {xs : List Value} (h : w.ownsRow B e 1 v n xs) (hv : v ≠ .slice none 0 0) : ∃ g cap, v = .slice (some ⟨g, 0, none⟩) n cap ∧ B ≤ g ∧ g < w.heap.size := by
  rcases h.2 with ⟨h0, _⟩ | ⟨g, cap, cur, rfl, hb, hg, _⟩
  · exact absurd h0 hv
  · exact ⟨g, cap, rfl, hb, lt_of_block hg⟩

theorem ownsRow_succ {w : World} {B e n : Nat} {v : Value} {xs : List Value} (h : w.ownsRow B e 1 v (n + 1) xs) : ∃ g cap, v = .slice (some ⟨g, 0, none⟩) (n + 1) cap := by
  rcases h.2 with ⟨_, h0⟩ | ⟨g, cap, cur, rfl, _⟩
  · omega
  · exact ⟨g, cap, rfl⟩

def ints (xs : List Int) : List Value := xs.map (Value.int .i64)

/-- block p is a line: at most 'most', the things xs, so many of which run -/
def IsLine (w : World) (p B : Nat) (most : Int) (xs : List Int) (runs : Nat) : Prop :=
  B ≤ p ∧ ∃ v, Blk w p 80 #[.int .i64 most, v, .int .i64 runs] ∧ w.ownsRow B 3 1 v xs.length (ints xs)

theorem IsLine.below {w w' : World} {p B : Nat} {most : Int} {xs : List Int} {runs : Nat} (h : IsLine w p B most xs runs) {C : Nat} (hb : Below C w w') (hC : w.heap.size ≤ C) : IsLine w' p B most xs runs := by
  obtain ⟨hp, v, hv, ho⟩ := h
  refine ⟨hp, v, hv.below hb (Nat.lt_of_lt_of_le hv.lt hC), ho.kept (row := none) ⟨hb.os, hb.tape, hb.output, hb.size, fun k hk _ => hb.block k (by omega)⟩ ?_⟩
  cases hv' : v.ownBlock <;> simp

theorem IsLine.alloc {w : World} {p B : Nat} {most : Int} {xs : List Int} {runs : Nat} (h : IsLine w p B most xs runs) (o : Obj) : IsLine (w.alloc o) p B most xs runs :=
  h.below ((Below.refl w.heap.size w).alloc (Nat.le_refl _) o) (Nat.le_refl _)

theorem IsLine.drewN {w : World} {p B : Nat} {most : Int} {xs : List Int} {runs : Nat} (h : IsLine w p B most xs runs) (n : Nat) : IsLine (w.drewN n) p B most xs runs := h

theorem IsLine.drew {w : World} {p B : Nat} {most : Int} {xs : List Int} {runs : Nat} (h : IsLine w p B most xs runs) : IsLine w.drew p B most xs runs := h

set_option maxHeartbeats 400000 in
theorem line_new_ok (most : Int) (h1 : 1 ≤ most) (h2 : most ≤ 32) (w : World) :
    Calls Try.prog 15 #[.int .i64 most] w fun e w' => e = .returned (.tuple #[.pointer (some ⟨w.heap.size, 0, none⟩), .int .i64 0]) ∧ IsLine w' w.heap.size w.heap.size most [] 0 ∧ Below w.heap.size w w' := by
  go_enter Try.func15, Try.ntmps15
  go_wp2
  go_ret2
  exact ⟨rfl, ⟨Nat.le_refl _, _, Blk.new _ _ _, World.ownsRow_nil _ _ _ _⟩, (Below.refl _ _).alloc (Nat.le_refl _) _⟩

set_option maxHeartbeats 400000 in
theorem line_new_no (most : Int) (h1 : most < 1 ∨ 32 < most) (w : World) :
    Calls Try.prog 15 #[.int .i64 most] w fun e w' => e = .returned (.tuple #[.pointer none, .int .i64 11]) ∧ w = w' := by
  rcases h1 with h1 | h1
  · go_enter Try.func15, Try.ntmps15
    go_wp2
    go_ret2
    exact ⟨rfl, rfl⟩
  · have h2 : ¬ most < 1 := by omega
    go_enter Try.func15, Try.ntmps15
    go_wp2
    go_ret2
    exact ⟨rfl, rfl⟩

set_option maxHeartbeats 400000 in
theorem line_running {p B : Nat} {most : Int} {xs : List Int} {runs : Nat} (w : World) (h : IsLine w p B most xs runs) :
    Calls Try.prog 16 #[.pointer (some ⟨p, 0, none⟩)] w fun e w' => e = .returned (.int .i64 runs) ∧ w = w' := by
  obtain ⟨_, v, hv, _⟩ := h
  have h2 := hv.cell 2
  simp at h2
  clear hv
  go_enter Try.func16, Try.ntmps16
  go_wp2
  go_ret
  exact ⟨rfl, rfl⟩

set_option maxHeartbeats 400000 in
theorem line_len {p B : Nat} {most : Int} {xs : List Int} {runs : Nat} (w : World) (h : IsLine w p B most xs runs) :
    Calls Try.prog 17 #[.pointer (some ⟨p, 0, none⟩)] w fun e w' => e = .returned (.int .i64 xs.length) ∧ w = w' := by
  obtain ⟨_, v, hv, ho⟩ := h
  obtain ⟨A, cap, rfl, _⟩ := own_form ho
  have h2 := hv.cell 1
  simp at h2
  clear hv ho
  go_enter Try.func17, Try.ntmps17
  go_wp2
  go_ret
  exact ⟨rfl, rfl⟩

/-- one field of a line's block turned -/
theorem IsLine.run {w : World} {p B : Nat} {most : Int} {xs : List Int} {runs : Nat} (h : IsLine w p B most xs runs) (k : Nat) : IsLine (w.setCell ⟨p, 2, none⟩ (.int .i64 k)) p B most xs k := by
  obtain ⟨hp, v, hv, ho⟩ := h
  refine ⟨hp, v, by simpa using hv.set_ 2 (.int .i64 k), ?_⟩
  exact ownsRow_setCell_other ho (own_blk_ne ho hv (by decide)) _

set_option maxHeartbeats 400000 in
theorem line_start_yes {p B : Nat} {most : Int} {xs : List Int} {runs : Nat} (w : World) (h : IsLine w p B most xs runs) (hr : runs < xs.length) (hl : xs.length ≤ 1000000) :
    Calls Try.prog 19 #[.pointer (some ⟨p, 0, none⟩)] w fun e w' => e = .returned (.bool true) ∧ IsLine w' p B most xs (runs + 1) ∧ Below B w w' ∧ Others [80, 3] w w' := by
  have hI := Lib.hid h
  obtain ⟨hp, v, hv, ho⟩ := h
  obtain ⟨A, cap, rfl, _⟩ := own_form ho
  have h1 := hv.cell 1
  have h2 := hv.cell 2
  have f2 := hv.frozen 2
  simp at h1 h2
  have hvH := Lib.hid hv
  clear hv ho
  have hc : ((runs : Int) == (xs.length : Int)) = false := by rw [beq_eq_false_iff_ne]; omega
  go_enter Try.func19, Try.ntmps19
  go_wp2
  go_quiet (fail)
  go_wp2
  go_ret
  exact ⟨rfl, by have := (hI.out.drewN nq).run (runs + 1); simpa using this, ((below_drewN (Below.refl _ _) _)).setCell hp _, (Others.refl.drewN nq).setCell (hvH.out.drewN nq) (by simp) _ _⟩


set_option maxHeartbeats 400000 in
theorem line_start_no {p B : Nat} {most : Int} {xs : List Int} {runs : Nat} (w : World) (h : IsLine w p B most xs runs) (hr : runs = xs.length) :
    Calls Try.prog 19 #[.pointer (some ⟨p, 0, none⟩)] w fun e w' => e = .returned (.bool false) ∧ ∃ n, w.drewN n = w' := by
  obtain ⟨hp, v, hv, ho⟩ := h
  obtain ⟨A, cap, rfl, _⟩ := own_form ho
  have h1 := hv.cell 1
  have h2 := hv.cell 2
  simp at h1 h2
  clear hv ho
  have hc : ((runs : Int) == (xs.length : Int)) = true := by rw [beq_iff_eq]; omega
  clear hr
  go_enter Try.func19, Try.ntmps19
  go_wp2
  go_quiet (fail)
  go_wp2
  go_ret
  exact ⟨rfl, _, rfl⟩

set_option maxHeartbeats 400000 in
theorem line_stop_yes {p B : Nat} {most : Int} {xs : List Int} {runs : Nat} (w : World) (h : IsLine w p B most xs (runs + 1)) (hl : runs ≤ 1000000) :
    Calls Try.prog 20 #[.pointer (some ⟨p, 0, none⟩)] w fun e w' => e = .returned (.bool true) ∧ IsLine w' p B most xs runs ∧ Below B w w' ∧ Others [80, 3] w w' := by
  have hI := Lib.hid h
  obtain ⟨hp, v, hv, ho⟩ := h
  have hvH := Lib.hid hv
  have h2 := hv.cell 2
  have f2 := hv.frozen 2
  simp at h2
  clear hv ho
  have hc : ((runs : Int) + 1 == 0) = false := by rw [beq_eq_false_iff_ne]; omega
  go_enter Try.func20, Try.ntmps20
  go_wp2
  go_ret
  exact ⟨rfl, by have := hI.out.run runs; simpa using this, (Below.refl _ _).setCell hp _, Others.refl.setCell hvH.out (by simp) _ _⟩

set_option maxHeartbeats 400000 in
theorem line_stop_no {p B : Nat} {most : Int} {xs : List Int} (w : World) (h : IsLine w p B most xs 0) :
    Calls Try.prog 20 #[.pointer (some ⟨p, 0, none⟩)] w fun e w' => e = .returned (.bool false) ∧ w = w' := by
  obtain ⟨hp, v, hv, ho⟩ := h
  have h2 := hv.cell 2
  simp at h2
  clear hv ho
  go_enter Try.func20, Try.ntmps20
  go_wp2
  go_ret
  exact ⟨rfl, rfl⟩

set_option maxHeartbeats 400000 in
theorem line_at_yes {p B : Nat} {most : Int} {xs : List Int} {runs : Nat} (w : World) (h : IsLine w p B most xs runs) (k : Nat) (hk : k < xs.length) (_hl : xs.length ≤ 1000000) :
    Calls Try.prog 48 #[.pointer (some ⟨p, 0, none⟩), .int .i64 k] w fun e w' => e = .returned (.tuple #[.int .i64 (xs[k]?.getD 0), .bool true]) ∧ w = w' := by
  obtain ⟨hp, v, hv, ho⟩ := h
  rcases ho.2 with ⟨_, h0⟩ | ⟨g, cap, cur, rfl, _, _, hn, _⟩
  · omega
  have hx := ho.cellAt k (by omega)
  have e : (ints xs)[k]? = some (.int .i64 (xs[k]?.getD 0)) := by simp [ints, hk]
  rw [e] at hx
  have h1 := hv.cell 1
  simp at h1
  clear hv ho e
  go_enter Try.func48, Try.ntmps48
  go_wp2
  go_ret2
  exact ⟨by simp [hk], rfl⟩

set_option maxHeartbeats 400000 in
theorem line_at_no {p B : Nat} {most : Int} {xs : List Int} {runs : Nat} (w : World) (h : IsLine w p B most xs runs) (k : Int) (hk : k < 0 ∨ xs.length ≤ k) :
    Calls Try.prog 48 #[.pointer (some ⟨p, 0, none⟩), .int .i64 k] w fun e w' => e = .returned (.tuple #[.int .i64 0, .bool false]) ∧ w = w' := by
  obtain ⟨hp, v, hv, ho⟩ := h
  obtain ⟨A, cap, rfl, _⟩ := own_form ho
  have h1 := hv.cell 1
  simp at h1
  clear hv ho
  rcases hk with hk | hk
  · go_enter Try.func48, Try.ntmps48
    go_wp2
    go_ret2
    exact ⟨rfl, rfl⟩
  · have hk0 : ¬ k < 0 := by omega
    go_enter Try.func48, Try.ntmps48
    go_wp2
    go_ret2
    exact ⟨rfl, rfl⟩

set_option maxHeartbeats 400000 in
theorem line_add_no {p B : Nat} {most : Int} {xs : List Int} {runs : Nat} (w : World) (h : IsLine w p B most xs runs) (x : Int) (hf : (xs.length : Int) = most) :
    Calls Try.prog 18 #[.pointer (some ⟨p, 0, none⟩), .int .i64 x] w fun e w' => e = .returned (.int .i64 23) ∧ ∃ n, w.drewN n = w' := by
  obtain ⟨hp, v, hv, ho⟩ := h
  obtain ⟨A, cap, rfl, _⟩ := own_form ho
  have h0 := hv.cell 0
  have h1 := hv.cell 1
  simp at h0 h1
  clear hv ho
  have hc : ((xs.length : Int) == most) = true := by rw [beq_iff_eq]; omega
  clear hf
  go_enter Try.func18, Try.ntmps18
  go_wp2
  go_quiet (fail)
  go_wp2
  go_ret
  exact ⟨rfl, _, rfl⟩

set_option maxHeartbeats 800000 in
theorem line_add_yes {p B : Nat} {most : Int} {xs : List Int} {runs : Nat} (w : World) (h : IsLine w p B most xs runs) (x : Int) (hf : (xs.length : Int) ≠ most) (hl : xs.length ≤ 1000000) (hB : B ≤ w.heap.size) :
    Calls Try.prog 18 #[.pointer (some ⟨p, 0, none⟩), .int .i64 x] w fun e w' => e = .returned (.int .i64 0) ∧ IsLine w' p B most (xs ++ [x]) runs ∧ Below B w w' ∧ Others [80, 3] w w' := by
  obtain ⟨i0, hi, hz0, hz1, hz2⟩ := info_parts info_int
  obtain ⟨hp, v, hv, ho⟩ := h
  have hne := own_blk_ne ho hv (by decide)
  obtain ⟨A, cap, rfl, _⟩ := own_form ho
  have h0 := hv.cell 0
  have h1 := hv.cell 1
  simp at h0 h1
  have hc : ((xs.length : Int) == most) = false := by rw [beq_eq_false_iff_ne]; omega
  clear hf
  have hvH := Lib.hid hv
  have hnH := Lib.hid hne
  clear hv hne
  go_enter Try.func18, Try.ntmps18
  go_wp2
  go_quiet (fail)
  go_wp2_with (at_builtin; refine wpList_append_own _ rfl (.tmp 19) (.tmp 21) 34 rfl B 3 i0 (.int .i64 0) 1 8 Try.underlying34 hi hz0 hz1 hz2 rfl (by decide) _ _ _ rfl (World.ownsRow.alloc (w := w.drewN nq) ho _) ⟨w.heap.size, 0, none⟩ 1 1 [.int .i64 x] rfl rfl ?c1 ?c2 ?c3 ?c4 ?c5 ?_)
  case c1 => exact cell_one_new _ _ _
  case c2 => simp [Value.oneCell']
  case c3 => unfold maxLen; omega
  case c4 => omega
  case c5 => simp; omega
  intro v' w1 hown' hgrow _
  have hb : Below B w w1 := (((below_drewN (Below.refl _ _) _).alloc (by simpa using hB) _)).grown hgrow (by simp; omega) (fun k hk => (ho.lt k hk).1)
  have hv1 : Blk w1 p 80 #[.int .i64 most, .slice A xs.length cap, .int .i64 runs] := (((hvH.out.drewN nq).alloc _)).grown hgrow (fun e => hnH.out e.symm)
  have hh0 := hv1.cell 0
  have hh1 := hv1.cell 1
  have hf1 := hv1.frozen 1
  simp at hh0 hh1
  have hoo : Hid (Others [80, 3] w w1) := ((Others.refl.drewN nq).alloc _).grown (World.ownsRow.alloc (w := w.drewN nq) ho _) (by simp) hgrow
  obtain ⟨g', cap', rfl⟩ := ownsRow_succ hown'
  have hvH1 := Lib.hid hv1
  have hnH1 := Lib.hid (own_blk_ne hown' hv1 (by decide))
  clear hv1 hgrow
  go_wp2
  go_ret
  refine ⟨rfl, ⟨hp, _, by simpa using hvH1.out.set_ 1 _, ?_⟩, hb.setCell hp _, hoo.out.setCell hvH1.out (by simp) _ _⟩
  have := ownsRow_setCell_other (a := ⟨p, 1, none⟩) hown' hnH1.out (.slice (some ⟨g', 0, none⟩) (xs.length + 1) cap')
  simpa [ints] using this


open Go.Sort Go.Lib in
theorem grownBy_putRow {enc : Int → Value} {w : World} {g q : Nat} {d : Array Int} : w.grownBy (putRow enc (Sort.ahead w q) g 0 d) (some g) :=
  ⟨rfl, rfl, rfl, by simp [putRow, mapBlock, Sort.ahead], fun k _ hne => by
    simp [putRow, mapBlock, Sort.ahead, Array.getElem?_modify, show g ≠ k from fun e => hne (by rw [e])]⟩

open Go.Sort Go.Lib in
/-- slices.Delete of one thing, at a row of the law's own -/
theorem delete_own {w : World} {B n cap g k : Nat} {xs : List Int} (h : w.ownsRow B 3 1 (.slice (some ⟨g, 0, none⟩) n cap) n (ints xs)) (hk : k < n) (hn : xs.length = n) :
    Calls Try.prog 49 #[.slice (some ⟨g, 0, none⟩) n cap, .int .i64 k, .int .i64 ((k : Int) + 1)] w fun e w' => e = .returned (.slice (some ⟨g, 0, none⟩) (n - 1) cap) ∧
      w'.ownsRow B 3 1 (.slice (some ⟨g, 0, none⟩) (n - 1) cap) (n - 1) (ints (xs.take k ++ xs.drop (k + 1))) ∧ w.grownBy w' (some g) := by
  subst hn
  obtain ⟨g', cap', e1, _, _, hnc, hcm, _, hH⟩ := holds_of_ownsRow (enc := Value.int .i64) h (by simp)
  injection e1 with e2 _ e3
  injection e2 with e2
  injection e2 with e2
  subst e2 e3
  have hc := Try.slices_Delete_int g 0 cap k (k + 1) xs w hH hnc (by simpa [maxLen] using hcm) (by omega) (by omega)
  rw [show (((k + 1 : Nat)) : Int) = (k : Int) + 1 by omega] at hc
  refine hc.mono ?_
  rintro e w' ⟨rfl, q, rfl⟩
  rw [show xs.length - (k + 1 - k) = xs.length - 1 by omega]
  refine ⟨rfl, ?_, grownBy_putRow⟩
  have := ownsRow_putRow (q := q) (k := xs.length - 1) (ys := xs.take k ++ xs.drop (k + 1) ++ List.replicate (k + 1 - k) 0) h (by simp; omega) (by omega)
  rw [show List.take (xs.length - 1) (xs.take k ++ xs.drop (k + 1) ++ List.replicate (k + 1 - k) 0) = xs.take k ++ xs.drop (k + 1) from by
    rw [List.take_append_of_le_length (by simp; omega)]
    exact List.take_of_length_le (by simp; omega)] at this
  exact this

/-- how many run when thing k is gone -/
def runsBut (k runs : Nat) : Nat := if k < runs then runs - 1 else runs

theorem take_drop_length {xs : List Int} {k : Nat} (hk : k < xs.length) : (xs.take k ++ xs.drop (k + 1)).length = xs.length - 1 := by simp; omega

set_option maxHeartbeats 800000 in
theorem line_remove_yes {p B : Nat} {most : Int} {xs : List Int} {runs : Nat} (w : World) (h : IsLine w p B most xs runs) (k : Nat) (hk : k < xs.length) (hl : xs.length ≤ 1000000) (hr : runs ≤ xs.length) :
    Calls Try.prog 21 #[.pointer (some ⟨p, 0, none⟩), .int .i64 k] w fun e w' => e = .returned (.int .i64 0) ∧ IsLine w' p B most (xs.take k ++ xs.drop (k + 1)) (runsBut k runs) ∧ Below B w w' ∧ Others [80, 3] w w' := by
  obtain ⟨hp, v, hv, ho⟩ := h
  have hne := own_blk_ne ho hv (by decide)
  obtain ⟨g, cap, rfl⟩ : ∃ g cap, v = .slice (some ⟨g, 0, none⟩) xs.length cap := by
    obtain ⟨n, hn⟩ : ∃ n, xs.length = n + 1 := ⟨xs.length - 1, by omega⟩
    rw [hn] at ho ⊢
    exact ownsRow_succ ho
  have h1 := hv.cell 1
  have h2 := hv.cell 2
  simp at h1 h2
  have hgB := ho.lt g rfl
  have hvH := Lib.hid hv
  have hnH := Lib.hid hne
  have hoH := Lib.hid ho
  clear hv hne
  go_enter Try.func21, Try.ntmps21
  go_wp2_with fail
  refine (delete_own ho hk rfl).mono ?_
  rintro e w1 ⟨rfl, hown', hgrow⟩
  have hb : Below B w w1 := (Below.refl B w).grown hgrow (by omega) (fun j hj => by cases hj; exact hgB.1)
  have hv1 : Blk w1 p 80 #[.int .i64 most, .slice (some ⟨g, 0, none⟩) xs.length cap, .int .i64 runs] := hvH.out.grown hgrow (fun e => hnH.out e.symm)
  have hh1 := hv1.cell 1
  have hh2 := hv1.cell 2
  have hf1 := hv1.frozen 1
  have hf2 := hv1.frozen 2
  simp at hh1 hh2
  have hvH1 := Lib.hid hv1
  have hnH1 := Lib.hid (own_blk_ne hown' hv1 (by decide))
  have hlH := Lib.hid (take_drop_length hk)
  have hO1 : Hid (Others [80, 3] w w1) := Others.grown Others.refl hoH.out (by simp) hgrow
  clear hv1 hgrow ho h1 h2
  by_cases hkr : k < runs
  · have hr1 : 1 ≤ runs := by omega
    go_wp2
    go_ret
    rw [show runsBut k runs = runs - 1 from if_pos hkr]
    refine ⟨rfl, ⟨hp, .slice (some ⟨g, 0, none⟩) (xs.length - 1) cap, ?_, ?_⟩, (hb.setCell hp _).setCell hp _, (hO1.out.setCell hvH1.out (by simp) 1 _).setCell (hvH1.out.set_ 1 _) (by simp) 2 _⟩
    · have := (hvH1.out.set_ 1 (.slice (some ⟨g, 0, none⟩) (xs.length - 1) cap)).set_ 2 (.int .i64 ((runs : Int) - 1))
      rw [show ((runs - 1 : Nat) : Int) = (runs : Int) - 1 by omega]
      simpa using this
    · rw [hlH.out]
      exact ownsRow_setCell_other (a := ⟨p, 2, none⟩) (ownsRow_setCell_other (a := ⟨p, 1, none⟩) hown' hnH1.out _) hnH1.out _
  · go_wp2
    go_ret
    rw [show runsBut k runs = runs from if_neg hkr]
    refine ⟨rfl, ⟨hp, .slice (some ⟨g, 0, none⟩) (xs.length - 1) cap, by simpa using hvH1.out.set_ 1 (.slice (some ⟨g, 0, none⟩) (xs.length - 1) cap), ?_⟩, hb.setCell hp _, hO1.out.setCell hvH1.out (by simp) 1 _⟩
    rw [hlH.out]
    exact ownsRow_setCell_other (a := ⟨p, 1, none⟩) hown' hnH1.out _

set_option maxHeartbeats 400000 in
theorem line_remove_no {p B : Nat} {most : Int} {xs : List Int} {runs : Nat} (w : World) (h : IsLine w p B most xs runs) (k : Int) (hk : k < 0 ∨ xs.length ≤ k) :
    Calls Try.prog 21 #[.pointer (some ⟨p, 0, none⟩), .int .i64 k] w fun e w' => e = .returned (.int .i64 14) ∧ w = w' := by
  obtain ⟨hp, v, hv, ho⟩ := h
  obtain ⟨A, cap, rfl, _⟩ := own_form ho
  have h1 := hv.cell 1
  simp at h1
  clear hv ho
  rcases hk with hk | hk
  · go_enter Try.func21, Try.ntmps21
    go_wp2
    go_ret
    exact ⟨rfl, rfl⟩
  · have hk0 : ¬ k < 0 := by omega
    go_enter Try.func21, Try.ntmps21
    go_wp2
    go_ret
    exact ⟨rfl, rfl⟩

end Go.Proofs.Ytfffncaonpokpaa
