/- More walks of package stat: Note, All, Name, and the fixed answer of the statements of layer 26; conditions: the receiver is a meter. -/
import Derived.Test.YtfffncaonpokpaaStat
namespace Go.Proofs.Ytfffncaonpokpaa
open Go.RowKit

/-- what Note leaves -/
def noteAt (cs : List Int) (k : Int) : List Int := if k = 1 then addAt cs 2 1 else if k = 2 then addAt cs 3 1 else if k = 3 then addAt cs 4 1 else if k = 4 then addAt cs 5 1 else if k = 5 then addAt cs 1 1 else cs

set_option maxHeartbeats 1000000 in
theorem stat_note (p B : Nat) (cs : List Int) (k i x t c : Int) (w : World) (h : IsMeter w p B cs) (hB : B ≤ w.heap.size) :
    Calls Try.prog 32 #[.pointer (some ⟨p, 0, none⟩), .agg #[.int .i64 k, .int .u32 i, .int .i64 x, .int .i64 t, .int .i64 c]] w fun e w' => e = .returned (.tuple #[]) ∧ IsMeter w' p B (noteAt cs k) ∧ Below B w w' ∧ Others [91] w w' := by
  have h1 : IsMeter (w.alloc (.cells #[.int .i64 k, .int .u32 i, .int .i64 x, .int .i64 t, .int .i64 c] 50)) p B cs := h.below ((Below.refl w.heap.size w).alloc (Nat.le_refl _) _) (Nat.le_refl _)
  have hb1 : Below B w (w.alloc (.cells #[.int .i64 k, .int .u32 i, .int .i64 x, .int .i64 t, .int .i64 c] 50)) := (Below.refl B w).alloc hB _
  have ho1 : Others [91] w (w.alloc (.cells #[.int .i64 k, .int .u32 i, .int .i64 x, .int .i64 t, .int .i64 c] 50)) := Others.refl.alloc _
  unfold noteAt
  by_cases e1 : k = 1
  · subst e1
    go_enter Try.func32, Try.ntmps32
    go_wp2_with fail
    refine (stat_add p B cs 2 1 _ h1).mono ?_
    rintro e w1 ⟨rfl, h2, hb2, ho2, _⟩
    go_wp2_with fail
    go_end0
    exact ⟨rfl, h2, hb1.trans hb2, ho1.trans ho2⟩
  rw [if_neg e1]
  by_cases e2 : k = 2
  · subst e2
    go_enter Try.func32, Try.ntmps32
    go_wp2_with fail
    refine (stat_add p B cs 3 1 _ h1).mono ?_
    rintro e w1 ⟨rfl, h2, hb2, ho2, _⟩
    go_wp2_with fail
    go_end0
    exact ⟨rfl, h2, hb1.trans hb2, ho1.trans ho2⟩
  rw [if_neg e2]
  by_cases e3 : k = 3
  · subst e3
    go_enter Try.func32, Try.ntmps32
    go_wp2_with fail
    refine (stat_add p B cs 4 1 _ h1).mono ?_
    rintro e w1 ⟨rfl, h2, hb2, ho2, _⟩
    go_wp2_with fail
    go_end0
    exact ⟨rfl, h2, hb1.trans hb2, ho1.trans ho2⟩
  rw [if_neg e3]
  by_cases e4 : k = 4
  · subst e4
    go_enter Try.func32, Try.ntmps32
    go_wp2_with fail
    refine (stat_add p B cs 5 1 _ h1).mono ?_
    rintro e w1 ⟨rfl, h2, hb2, ho2, _⟩
    go_wp2_with fail
    go_end0
    exact ⟨rfl, h2, hb1.trans hb2, ho1.trans ho2⟩
  rw [if_neg e4]
  by_cases e5 : k = 5
  · subst e5
    go_enter Try.func32, Try.ntmps32
    go_wp2_with fail
    refine (stat_add p B cs 1 1 _ h1).mono ?_
    rintro e w1 ⟨rfl, h2, hb2, ho2, _⟩
    go_wp2_with fail
    go_end0
    exact ⟨rfl, h2, hb1.trans hb2, ho1.trans ho2⟩
  rw [if_neg e5]
  go_enter Try.func32, Try.ntmps32
  go_wp2_with fail
  go_end0
  exact ⟨rfl, h1, hb1, ho1⟩

theorem getAt_nat (cs : List Int) (k : Nat) (hk : k < 9) : getAt cs k = cs[k]?.getD 0 := if_pos ⟨by omega, by omega⟩

theorem take_snocS {cs : List Int} {k : Nat} (hk : k < cs.length) : intsS (cs.take (k + 1)) = intsS (cs.take k) ++ [.int .i64 (cs[k]?.getD 0)] := by
  unfold intsS
  rw [List.take_succ_eq_append_getElem hk, List.map_append]
  simp [hk]

set_option maxRecDepth 100000 in
set_option maxHeartbeats 1000000 in
theorem stat_all (p B : Nat) (cs : List Int) (w : World) (h : IsMeter w p B cs) :
    Calls Try.prog 34 #[.pointer (some ⟨p, 0, none⟩)] w fun e w' => ∃ v, e = .returned v ∧ w'.ownsRow w.heap.size 3 1 v 9 (intsS cs) ∧ Below w.heap.size w w' := by
  obtain ⟨i0, hi, hz0, hz1, hz2⟩ := info_parts stat_info_int
  have hl := h.2.1
  go_enter Try.func34, Try.ntmps34
  go_wp2_with fail
  go_loopw [5, 3] (fun i v wr => ∃ k : Nat, k ≤ 9 ∧ i = .int .i64 k ∧ wr.ownsRow w.heap.size 3 1 v k (intsS (cs.take k)) ∧ Below w.heap.size w wr) (fun i _ _ => 9 - (intOf i).toNat)
  case atStart => exact ⟨0, by omega, rfl, by simpa [intsS] using World.ownsRow_nil _ _ _ _, Below.refl _ _⟩
  case round =>
    obtain ⟨k, hk, rfl, hown, hb⟩ := hrel
    by_cases hlt : k < 9
    · have hm : IsMeter wr p B cs := h.below hb (Nat.le_refl _)
      have hs := hb.size
      have hsn := take_snocS (cs := cs) (k := k) (by omega)
      have hg := getAt_nat cs k hlt
      have Hs := Lib.hid hsn
      have Hg := Lib.hid hg
      clear hsn hg
      go_wp2_with fail
      refine (stat_get p B cs k _ hm).mono ?_
      rintro e w1 ⟨rfl, rfl⟩
      go_wp2_with (at_builtin; refine wpList_append_own _ rfl (.tmp 8) (.tmp 12) 34 rfl w.heap.size 3 i0 (.int .i64 0) 1 8 Try.underlying34 hi hz0 hz1 hz2 rfl (by decide) _ _ _ rfl (hown.alloc _) ⟨wr.heap.size, 0, none⟩ 1 1 [.int .i64 (getAt cs k)] rfl rfl ?c1 ?c2 ?c3 ?c4 ?c5 ?_)
      case c1 => exact cell_one_new _ _ _
      case c2 => simp [Value.oneCell']
      case c3 => unfold maxLen; omega
      case c4 => omega
      case c5 => simp; omega
      intro v' w1 hown' hgrow _
      have hb' : Below w.heap.size w w1 := (hb.alloc hs _).grown hgrow (by simp; omega) (fun j hj => (hown.lt j hj).1)
      clear hgrow
      go_wp2
      go_roundw
      case rel => exact ⟨k + 1, by omega, by go_num, by rw [Hs.out, ← Hg.out]; exact hown', hb'⟩
      case measure => simp [intOf]; omega
    · obtain rfl : k = 9 := by omega
      have ht : cs.take 9 = cs := List.take_of_length_le (by omega)
      rw [ht] at hown
      go_wp2
      go_ret
      exact ⟨_, rfl, hown, hb⟩

def statNames : List (List UInt8) := [[116, 97, 107, 101, 110], [114, 101, 102, 117, 115, 101, 100], [116, 111, 107, 101, 110, 115], [115, 116, 111, 112, 112, 101, 100], [108, 101, 110, 103, 116, 104], [99, 97, 110, 99, 101, 108, 108, 101, 100], [115, 116, 101, 112, 115], [112, 105, 99, 107, 115], [112, 97, 103, 101, 115]]
/-- what Name tells -/
def statName (k : Int) : List UInt8 := if 0 ≤ k ∧ k < 9 then statNames[k.toNat]?.getD [] else []

set_option maxHeartbeats 2000000 in
theorem stat_name (k : Int) (w : World) :
    Calls Try.prog 36 #[.int .i64 k] w fun e w' => e = .returned (.string ⟨(statName k).toArray⟩) ∧ Below w.heap.size w w' := by
  by_cases hk : 0 ≤ k ∧ k < 9
  · have hc : k = 0 ∨ k = 1 ∨ k = 2 ∨ k = 3 ∨ k = 4 ∨ k = 5 ∨ k = 6 ∨ k = 7 ∨ k = 8 := by omega
    clear hk
    rcases hc with rfl | rfl | rfl | rfl | rfl | rfl | rfl | rfl | rfl
    all_goals
      go_enter Try.func36, Try.ntmps36
      go_wp2
      go_ret
      exact ⟨rfl, (Below.refl _ _).alloc (Nat.le_refl _) _⟩
  · have e : statName k = [] := if_neg hk
    rw [e]
    have hk' : k < 0 ∨ 9 ≤ k := by omega
    clear hk e
    rcases hk' with hk | hk
    · go_enter Try.func36, Try.ntmps36
      go_wp2
      go_ret
      exact ⟨rfl, (Below.refl _ _).alloc (Nat.le_refl _) _⟩
    · have hk0 : ¬ k < 0 := by omega
      go_enter Try.func36, Try.ntmps36
      go_wp2
      go_ret
      exact ⟨rfl, (Below.refl _ _).alloc (Nat.le_refl _) _⟩

end Go.Proofs.Ytfffncaonpokpaa
