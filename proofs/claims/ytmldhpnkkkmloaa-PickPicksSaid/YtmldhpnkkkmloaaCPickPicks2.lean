/- Of any scores, by any params, at any index, just that place is picked that the document says, or it is refused; it is a kept one. (part 2: functions of the program as plain functions, and what is shown of them.) Conditions: as each theorem states; the last one has none. -/
import Derived.Test.YtmldhpnkkkmloaaWFour
import Derived.Test.YtmldhpnkkkmloaaShelf
import Derived.Deep.OwnRows
import Derived.Test.YtmldhpnkkkmloaaCPickPicks1
namespace Go.Proofs.Ytmldhpnkkkmloaa.SortW
open Go.Sort Go.RowKit Go.Proofs Go.Proofs.Ytmldhpnkkkmloaa.SortM
set_option linter.unusedVariables false
set_option linter.unusedSimpArgs false

def Stabled (w0 : World) (blk off : Nat) (Rel : Int → Int → Prop) (l0 : List Int) (e : Ending) (w' : World) : Prop :=
  e = .returned (.tuple #[]) ∧ ∃ M, M.Perm l0 ∧ M.Pairwise Rel ∧ SL w0 blk off M w'

theorem mem_flat {D : List (List Int)} {B : List Int} (h : B ∈ D) : ∀ x ∈ B, x ∈ D.flatten := fun x hx => List.mem_flatten.2 ⟨B, h, hx⟩

set_option maxHeartbeats 8000000 in
set_option maxRecDepth 100000 in
theorem stable_any (blk off cap N : Nat) (w0 : World) (d0 : Array Int) (bx : Addr) (cf : Int → Int → Int) (ok : Int → Prop) (Rel : Int → Int → Prop) (hO : Ord Rel) (R : Row1 enc w0 blk off d0) (hd0 : d0.size = N) (hN : N ≤ 1000000) (hC : CmpAt w0 blk off N bx cf ok)
    (l0 : List Int) (w : World) (hl : l0.length = N) (hX : l0.Pairwise (Cmp2 cf Rel)) (hk : ∀ y ∈ l0, ok y) (S : SL w0 blk off l0 w) :
    Calls Try.prog 40 #[.slice (some ⟨blk, off, none⟩) N cap, .int .i64 N, .func (.func 26) #[] #[.pointer (some bx)]] w (Stabled w0 blk off Rel l0) := by
  have S0 : Aside (SL w0 blk off l0 w) := S
  clear S
  have b5 : (N : Int) ≤ 1000000 := by omega
  have G : Aside (Ord Rel ∧ Row1 enc w0 blk off d0 ∧ d0.size = N ∧ CmpAt w0 blk off N bx cf ok ∧ l0.Pairwise (Cmp2 cf Rel) ∧ (∀ y ∈ l0, ok y) ∧ l0.length = N) := ⟨hO, R, hd0, hC, hX, hk, hl⟩
  have INS : Aside (∀ (pre L post : List Int) (a b : Int) (w : World), a = pre.length → b = pre.length + L.length → pre.length + L.length + post.length = N → L.Pairwise (Cmp2 cf Rel) → (∀ y ∈ L, ok y) → SL w0 blk off (pre ++ L ++ post) w →
    Calls Try.prog 50 #[.slice (some ⟨blk, off, none⟩) N cap, .int .i64 a, .int .i64 b, .func (.func 26) #[] #[.pointer (some bx)]] w (Inserted w0 blk off Rel pre L post)) :=
    fun pre L post a b w h1 h2 h3 h4 h5 h6 => insertion_any blk off cap N w0 d0 bx cf ok Rel hO R hd0 hN hC pre L post a b w h1 h2 h3 h4 h5 h6
  have SYM : Aside (∀ k, SymOK blk off cap N w0 bx cf ok Rel k) := fun k => symMerge_any blk off cap N w0 d0 bx cf ok Rel hO R hd0 hN hC k
  clear hO R hd0 hC hX hk hl
  go_enter Try.func40, Try.ntmps40
  go_wp2_with fail
  go_loopw [7, 8] (fun va vb wr => ∃ (a : Int) (D : List (List Int)) (rest : List Int), va = .int .i64 a ∧ vb = .int .i64 (a + 20) ∧ 0 ≤ a ∧ a ≤ N ∧ Aside (St1 (Cmp2 cf Rel) Rel l0 D rest ∧ (D.flatten.length : Int) = a ∧ SL w0 blk off (D.flatten ++ rest) wr)) (fun va _ _ => (N - intOf va).toNat)
  case atStart => exact ⟨0, [], l0, rfl, rfl, by omega, by omega, St1.start G.out.2.2.2.2.1, by simp, by simpa using S0.out⟩
  case round =>
    clear S0
    obtain ⟨a, D, rest, rfl, rfl, ha0, haN, S1⟩ := hrel
    have L1 : Aside ((D.flatten.length : Int) = a ∧ (rest.length : Int) = N - a) := by
      obtain ⟨s1, s2, s3⟩ := S1.out
      have := s1.perm.length_eq
      have h9 := G.out.2.2.2.2.2.2
      rw [List.length_append] at this
      exact ⟨s2, by omega⟩
    by_cases hlt : a + 20 ≤ N
    · obtain ⟨A, B, eab, lA⟩ : ∃ A B, rest = A ++ B ∧ A.length = 20 := ⟨rest.take 20, rest.drop 20, (List.take_append_drop _ _).symm, by rw [List.length_take]; have := L1.out; omega⟩
      subst eab
      have lA' : Aside (A.length = 20) := lA
      clear lA
      go_wp2_with fail
      refine (INS.out D.flatten A B _ _ _ (by have := L1.out; omega) (by have := L1.out; have := lA'.out; omega) (by have h := L1.out; rw [List.length_append] at h; omega) (List.pairwise_append.1 S1.out.1.raw).1
        (fun y hy => G.out.2.2.2.2.2.1 y (S1.out.1.perm.mem_iff.1 (by simp [hy]))) (by have := S1.out.2.2; simpa using this)).mono ?_
      rintro e w1 ⟨rfl, M, hp, hs, hS⟩
      have S2 : Aside (St1 (Cmp2 cf Rel) Rel l0 (D ++ [M]) B ∧ (((D ++ [M]).flatten.length : Nat) : Int) = a + 20 ∧ SL w0 blk off ((D ++ [M]).flatten ++ B) w1) := by
        refine ⟨S1.out.1.step lA'.out hp hs, ?_, by simpa using hS⟩
        have h1 := hp.length_eq
        have h2 := lA'.out
        have h3 := L1.out.1
        simp only [List.flatten_append, List.flatten_cons, List.flatten_nil, List.append_nil, List.length_append]
        omega
      clear S1 hp hs hS
      go_wp2_with fail
      go_roundw
      case rel => exact ⟨a + 20, D ++ [M], B, rfl, rfl, by omega, by omega, S2.out⟩
      case measure => simp [intOf]; omega
    · go_wp2_with fail
      refine (INS.out D.flatten rest [] _ _ _ (by have := L1.out; omega) (by have := L1.out; omega) (by have h := L1.out; show D.flatten.length + rest.length + 0 = N; omega) S1.out.1.raw
        (fun y hy => G.out.2.2.2.2.2.1 y (S1.out.1.perm.mem_iff.1 (by simp [hy]))) (by have := S1.out.2.2; simpa using this)).mono ?_
      rintro e w1 ⟨rfl, M, hp, hs, hS⟩
      have S2 : Aside (St2 (Cmp2 cf Rel) Rel l0 20 [] D M ∧ SL w0 blk off (D.flatten ++ M) w1) := ⟨S1.out.1.done (by have := L1.out; omega) hp hs, by simpa using hS⟩
      clear S1 L1 hp hs hS hlt ha0 haN
      go_wp2_with fail
      go_loopw [6] (fun vs wr => ∃ (bs : Nat) (E : List (List Int)) (last : List Int), vs = .int .i64 bs ∧ 20 ≤ bs ∧ bs ≤ 2000000 ∧ Aside (St2 (Cmp2 cf Rel) Rel l0 bs [] E last ∧ SL w0 blk off (E.flatten ++ last) wr)) (fun vs _ => (N - intOf vs).toNat)
      case atStart => exact ⟨20, D, M, rfl, by omega, by omega, S2.out⟩
      case round =>
        clear S2
        obtain ⟨bs, E0, last0, rfl, hb1, hb2, S3⟩ := hrel
        have hb1z : (20 : Int) ≤ (bs : Int) := by omega
        have hb2z : (bs : Int) ≤ 2000000 := by omega
        by_cases hbn : bs < N
        · have hbnz : (bs : Int) < (N : Int) := by omega
          go_wp2_with fail
          go_loopw [7, 8] (fun va vb wr => ∃ (a : Int) (D E : List (List Int)) (last : List Int), va = .int .i64 a ∧ vb = .int .i64 (a + 2 * bs) ∧ 0 ≤ a ∧ a ≤ N ∧ Aside (St2 (Cmp2 cf Rel) Rel l0 bs D E last ∧ (D.flatten.length : Int) = a ∧ SL w0 blk off (D.flatten ++ E.flatten ++ last) wr)) (fun va _ _ => (N - intOf va).toNat)
          case atStart => exact ⟨0, [], E0, last0, rfl, by go_num, by omega, by omega, S3.out.1, by simp, by have := S3.out.2; simpa using this⟩
          case round =>
            clear S3
            obtain ⟨a, D, E, last, rfl, rfl, ha0, haN, S4⟩ := hrel
            have L1 : Aside ((D.flatten.length : Int) = a ∧ E.flatten.length = E.length * bs ∧ ((E.length * bs : Nat) : Int) + last.length = N - a ∧ last.length < bs) := by
              obtain ⟨s1, s2, s3⟩ := S4.out
              have h1 := s1.perm.length_eq
              have h2 := flat_len s1.lenE
              have h9 := G.out.2.2.2.2.2.2
              rw [List.length_append, List.length_append] at h1
              exact ⟨s2, h2, by omega, s1.lenL⟩
            by_cases hlt : a + 2 * (bs : Int) ≤ N
            · obtain ⟨A, B, E', e'⟩ : ∃ A B E', E = A :: B :: E' := by
                have h := many (n := E.length) (bs := bs) (x := last.length) (by have := L1.out; omega) L1.out.2.2.2
                match E, h with
                | A :: B :: E', _ => exact ⟨A, B, E', rfl⟩
              subst e'
              have L2 : Aside (A.length = bs ∧ B.length = bs ∧ D.flatten.length + A.length + B.length + (E'.flatten ++ last).length = N) := by
                obtain ⟨s1, s2, s3⟩ := S4.out
                have h1 := s1.perm.length_eq
                have h9 := G.out.2.2.2.2.2.2
                refine ⟨s1.lenE A (by simp), s1.lenE B (by simp), ?_⟩
                rw [← h9, ← h1]
                simp only [List.flatten_cons, List.length_append]
                omega
              go_wp2_with fail
              refine (SYM.out _ D.flatten A B (E'.flatten ++ last) _ _ _ _ (Nat.lt_succ_self _) (by have := L1.out; omega) (by have := L1.out; have := L2.out; omega) (by have := L1.out; have := L2.out; omega) (by have := L2.out; omega) (by have := L2.out; omega) L2.out.2.2
                (S4.out.1.srtE A (by simp)) (S4.out.1.srtE B (by simp)) (cr_pair (C := Cmp2 cf Rel) (D := D) (E := E' ++ [last]) (by have := S4.out.1.cr; simpa using this)) (fun y hy => G.out.2.2.2.2.2.1 y (S4.out.1.perm.mem_iff.1 (by rcases List.mem_append.1 hy with h | h <;> simp [h]))) (by have := S4.out.2.2; simpa using this)).mono ?_
              rintro e w2 ⟨rfl, M2, hp, hs, hS⟩
              have S5 : Aside (St2 (Cmp2 cf Rel) Rel l0 bs (D ++ [M2]) E' last ∧ (((D ++ [M2]).flatten.length : Nat) : Int) = a + 2 * bs ∧ SL w0 blk off ((D ++ [M2]).flatten ++ E'.flatten ++ last) w2) := by
                refine ⟨S4.out.1.step hp hs, ?_, by simpa using hS⟩
                have h1 := hp.length_eq
                have h2 := L2.out
                have h3 := L1.out.1
                rw [List.length_append] at h1
                simp only [List.flatten_append, List.flatten_cons, List.flatten_nil, List.append_nil, List.length_append]
                omega
              clear S4 hp hs hS
              go_wp2_with fail
              go_roundw
              case rel => exact ⟨a + 2 * bs, D ++ [M2], E', last, rfl, rfl, by omega, by omega, S5.out⟩
              case measure => simp [intOf]; omega
            · have hfew : E.length = 0 ∨ E.length = 1 := few (n := E.length) (bs := bs) (x := last.length) (by have := L1.out; omega)
              have HF : Aside (E.length = 0 ∨ E.length = 1) := hfew
              clear hfew
              by_cases hm : a + bs < N
              · obtain ⟨B, eB⟩ : ∃ B, E = [B] := by
                  rcases HF.out with h | h
                  · exfalso
                    have h1 := L1.out.2.2
                    rw [h] at h1
                    simp at h1
                    omega
                  · exact List.length_eq_one_iff.1 h
                subst eB
                have L2 : Aside (B.length = bs ∧ D.flatten.length + B.length + last.length = N ∧ 0 < last.length) := by
                  obtain ⟨s1, s2, s3⟩ := S4.out
                  have h1 := s1.perm.length_eq
                  have h9 := G.out.2.2.2.2.2.2
                  have h3 := s1.lenE B (by simp)
                  simp only [List.flatten_cons, List.flatten_nil, List.append_nil, List.length_append] at h1
                  exact ⟨h3, by omega, by omega⟩
                go_wp2_with fail
                refine (SYM.out _ D.flatten B last [] _ _ _ _ (Nat.lt_succ_self _) (by have := L1.out; omega) (by have := L1.out; have := L2.out; omega) (by have := L1.out; have := L2.out; omega) (by have := L2.out; omega) (by have := L2.out; omega) (by have := L2.out; show D.flatten.length + B.length + last.length + 0 = N; omega)
                  (S4.out.1.srtE B (by simp)) S4.out.1.srtL (cr_pair (C := Cmp2 cf Rel) (D := D) (E := []) (by have := S4.out.1.cr; simpa using this)) (fun y hy => G.out.2.2.2.2.2.1 y (S4.out.1.perm.mem_iff.1 (by rcases List.mem_append.1 hy with h | h <;> simp [h]))) (by have := S4.out.2.2; simpa using this)).mono ?_
                rintro e w2 ⟨rfl, M2, hp, hs, hS⟩
                have S5 : Aside (St2 (Cmp2 cf Rel) Rel l0 (2 * bs) [] D M2 ∧ SL w0 blk off (D.flatten ++ M2) w2) :=
                  ⟨S4.out.1.double (by have := L1.out; omega) (by simpa using hp) hs, by simpa using hS⟩
                clear S4 hp hs hS
                go_wp2_with fail
                go_roundw
                case rel => exact ⟨2 * bs, D, M2, by go_num, by omega, by omega, S5.out⟩
                case measure => simp [intOf]; omega
              · have S5 : Aside (St2 (Cmp2 cf Rel) Rel l0 (2 * bs) [] D (E.flatten ++ last) ∧ SL w0 blk off (D.flatten ++ (E.flatten ++ last)) wr) := by
                  obtain ⟨s1, s2, s3⟩ := S4.out
                  refine ⟨s1.double (by have := L1.out; omega) (List.Perm.refl _) ?_, by simpa using s3⟩
                  rcases HF.out with h | h
                  · have : E = [] := List.length_eq_zero_iff.1 h
                    subst this
                    simpa using s1.srtL
                  · obtain ⟨B, rfl⟩ := List.length_eq_one_iff.1 h
                    have : last = [] := List.length_eq_zero_iff.1 (by have := L1.out; simp at this; omega)
                    subst this
                    simpa using s1.srtE B (by simp)
                clear S4
                go_wp2_with fail
                go_roundw
                case rel => exact ⟨2 * bs, D, E.flatten ++ last, by go_num, by omega, by omega, S5.out⟩
                case measure => simp [intOf]; omega
        · have hbnz : ¬ (bs : Int) < (N : Int) := by omega
          go_wp2_with fail
          go_end0
          obtain ⟨q1, q2⟩ := S3.out.1.fin (by have := G.out.2.2.2.2.2.2; omega)
          exact ⟨rfl, _, q1, q2, S3.out.2⟩

set_option maxHeartbeats 4000000 in
theorem sortStable_any (blk off cap N : Nat) (w0 : World) (d0 : Array Int) (bx : Addr) (cf : Int → Int → Int) (ok : Int → Prop) (Rel : Int → Int → Prop) (hO : Ord Rel) (R : Row1 enc w0 blk off d0) (hd0 : d0.size = N) (hN : N ≤ 1000000) (hC : CmpAt w0 blk off N bx cf ok)
    (l0 : List Int) (w : World) (hl : l0.length = N) (hX : l0.Pairwise (Cmp2 cf Rel)) (hk : ∀ y ∈ l0, ok y) (S : SL w0 blk off l0 w) :
    Calls Try.prog 25 #[.slice (some ⟨blk, off, none⟩) N cap, .func (.func 26) #[] #[.pointer (some bx)]] w (Stabled w0 blk off Rel l0) := by
  have H := stable_any blk off cap N w0 d0 bx cf ok Rel hO R hd0 hN hC l0 w hl hX hk S
  have HH : Aside (Calls Try.prog 40 #[.slice (some ⟨blk, off, none⟩) N cap, .int .i64 N, .func (.func 26) #[] #[.pointer (some bx)]] w (Stabled w0 blk off Rel l0)) := H
  clear H hO R hd0 hC hX hk hl S
  go_enter Try.func25, Try.ntmps25
  go_wp2_with fail
  refine HH.out.mono ?_
  rintro e w' ⟨rfl, hM⟩
  have HM : Aside (∃ M : List Int, M.Perm l0 ∧ M.Pairwise Rel ∧ SL w0 blk off M w') := hM
  clear hM
  go_wp2_with fail
  go_end0
  exact ⟨rfl, HM.out⟩
end Go.Proofs.Ytmldhpnkkkmloaa.SortW

namespace Go.Proofs.Ytmldhpnkkkmloaa.KeptW
open Go.Sort Go.RowKit Go.Proofs Go.Proofs.Ytmldhpnkkkmloaa.SortM Go.Proofs.Ytmldhpnkkkmloaa.SortW Go.Proofs.YtmldhpnkkkmloaaW.PrintWords
set_option linter.unusedVariables false
set_option linter.unusedSimpArgs false

def cmpv (x y : Int) : Int := if x < y then -1 else if y < x then 1 else 0
theorem cmpv_neg (x y : Int) : cmpv x y < 0 ↔ x < y := by unfold cmpv; split <;> (try split) <;> omega

theorem cmp32 (x y : Int) (w : World) : Calls Try.prog 27 #[.int .i32 x, .int .i32 y] w fun e w' => e = .returned (.int .i64 (cmpv x y)) ∧ w' = w := by
  by_cases h1 : x < y
  · have e1 : cmpv x y = -1 := if_pos h1
    have E1 : Hid (cmpv x y = -1) := e1
    clear e1
    have h1b : decide (x < y) = true := decide_eq_true h1
    go_enter Try.func27, Try.ntmps27
    go_wp2
    go_ret
    exact ⟨by rw [E1.out]; rfl, rfl⟩
  · have h1b : decide (x < y) = false := decide_eq_false h1
    by_cases h2 : y < x
    · have e1 : cmpv x y = 1 := by unfold cmpv; rw [if_neg h1, if_pos h2]
      have E1 : Hid (cmpv x y = 1) := e1
      clear e1
      have h2b : decide (y < x) = true := decide_eq_true h2
      go_enter Try.func27, Try.ntmps27
      go_wp2
      go_ret
      exact ⟨by rw [E1.out]; rfl, rfl⟩
    · have e1 : cmpv x y = 0 := by unfold cmpv; rw [if_neg h1, if_neg h2]
      have E1 : Hid (cmpv x y = 0) := e1
      clear e1
      have h2b : decide (y < x) = false := decide_eq_false h2
      go_enter Try.func27, Try.ntmps27
      go_wp2
      go_ret
      exact ⟨by rw [E1.out]; rfl, rfl⟩

set_option maxHeartbeats 2000000 in
theorem closure (bx : Nat) (A0 : Option Addr) (c0 : Nat) (l0 : List Int) (W : World) (hb : W.cell? ⟨bx, 0, none⟩ = some (.slice A0 l0.length c0)) (hr : Kd.C (Kd.int .i32) W A0 l0.length l0) (x y : Int)
    (hx : 0 ≤ x ∧ x < l0.length) (hy : 0 ≤ y ∧ y < l0.length) (hn : l0.length ≤ 1000000) :
    Calls Try.prog 26 #[.int .i64 x, .int .i64 y, .pointer (some ⟨bx, 0, none⟩)] W fun e w' => e = .returned (.int .i64 (cmpv (rd l0 y) (rd l0 x))) ∧ ∃ q, w' = W.drewN q := by
  obtain ⟨ad, rfl, h1⟩ := Kd.at_int hr x hx.1 hx.2
  obtain ⟨ad', e2, h2⟩ := Kd.at_int hr y hy.1 hy.2
  obtain rfl : ad = ad' := by injection e2
  clear e2 hr
  obtain ⟨hx1, hx2⟩ := hx
  obtain ⟨hy1, hy2⟩ := hy
  generalize rd l0 x = u at h1 ⊢
  generalize rd l0 y = v at h2 ⊢
  generalize l0.length = n at hb hx2 hy2 hn
  go_enter Try.func26, Try.ntmps26
  go_wp2_with fail
  go_quiet ((go_at_call 27; exact Calls.quiet_of_same (cmp32 _ _ _)))
  go_wp2_with fail
  go_ret
  exact ⟨rfl, _, rfl⟩

/-! ### a row of the sort's, seen from below -/
theorem SW_blk {w0 W : World} {blk off : Nat} {dk : Array Int} (h : SW enc w0 blk off dk W) {k : Nat} (hk : k < w0.heap.size) (hne : k ≠ blk) : W.heap[k]? = w0.heap[k]? := by
  obtain ⟨n, os, rfl⟩ := h
  unfold sortWorld
  rw [heap_grow_old _ _ (by rw [Sort.size_putRow]; exact hk)]
  unfold putRow mapBlock
  simp [Array.getElem?_modify, Ne.symm hne]
theorem SW_below {w0 W : World} {blk off B : Nat} {dk : Array Int} (h : SW enc w0 blk off dk W) (hB : B ≤ w0.heap.size) (hb : B ≤ blk) : Below B w0 W := by
  have h1 : ∀ k, k < B → W.heap[k]? = w0.heap[k]? := fun k hk => SW_blk h (by omega) (by omega)
  have h2 := h.le
  obtain ⟨n, os, rfl⟩ := h
  exact ⟨rfl, rfl, rfl, h2, h1⟩
/-- The row's block itself: its cells alone have turned. -/
theorem SW_own {w0 W : World} {blk : Nat} {dk : Array Int} {c0 : Array Value} {e : TypeId} (h : SW enc w0 blk 0 dk W) (hb : w0.heap[blk]? = some (.cells c0 e (0, 0))) (hc : c0.size = dk.size) :
    ∃ c, W.heap[blk]? = some (.cells c e (0, 0)) ∧ c.size = dk.size := by
  obtain ⟨n, os, rfl⟩ := h
  have hlt : blk < w0.heap.size := by obtain ⟨h, _⟩ := Array.getElem?_eq_some_iff.1 hb; exact h
  unfold sortWorld
  rw [heap_grow_old _ _ (by rw [Sort.size_putRow]; exact hlt)]
  refine ⟨putCells enc 0 dk c0, ?_, by unfold putCells; simpa using hc⟩
  unfold putRow mapBlock
  simp [Array.getElem?_modify, hb, onCells]

def Kept_ (r : List Int) (w : World) (e : Ending) (w' : World) : Prop := ∃ v0_ : Value, e = .returned v0_ ∧ Kd.R (Kd.int .i64) 3 w' w.heap.size (fun _ => True) v0_ r ∧ Below w.heap.size w w'

theorem encs_eq (xs : List Int) : encs (Value.int .i64) xs = xs.map (Value.int .i64) := rfl

/-- A row of the call's own, as the print tells it. -/
theorem R_row {w' : World} {base blk cap : Nat} {c : Array Value} {xs : List Int} (hb : base ≤ blk) (hc : w'.heap[blk]? = some (.cells c 3 (0, 0))) (hs : c.size = cap) (hn : xs.length ≤ cap) (hm : cap ≤ maxLen)
    (hx : ∀ i, i < xs.length → c[i]? = some (.int .i64 (xs.getD i 0))) : Kd.R (Kd.int .i64) 3 w' base (fun _ => True) (.slice (some ⟨blk, 0, none⟩) xs.length cap) xs := by
  refine Kd.R_of_own ⟨by simp [encs_eq], .inr ⟨blk, cap, c, rfl, hb, hc, hn, hm, by omega, ?_⟩⟩ (fun _ _ => trivial)
  apply List.ext_getElem?
  intro i
  rw [encs_eq]
  by_cases hi : i < xs.length
  · rw [List.getElem?_take_of_lt (by omega), Array.getElem?_toList, hx i hi]
    simp [hi]
  · rw [List.getElem?_eq_none (by simp; omega), List.getElem?_eq_none (by simp; omega)]

/-- What Kept hands back. -/
def pk (l0 : List Int) (a1 : Int) : List Int := if a1 = 0 ∨ (l0.length : Int) ≤ a1 then iota l0.length else keptOf l0 a1.toNat

set_option maxHeartbeats 8000000 in
set_option maxRecDepth 100000 in
theorem kept_any (A0 : Option Addr) (c0 : Nat) (l0 : List Int) (a1 : Int) (w : World) (hr0 : Kd.C (Kd.int .i32) w A0 l0.length l0) (hc0 : l0.length ≤ c0) (hn : l0.length ≤ 1000000) (ha1 : 0 ≤ a1) :
    Calls Try.prog 14 #[.slice A0 l0.length c0, .int .i64 a1] w (Kept_ (pk l0 a1) w) := by
  have HR0 : Aside (Kd.C (Kd.int .i32) w A0 l0.length l0) := hr0
  have HL : Aside (l0.length ≤ 1000000) := hn
  obtain ⟨n, hnl⟩ : ∃ n, n = l0.length := ⟨_, rfl⟩
  have hmk := run_make_row' (P := Try.prog) 34 3 (.int .i64 0) 8 Try.underlying34 (by kernel_rfl) rfl .i64 .i64 n (by omega) (by omega)
  have hn' : (n : Int) ≤ 1000000 := by omega
  rw [← hnl]
  have HN : Aside (n = l0.length) := hnl
  clear hnl hr0 hn
  go_enter Try.func14, Try.ntmps14
  go_wp2_with fail
  clear hmk
  go_loopw [13, 6] (fun vi _ wr => ∃ k : Nat, vi = .int .i64 k ∧ k ≤ n ∧ Aside (wr.rowIs (w.heap.size + 1) 3 n (fun j => .int .i64 (if j < k then (j : Int) else 0)) ∧ Below w.heap.size w wr ∧ wr.cell? ⟨w.heap.size, 0, none⟩ = some (.slice A0 n c0))) (fun vi _ _ => n - (intOf vi).toNat)
  case atStart =>
    refine ⟨0, rfl, Nat.zero_le _, ?_, ?_, ?_⟩
    · have := World.rowIs_made (w.alloc (.cells #[.slice A0 n c0] 22)) (.int .i64 0) n 3
      simpa using this
    · exact ((Below.refl _ _).alloc (Nat.le_refl _) _).alloc (by simp) _
    · simp
  case round =>
    obtain ⟨k, rfl, hk, S1⟩ := hrel
    by_cases hlt : k < n
    · have c1 := S1.out.1.cell hlt
      have f1 := S1.out.1.frozen k
      generalize (if k < k then (k : Int) else 0) = z at c1
      have hltz : (k : Int) < (n : Int) := by omega
      go_wp2_with fail
      go_roundw
      case rel =>
        refine ⟨k + 1, by go_num, by omega, ?_, ?_, ?_⟩
        · refine (S1.out.1.set k (.int .i64 k)).congr ?_
          intro i hi
          by_cases e : i = k
          · subst e; simp
          · rw [if_neg e]; by_cases h2 : i < k
            · rw [if_pos h2, if_pos (by omega)]
            · rw [if_neg h2, if_neg (by omega)]
        · exact S1.out.2.1.setCell (by simp) _
        · rw [World.cell?_setCell_other _ _ _ _ (by intro e; simp only [Addr.mk.injEq] at e; omega)]; exact S1.out.2.2
      case measure => simp [intOf]; omega
    · obtain rfl : k = n := by omega
      have S2 : Aside (wr.rowIs (w.heap.size + 1) 3 k (fun j => .int .i64 (j : Int)) ∧ Below w.heap.size w wr ∧ wr.cell? ⟨w.heap.size, 0, none⟩ = some (.slice A0 k c0)) :=
        ⟨S1.out.1.congr (fun i hi => by rw [if_pos hi]), S1.out.2.1, S1.out.2.2⟩
      clear S1 hlt hk
      have W1 : Aside (∃ c : Array Value, wr.heap[w.heap.size + 1]? = some (.cells c 3 (0, 0)) ∧ c.size = k ∧ ∀ i, i < k → c[i]? = some (.int .i64 (i : Int))) := S2.out.1
      have ALL : Aside (∀ wx, wx = wr → ∃ v0_ : Value, (.slice (some ⟨w.heap.size + 1, 0, none⟩) k k : Value) = v0_ ∧ Kd.R (Kd.int .i64) 3 wx w.heap.size (fun _ => True) v0_ (iota l0.length) ∧ Below w.heap.size w wx) := by
        rintro wx rfl
        obtain ⟨c, hc, hs, hx⟩ := W1.out
        refine ⟨_, rfl, ?_, S2.out.2.1⟩
        have h := R_row (w' := wx) (base := w.heap.size) (blk := w.heap.size + 1) (cap := k) (c := c) (xs := iota l0.length) (by omega) hc hs (by rw [iota_length, ← HN.out]; exact Nat.le_refl _) (by unfold maxLen; omega)
          (fun i hi => by rw [iota_length, ← HN.out] at hi; rw [hx i hi]; congr 2; have := iota_at (n := l0.length) i (by rw [← HN.out]; exact hi); rw [List.getElem!_eq_getElem?_getD] at this; rw [List.getD_eq_getElem?_getD]; exact this.symm)
        rw [iota_length, ← HN.out] at h
        rw [← HN.out]
        exact h
      by_cases hz : a1 = 0
      · have PK : Aside (pk l0 a1 = iota l0.length) := if_pos (.inl hz)
        subst hz
        go_wp2_with fail
        go_ret
        obtain ⟨v0_, e, hR, hB⟩ := ALL.out _ rfl
        exact ⟨v0_, by rw [← e]; rfl, by rw [PK.out]; exact hR, hB⟩
      · by_cases hge : (k : Int) ≤ a1
        · have PK : Aside (pk l0 a1 = iota l0.length) := if_pos (.inr (by rw [← HN.out]; exact hge))
          go_wp2_with fail
          go_ret
          obtain ⟨v0_, e, hR, hB⟩ := ALL.out _ rfl
          exact ⟨v0_, by rw [← e]; rfl, by rw [PK.out]; exact hR, hB⟩
        · obtain ⟨t, rfl⟩ : ∃ t : Nat, a1 = (t : Int) := ⟨a1.toNat, by omega⟩
          have PK : Aside (pk l0 (t : Int) = keptOf l0 t) := by
            show pk l0 (t : Int) = _
            unfold pk
            rw [if_neg (by rw [← HN.out]; omega), Int.toNat_natCast]
          clear ALL
          have T : Aside (0 < t ∧ t < k) := ⟨by omega, by omega⟩
          have hIl : Aside ((iota k).length = k ∧ (iota k).toArray.size = k) := ⟨iota_length k, by simp [iota_length]⟩
          have HH : Aside (Holds enc wr (w.heap.size + 1) 0 (iota k).toArray ∧ w.heap.size + 1 < wr.heap.size) := by
            refine ⟨fun j hj => ?_, S2.out.1.lt⟩
            have hj' : j < k := by have := hIl.out.2; omega
            rw [Nat.zero_add]
            exact ⟨by rw [S2.out.1.cell hj']; congr 2; have := iota_at (n := k) j hj'; simp only [List.getElem!_toArray]; exact this.symm, S2.out.1.frozen j⟩
          have HC : Aside (CmpAt wr (w.heap.size + 1) 0 k ⟨w.heap.size, 0, none⟩ (fun x y => cmpv (rd l0 y) (rd l0 x)) (fun x => 0 ≤ x ∧ x < (l0.length : Int))) := by
            intro l W hl hS x y hx hy
            have hB : Below w.heap.size w W := S2.out.2.1.trans (SW_below hS (by have := S2.out.2.1.size; omega) (by omega))
            have hb : W.cell? ⟨w.heap.size, 0, none⟩ = some (.slice A0 k c0) := by
              rw [World.cell?_of_block (w := wr) (SW_blk hS (by have := HH.out.2; show w.heap.size < _; omega) (by show w.heap.size ≠ _; omega))]
              exact S2.out.2.2
            rw [HN.out] at hb
            exact closure w.heap.size A0 c0 l0 W hb (Kd.C_below HR0.out hB) x y hx hy HL.out
          go_wp2_with fail
          refine (sortStable_any (w.heap.size + 1) 0 k k wr (iota k).toArray ⟨w.heap.size, 0, none⟩ _ _ (Bef l0) (bef_ord l0) ⟨fun _ => rfl, HH.out.1, HH.out.2⟩ hIl.out.2 (by omega) HC.out (iota k) wr hIl.out.1 (iota_cmp l0 _ (fun x y => cmpv_neg _ _) k)
            (fun y hy => by have := mem_iota.1 hy; rw [← HN.out]; exact this) (SW.start HH.out.1)).mono ?_
          rintro e w1 ⟨rfl, hM⟩
          obtain ⟨M, hp, hs, hS⟩ := hM
          have MM : Aside (M.Perm (iota k) ∧ M.Pairwise (Bef l0) ∧ M.length = k ∧ SL wr (w.heap.size + 1) 0 M w1) := ⟨hp, hs, by rw [hp.length_eq, iota_length], hS⟩
          clear hp hs hS
          have htk : (t : Int) ≤ (k : Int) := by omega
          obtain ⟨zs, hzs⟩ : ∃ zs, zs = M.take t := ⟨_, rfl⟩
          have Z : Aside (zs = M.take t ∧ zs.length = t) := ⟨hzs, by rw [hzs, List.length_take]; have := MM.out.2.2.1; have := T.out; omega⟩
          have h1 : Holds enc w1 (w.heap.size + 1) 0 zs.toArray := by
            have h0 := MM.out.2.2.2.holds (d0 := (iota k).toArray) HH.out.2 HH.out.1 (by have := MM.out.2.2.1; have := hIl.out.2; simp at *; omega)
            intro j hj
            have hj' : j < t := by have := Z.out.2; simp at hj; omega
            obtain ⟨q1, q2⟩ := h0 j (by have := MM.out.2.2.1; have := T.out; simp; omega)
            refine ⟨?_, q2⟩
            rw [q1, hzs]
            congr 2
            simp [List.getElem?_take_of_lt hj']
          have SORT : Aside (Calls Try.prog 28 #[.slice (some ⟨w.heap.size + 1, 0, none⟩) t k] w1 fun e w' => e = .returned (.tuple #[]) ∧ SL w1 (w.heap.size + 1) 0 (keptOf l0 t) w') := by
            have h := Try.slices_Sort_int (w.heap.size + 1) 0 k zs w1 h1 (MM.out.2.2.2.lt HH.out.2) (by have := Z.out.2; have := T.out; omega)
            rw [Z.out.2] at h
            refine h.mono ?_
            rintro e w' ⟨he, q, os, hw⟩
            refine ⟨he, q, os, ?_⟩
            rw [hw, hzs, kept_eq l0 M (by rw [← HN.out]; exact MM.out.1) MM.out.2.1 t]
            rfl
          have KL : Aside ((keptOf l0 t).length = t) := by
            show _ = _
            rw [kept_length l0 t ⟨M, by rw [← HN.out]; exact MM.out.1, MM.out.2.1⟩, ← HN.out]
            have := T.out; omega
          have H1 : Aside (Holds enc w1 (w.heap.size + 1) 0 zs.toArray ∧ w.heap.size + 1 < w1.heap.size ∧ Below w.heap.size w w1) :=
            ⟨h1, MM.out.2.2.2.lt HH.out.2, S2.out.2.1.trans (SW_below MM.out.2.2.2 (by have := S2.out.2.1.size; omega) (by omega))⟩
          clear h1 hzs
          go_wp2_with fail
          refine SORT.out.mono ?_
          rintro e w2 ⟨rfl, hS⟩
          have S3 : Aside (Holds enc w2 (w.heap.size + 1) 0 (keptOf l0 t).toArray ∧ Below w.heap.size w w2) :=
            ⟨hS.holds H1.out.2.1 H1.out.1 (by have := KL.out; have := Z.out.2; simp; omega), H1.out.2.2.trans (SW_below hS (by have := H1.out.2.2.size; omega) (by omega))⟩
          clear hS
          have CL : Aside (Calls Try.prog 29 #[.slice (some ⟨w.heap.size + 1, 0, none⟩) t k] w2 fun e w' => ∃ v', e = .returned v' ∧ w'.ownsRow w2.heap.size 3 1 v' t ((keptOf l0 t).map (Value.int .i64)) ∧ Below w2.heap.size w2 w') := by
            have h := Try.slices_Clone_int (w.heap.size + 1) 0 t k (keptOf l0 t) w2 (by have := KL.out; omega) (by have := T.out; omega)
              (fun j hj => by have := (S3.out.1 j (by simpa using hj)).1; rw [this]; congr 2; simp [hj])
            refine h.mono ?_
            rintro e w' ⟨v', he, ho, _, hb⟩
            rw [List.take_of_length_le (by have := KL.out; omega)] at ho
            exact ⟨v', he, ho, hb⟩
          go_wp2_with fail
          refine CL.out.mono ?_
          rintro e w3 ⟨v', rfl, ho, hb⟩
          have FIN : Aside (Kd.R (Kd.int .i64) 3 w3 w.heap.size (fun _ => True) v' (keptOf l0 t) ∧ Below w.heap.size w w3) := by
            refine ⟨Kd.R_of_own ⟨?_, ?_⟩ (fun _ _ => trivial), S3.out.2.trans (hb.mono S3.out.2.size)⟩
            · simp [encs_eq]
            · rcases ho.2 with ⟨e1, e2⟩ | ⟨g, cap, cur, e1, e2, e3, e4, e5, e6, e7⟩
              · exact .inl ⟨e1, by have := KL.out; omega⟩
              · refine .inr ⟨g, cap, cur, by rw [KL.out]; exact e1, Nat.le_trans S3.out.2.size e2, e3, by rw [KL.out]; exact e4, e5, e6, ?_⟩
                rw [KL.out]; exact e7
          clear ho hb
          go_wp2_with fail
          go_ret
          exact ⟨v', rfl, by rw [PK.out]; exact FIN.out.1, FIN.out.2⟩
end Go.Proofs.Ytmldhpnkkkmloaa.KeptW

namespace Go.Proofs.Ytmldhpnkkkmloaa.Q
open Go.RowKit Go.Proofs.YtmldhpnkkkmloaaW.PrintWords Go.Proofs.YtmldhpnkkkmloaaW.PrintLast Go.Proofs.YtmldhpnkkkmloaaW.PrintMore
attribute [local go_sem] max2_int min2_int max_two min_two max_three min_three max_four min_four   -- for this text's walks alone
set_option linter.unusedVariables false
set_option linter.unusedSimpArgs false

/-! ### pick_Kept: function 14 -/
def pick_Kept.f (l0 : List Int) (a1 : Int) : Option (List Int) := if l0.length ≤ 1000000 ∧ 0 ≤ a1 then some (KeptW.pk l0 a1) else none
theorem pick_Kept.calls (A0 : Option Addr) (c0 : Nat) (l0 : List Int) (a1 : Int) (r : List Int) (w : World) (hr0 : Kd.C (Kd.int .i32) w A0 l0.length l0) (hc0 : l0.length ≤ c0) (h : pick_Kept.f l0 a1 = some r) :
    Calls Try.prog 14 #[.slice A0 l0.length c0, .int .i64 a1] w fun e w' => ∃ v0_ : Value, e = .returned v0_ ∧ Kd.R (Kd.int .i64) 3 w' w.heap.size (fun _ => True) v0_ r ∧ Below w.heap.size w w' := by
  unfold pick_Kept.f at h
  split at h
  · next hc =>
    obtain rfl := Option.some.inj h
    exact KeptW.kept_any A0 c0 l0 a1 w hr0 hc0 hc.1 hc.2
  · cases h

end Go.Proofs.Ytmldhpnkkkmloaa.Q

namespace Go.Proofs.Ytmldhpnkkkmloaa.Q
open Go.RowKit Go.Proofs.YtmldhpnkkkmloaaW.PrintWords Go.Proofs.YtmldhpnkkkmloaaW.PrintLast Go.Proofs.YtmldhpnkkkmloaaW.PrintMore
attribute [local go_sem] max2_int min2_int max_two min_two max_three min_three max_four min_four   -- for this text's walks alone
set_option linter.unusedVariables false
set_option linter.unusedSimpArgs false

/-! ### credenzaref20_Kept: function 12 -/
mutual
def credenzaref20_Kept.l0 : Nat → List Int → Int → List Int → Int → Option (List Int)
  | 0, _, _, _, _ => none
  | k + 1, x0, x1, x5, x6 => if x6 < (x0.length : Int) then (credenzaref20_Kept.l1 k x0 x1 x5 x6 0 0) else (some x5)
def credenzaref20_Kept.l1 : Nat → List Int → Int → List Int → Int → Int → Int → Option (List Int)
  | 0, _, _, _, _, _, _ => none
  | k + 1, x0, x1, x5, x6, x7, x8 => if x8 < (x0.length : Int) then (if 0 ≤ x8 then (if 0 ≤ x6 then (if x6 < (x0.length : Int) then (if (rd x0 x8) > (rd x0 x6) then (credenzaref20_Kept.l1 k x0 x1 x5 x6 (wrap64 (x7 + 1)) (wrap64 (x8 + 1))) else (if (rd x0 x8) = (rd x0 x6) then (if x8 < x6 then (credenzaref20_Kept.l1 k x0 x1 x5 x6 (wrap64 (x7 + 1)) (wrap64 (x8 + 1))) else (credenzaref20_Kept.l1 k x0 x1 x5 x6 x7 (wrap64 (x8 + 1)))) else (credenzaref20_Kept.l1 k x0 x1 x5 x6 x7 (wrap64 (x8 + 1))))) else (none)) else (none)) else (none)) else (if x1 = 0 then (if x5.length < 17592186044416 then (credenzaref20_Kept.l0 k x0 x1 (x5 ++ [x6]) (wrap64 (x6 + 1))) else (none)) else (if x7 < x1 then (if x5.length < 17592186044416 then (credenzaref20_Kept.l0 k x0 x1 (x5 ++ [x6]) (wrap64 (x6 + 1))) else (none)) else (credenzaref20_Kept.l0 k x0 x1 x5 (wrap64 (x6 + 1)))))
end
def credenzaref20_Kept.f (k : Nat) (l0 : List Int) (a1 : Int) : Option (List Int) := credenzaref20_Kept.l0 k l0 a1 ([] : List Int) 0
theorem credenzaref20_Kept.mono_l : ∀ k, (∀ y0 y1 y2 y3, LeO (credenzaref20_Kept.l0 k y0 y1 y2 y3) (credenzaref20_Kept.l0 (k + 1) y0 y1 y2 y3)) ∧ (∀ y0 y1 y2 y3 y4 y5, LeO (credenzaref20_Kept.l1 k y0 y1 y2 y3 y4 y5) (credenzaref20_Kept.l1 (k + 1) y0 y1 y2 y3 y4 y5))
  | 0 => ⟨fun _ _ _ _ r h => by simp [credenzaref20_Kept.l0] at h, fun _ _ _ _ _ _ r h => by simp [credenzaref20_Kept.l1] at h⟩
  | k + 1 => by
    obtain ⟨ih0, ih1⟩ := credenzaref20_Kept.mono_l k
    refine ⟨?_, ?_⟩
    · intro y0 y1 y2 y3
      unfold credenzaref20_Kept.l0
      repeat' first
      | (with_reducible exact ih0 _ _ _ _)
      | (with_reducible exact ih1 _ _ _ _ _ _)
      | (with_reducible exact LeO.refl _)
      | (with_reducible exact LeO.none _)
      | (with_reducible refine LeO.ite ?_ ?_)
      | (with_reducible refine LeO.bind ?_ (fun _ => ?_))
      | exact ih0 _ _ _ _
      | exact ih1 _ _ _ _ _ _
      | exact LeO.none _
      | refine LeO.ite ?_ ?_
      | refine LeO.bind ?_ (fun _ => ?_)
    · intro y0 y1 y2 y3 y4 y5
      unfold credenzaref20_Kept.l1
      repeat' first
      | (with_reducible exact ih0 _ _ _ _)
      | (with_reducible exact ih1 _ _ _ _ _ _)
      | (with_reducible exact LeO.refl _)
      | (with_reducible exact LeO.none _)
      | (with_reducible refine LeO.ite ?_ ?_)
      | (with_reducible refine LeO.bind ?_ (fun _ => ?_))
      | exact ih0 _ _ _ _
      | exact ih1 _ _ _ _ _ _
      | exact LeO.none _
      | refine LeO.ite ?_ ?_
      | refine LeO.bind ?_ (fun _ => ?_)
theorem credenzaref20_Kept.mono : ∀ a0 a1 k, LeO (credenzaref20_Kept.f k a0 a1) (credenzaref20_Kept.f (k + 1) a0 a1) := by
  intro a0 a1 k
  obtain ⟨ih0, ih1⟩ := credenzaref20_Kept.mono_l k
  unfold credenzaref20_Kept.f
  repeat' first
      | (with_reducible exact ih0 _ _ _ _)
      | (with_reducible exact ih1 _ _ _ _ _ _)
      | (with_reducible exact LeO.refl _)
      | (with_reducible exact LeO.none _)
      | (with_reducible refine LeO.ite ?_ ?_)
      | (with_reducible refine LeO.bind ?_ (fun _ => ?_))
      | exact ih0 _ _ _ _
      | exact ih1 _ _ _ _ _ _
      | exact LeO.none _
      | refine LeO.ite ?_ ?_
      | refine LeO.bind ?_ (fun _ => ?_)
set_option maxHeartbeats 8000000 in
set_option maxRecDepth 100000 in
theorem credenzaref20_Kept.calls (k : Nat) (A0 : Option Addr) (c0 : Nat) (l0 : List Int) (a1 : Int) (r : List Int) (w : World) (hr0 : Kd.C (Kd.int .i32) w A0 l0.length l0) (hc0 : l0.length ≤ c0) (h : credenzaref20_Kept.f k l0 a1 = some r) :
    Calls Try.prog 12 #[.slice A0 l0.length c0, .int .i64 a1] w fun e w' => ∃ v0_ : Value, e = .returned (v0_) ∧ Kd.R (Kd.int .i64) 3 w' w.heap.size (fun _ => True) v0_ r ∧ Below w.heap.size w w' := by
  have HR0 := Aside0.mk hr0
  have HC0 := Aside0.mk hc0
  clear hr0 hc0
  have HB := Aside0.mk (Below.refl w.heap.size w)
  have H : (credenzaref20_Kept.l0 k l0 a1 ([] : List Int) 0) = some r := h
  clear h
  have H' := Aside0.mk H
  clear H
  go_enter Try.func12, Try.ntmps12
  go_wp2
  repeat (go_quiet (fail); try go_wp2)
  go_loopg [5, 6] k (fun kq v5 v6 w' => ∃ (x5_1 : List Int) (x6_1 : Int), v6 = .int .i64 x6_1 ∧ Aside0 (credenzaref20_Kept.l0 kq l0 a1 x5_1 x6_1 = some r) ∧ Aside0 (kq ≤ k) ∧ Aside0 (Kd.R (Kd.int .i64) 3 w' w.heap.size (fun _ => True) v5 x5_1) ∧ Aside0 (Below w.heap.size w w'))
  case atStart => exact ⟨(([] : List Int)), (0), (by first | rfl | (simp; done) | (simp [*]; done)), H', ⟨Nat.le_refl _⟩, ⟨by first | exact Kd.R_nil _ _ _ _ _ | exact Kd.N_nil _ _ _ _ _ | exact Kd.V_nil _ _ _ _ _ | exact Kd.Q_nil _ _ _ _ _ | exact Kd.S_nil _ _ _ _ _⟩, ⟨by repeat (first | (with_reducible first | exact HB.out | apply below_alloc | apply pw_below_drewN | apply below_drew1) | exact HB.out)⟩⟩
  case round =>
    clear H'
    try clear c1
    try clear p2
    obtain ⟨x5_1, x6_1, rfl, HA, HK1, HO_5, HB⟩ := hrel
    cases gk with
    | zero => exact absurd HA.out (by simp [credenzaref20_Kept.l0])
    | succ k1 =>
      have H := HA.out
      clear HA
      simp only [credenzaref20_Kept.l0] at H
      by_cases c3 : x6_1 < (l0.length : Int)
      · rw [if_pos c3] at H
        have c3b0 : decide (x6_1 < (l0.length : Int)) = true := decide_eq_true c3
        clear c3
        have H' := Aside0.mk H
        clear H
        go_wp2
        repeat (go_quiet (fail); try go_wp2)
        go_loopg [7, 8] k1 (fun kq v7 v8 w' => ∃ (x7_2 : Int) (x8_2 : Int), v7 = .int .i64 x7_2 ∧ v8 = .int .i64 x8_2 ∧ Aside0 (credenzaref20_Kept.l1 kq l0 a1 x5_1 x6_1 x7_2 x8_2 = some r) ∧ Aside0 (kq ≤ k1) ∧ Aside0 (Kd.R (Kd.int .i64) 3 w' w.heap.size (fun _ => True) u5 x5_1) ∧ Aside0 (Below w.heap.size w w'))
        case atStart => exact ⟨(0), (0), (by first | rfl | (simp; done) | (simp [*]; done)), (by first | rfl | (simp; done) | (simp [*]; done)), H', ⟨Nat.le_refl _⟩, ⟨by (with_reducible repeat (first | apply Kd.R_alloc | apply Kd.R_drewN | apply Kd.R_drew)); exact HO_5.out⟩, ⟨by repeat (first | (with_reducible first | exact HB.out | apply below_alloc | apply pw_below_drewN | apply below_drew1) | exact HB.out)⟩⟩
        case round =>
          clear H'
          try clear c1
          try clear p2
          try clear c3
          try clear c3b0
          try clear p2
          obtain ⟨x7_2, x8_2, rfl, rfl, HA, HK2, HO_5, HB⟩ := hrel
          cases gk with
          | zero => exact absurd HA.out (by simp [credenzaref20_Kept.l1])
          | succ k2 =>
            have H := HA.out
            clear HA
            simp only [credenzaref20_Kept.l1] at H
            by_cases c4 : x8_2 < (l0.length : Int)
            · rw [if_pos c4] at H
              have c4b0 : decide (x8_2 < (l0.length : Int)) = true := decide_eq_true c4
              clear c4
              by_cases c5 : 0 ≤ x8_2
              · rw [if_pos c5] at H
                have c5b0 : decide (0 ≤ x8_2) = true := decide_eq_true c5
                clear c5
                by_cases c6 : 0 ≤ x6_1
                · rw [if_pos c6] at H
                  have c6b0 : decide (0 ≤ x6_1) = true := decide_eq_true c6
                  clear c6
                  by_cases c7 : x6_1 < (l0.length : Int)
                  · rw [if_pos c7] at H
                    have c7b0 : decide (x6_1 < (l0.length : Int)) = true := decide_eq_true c7
                    clear c7
                    by_cases c8 : (rd l0 x8_2) > (rd l0 x6_1)
                    · rw [if_pos c8] at H
                      have c8b0 : decide ((rd l0 x6_1) < (rd l0 x8_2)) = true := decide_eq_true c8
                      clear c8
                      have H' := Aside0.mk H
                      clear H
                      have p296 : 0 ≤ (x8_2 : Int) := of_decide_eq_true (by first | (with_reducible assumption) | assumption)
                      have q296 : x8_2 < (l0.length : Int) := of_decide_eq_true (by first | (with_reducible assumption) | assumption)
                      obtain ⟨ad296, e296, hx296_0⟩ := Kd.at_int HR0.out x8_2 p296 q296
                      cases e296
                      replace hx296_0 := (HB.out.cell (World.block_lt_of_cell? w _ hx296_0)).trans hx296_0
                      replace p296 := eq_true p296
                      replace q296 := eq_true q296
                      have p297 : 0 ≤ (x6_1 : Int) := of_decide_eq_true (by first | (with_reducible assumption) | assumption)
                      have q297 : x6_1 < (l0.length : Int) := of_decide_eq_true (by first | (with_reducible assumption) | assumption)
                      obtain ⟨ad297, e297, hx297_0⟩ := Kd.at_int HR0.out x6_1 p297 q297
                      obtain rfl : ad296 = ad297 := (by injection e297)
                      replace hx297_0 := (HB.out.cell (World.block_lt_of_cell? w _ hx297_0)).trans hx297_0
                      replace p297 := eq_true p297
                      replace q297 := eq_true q297
                      go_wp2
                      repeat (go_quiet (fail); try go_wp2)
                      go_roundg k2
                      case measure => have := HK1.out; have := HK2.out; omega
                      case rel => exact ⟨(wrap64 (x7_2 + 1)), (wrap64 (x8_2 + 1)), (by first | rfl | (simp; done) | (simp [*]; done)), (by first | rfl | (simp; done) | (simp [*]; done)), H', ⟨by have := HK1.out; have := HK2.out; omega⟩, ⟨by (with_reducible repeat (first | apply Kd.R_alloc | apply Kd.R_drewN | apply Kd.R_drew)); exact HO_5.out⟩, ⟨by repeat (first | (with_reducible first | exact HB.out | apply below_alloc | apply pw_below_drewN | apply below_drew1) | exact HB.out)⟩⟩
                    · rw [if_neg c8] at H
                      have c8b0 : decide ((rd l0 x6_1) < (rd l0 x8_2)) = false := decide_eq_false c8
                      clear c8
                      by_cases c9 : (rd l0 x8_2) = (rd l0 x6_1)
                      · rw [if_pos c9] at H
                        have c9b0 : ((rd l0 x8_2) == (rd l0 x6_1)) = true := beq_iff_eq.mpr c9
                        have c9b1 : ((rd l0 x8_2) != (rd l0 x6_1)) = false := bne_eq_false_iff_eq.mpr c9
                        clear c9
                        by_cases c10 : x8_2 < x6_1
                        · rw [if_pos c10] at H
                          have c10b0 : decide (x8_2 < x6_1) = true := decide_eq_true c10
                          clear c10
                          have H' := Aside0.mk H
                          clear H
                          have p296 : 0 ≤ (x8_2 : Int) := of_decide_eq_true (by first | (with_reducible assumption) | assumption)
                          have q296 : x8_2 < (l0.length : Int) := of_decide_eq_true (by first | (with_reducible assumption) | assumption)
                          obtain ⟨ad296, e296, hx296_0⟩ := Kd.at_int HR0.out x8_2 p296 q296
                          cases e296
                          replace hx296_0 := (HB.out.cell (World.block_lt_of_cell? w _ hx296_0)).trans hx296_0
                          replace p296 := eq_true p296
                          replace q296 := eq_true q296
                          have p297 : 0 ≤ (x6_1 : Int) := of_decide_eq_true (by first | (with_reducible assumption) | assumption)
                          have q297 : x6_1 < (l0.length : Int) := of_decide_eq_true (by first | (with_reducible assumption) | assumption)
                          obtain ⟨ad297, e297, hx297_0⟩ := Kd.at_int HR0.out x6_1 p297 q297
                          obtain rfl : ad296 = ad297 := (by injection e297)
                          replace hx297_0 := (HB.out.cell (World.block_lt_of_cell? w _ hx297_0)).trans hx297_0
                          replace p297 := eq_true p297
                          replace q297 := eq_true q297
                          have p298 : 0 ≤ (x8_2 : Int) := of_decide_eq_true (by first | (with_reducible assumption) | assumption)
                          have q298 : x8_2 < (l0.length : Int) := of_decide_eq_true (by first | (with_reducible assumption) | assumption)
                          obtain ⟨ad298, e298, hx298_0⟩ := Kd.at_int HR0.out x8_2 p298 q298
                          obtain rfl : ad296 = ad298 := (by injection e298)
                          replace hx298_0 := (HB.out.cell (World.block_lt_of_cell? w _ hx298_0)).trans hx298_0
                          replace p298 := eq_true p298
                          replace q298 := eq_true q298
                          have p299 : 0 ≤ (x6_1 : Int) := of_decide_eq_true (by first | (with_reducible assumption) | assumption)
                          have q299 : x6_1 < (l0.length : Int) := of_decide_eq_true (by first | (with_reducible assumption) | assumption)
                          obtain ⟨ad299, e299, hx299_0⟩ := Kd.at_int HR0.out x6_1 p299 q299
                          obtain rfl : ad296 = ad299 := (by injection e299)
                          replace hx299_0 := (HB.out.cell (World.block_lt_of_cell? w _ hx299_0)).trans hx299_0
                          replace p299 := eq_true p299
                          replace q299 := eq_true q299
                          go_wp2
                          repeat (go_quiet (fail); try go_wp2)
                          go_roundg k2
                          case measure => have := HK1.out; have := HK2.out; omega
                          case rel => exact ⟨(wrap64 (x7_2 + 1)), (wrap64 (x8_2 + 1)), (by first | rfl | (simp; done) | (simp [*]; done)), (by first | rfl | (simp; done) | (simp [*]; done)), H', ⟨by have := HK1.out; have := HK2.out; omega⟩, ⟨by (with_reducible repeat (first | apply Kd.R_alloc | apply Kd.R_drewN | apply Kd.R_drew)); exact HO_5.out⟩, ⟨by repeat (first | (with_reducible first | exact HB.out | apply below_alloc | apply pw_below_drewN | apply below_drew1) | exact HB.out)⟩⟩
                        · rw [if_neg c10] at H
                          have c10b0 : decide (x8_2 < x6_1) = false := decide_eq_false c10
                          clear c10
                          have H' := Aside0.mk H
                          clear H
                          have p296 : 0 ≤ (x8_2 : Int) := of_decide_eq_true (by first | (with_reducible assumption) | assumption)
                          have q296 : x8_2 < (l0.length : Int) := of_decide_eq_true (by first | (with_reducible assumption) | assumption)
                          obtain ⟨ad296, e296, hx296_0⟩ := Kd.at_int HR0.out x8_2 p296 q296
                          cases e296
                          replace hx296_0 := (HB.out.cell (World.block_lt_of_cell? w _ hx296_0)).trans hx296_0
                          replace p296 := eq_true p296
                          replace q296 := eq_true q296
                          have p297 : 0 ≤ (x6_1 : Int) := of_decide_eq_true (by first | (with_reducible assumption) | assumption)
                          have q297 : x6_1 < (l0.length : Int) := of_decide_eq_true (by first | (with_reducible assumption) | assumption)
                          obtain ⟨ad297, e297, hx297_0⟩ := Kd.at_int HR0.out x6_1 p297 q297
                          obtain rfl : ad296 = ad297 := (by injection e297)
                          replace hx297_0 := (HB.out.cell (World.block_lt_of_cell? w _ hx297_0)).trans hx297_0
                          replace p297 := eq_true p297
                          replace q297 := eq_true q297
                          have p298 : 0 ≤ (x8_2 : Int) := of_decide_eq_true (by first | (with_reducible assumption) | assumption)
                          have q298 : x8_2 < (l0.length : Int) := of_decide_eq_true (by first | (with_reducible assumption) | assumption)
                          obtain ⟨ad298, e298, hx298_0⟩ := Kd.at_int HR0.out x8_2 p298 q298
                          obtain rfl : ad296 = ad298 := (by injection e298)
                          replace hx298_0 := (HB.out.cell (World.block_lt_of_cell? w _ hx298_0)).trans hx298_0
                          replace p298 := eq_true p298
                          replace q298 := eq_true q298
                          have p299 : 0 ≤ (x6_1 : Int) := of_decide_eq_true (by first | (with_reducible assumption) | assumption)
                          have q299 : x6_1 < (l0.length : Int) := of_decide_eq_true (by first | (with_reducible assumption) | assumption)
                          obtain ⟨ad299, e299, hx299_0⟩ := Kd.at_int HR0.out x6_1 p299 q299
                          obtain rfl : ad296 = ad299 := (by injection e299)
                          replace hx299_0 := (HB.out.cell (World.block_lt_of_cell? w _ hx299_0)).trans hx299_0
                          replace p299 := eq_true p299
                          replace q299 := eq_true q299
                          go_wp2
                          repeat (go_quiet (fail); try go_wp2)
                          go_roundg k2
                          case measure => have := HK1.out; have := HK2.out; omega
                          case rel => exact ⟨(x7_2), (wrap64 (x8_2 + 1)), (by first | rfl | (simp; done) | (simp [*]; done)), (by first | rfl | (simp; done) | (simp [*]; done)), H', ⟨by have := HK1.out; have := HK2.out; omega⟩, ⟨by (with_reducible repeat (first | apply Kd.R_alloc | apply Kd.R_drewN | apply Kd.R_drew)); exact HO_5.out⟩, ⟨by repeat (first | (with_reducible first | exact HB.out | apply below_alloc | apply pw_below_drewN | apply below_drew1) | exact HB.out)⟩⟩
                      · rw [if_neg c9] at H
                        have c9b0 : ((rd l0 x8_2) == (rd l0 x6_1)) = false := beq_eq_false_iff_ne.mpr c9
                        have c9b1 : ((rd l0 x8_2) != (rd l0 x6_1)) = true := bne_iff_ne.mpr c9
                        have H' := Aside0.mk H
                        clear H
                        have p296 : 0 ≤ (x8_2 : Int) := of_decide_eq_true (by first | (with_reducible assumption) | assumption)
                        have q296 : x8_2 < (l0.length : Int) := of_decide_eq_true (by first | (with_reducible assumption) | assumption)
                        obtain ⟨ad296, e296, hx296_0⟩ := Kd.at_int HR0.out x8_2 p296 q296
                        cases e296
                        replace hx296_0 := (HB.out.cell (World.block_lt_of_cell? w _ hx296_0)).trans hx296_0
                        replace p296 := eq_true p296
                        replace q296 := eq_true q296
                        have p297 : 0 ≤ (x6_1 : Int) := of_decide_eq_true (by first | (with_reducible assumption) | assumption)
                        have q297 : x6_1 < (l0.length : Int) := of_decide_eq_true (by first | (with_reducible assumption) | assumption)
                        obtain ⟨ad297, e297, hx297_0⟩ := Kd.at_int HR0.out x6_1 p297 q297
                        obtain rfl : ad296 = ad297 := (by injection e297)
                        replace hx297_0 := (HB.out.cell (World.block_lt_of_cell? w _ hx297_0)).trans hx297_0
                        replace p297 := eq_true p297
                        replace q297 := eq_true q297
                        have p298 : 0 ≤ (x8_2 : Int) := of_decide_eq_true (by first | (with_reducible assumption) | assumption)
                        have q298 : x8_2 < (l0.length : Int) := of_decide_eq_true (by first | (with_reducible assumption) | assumption)
                        obtain ⟨ad298, e298, hx298_0⟩ := Kd.at_int HR0.out x8_2 p298 q298
                        obtain rfl : ad296 = ad298 := (by injection e298)
                        replace hx298_0 := (HB.out.cell (World.block_lt_of_cell? w _ hx298_0)).trans hx298_0
                        replace p298 := eq_true p298
                        replace q298 := eq_true q298
                        have p299 : 0 ≤ (x6_1 : Int) := of_decide_eq_true (by first | (with_reducible assumption) | assumption)
                        have q299 : x6_1 < (l0.length : Int) := of_decide_eq_true (by first | (with_reducible assumption) | assumption)
                        obtain ⟨ad299, e299, hx299_0⟩ := Kd.at_int HR0.out x6_1 p299 q299
                        obtain rfl : ad296 = ad299 := (by injection e299)
                        replace hx299_0 := (HB.out.cell (World.block_lt_of_cell? w _ hx299_0)).trans hx299_0
                        replace p299 := eq_true p299
                        replace q299 := eq_true q299
                        go_wp2
                        repeat (go_quiet (fail); try go_wp2)
                        go_roundg k2
                        case measure => have := HK1.out; have := HK2.out; omega
                        case rel => exact ⟨(x7_2), (wrap64 (x8_2 + 1)), (by first | rfl | (simp; done) | (simp [*]; done)), (by first | rfl | (simp; done) | (simp [*]; done)), H', ⟨by have := HK1.out; have := HK2.out; omega⟩, ⟨by (with_reducible repeat (first | apply Kd.R_alloc | apply Kd.R_drewN | apply Kd.R_drew)); exact HO_5.out⟩, ⟨by repeat (first | (with_reducible first | exact HB.out | apply below_alloc | apply pw_below_drewN | apply below_drew1) | exact HB.out)⟩⟩
                  · rw [if_neg c7] at H
                    exact absurd H (by simp)
                · rw [if_neg c6] at H
                  exact absurd H (by simp)
              · rw [if_neg c5] at H
                exact absurd H (by simp)
            · rw [if_neg c4] at H
              have c4b0 : decide (x8_2 < (l0.length : Int)) = false := decide_eq_false c4
              clear c4
              by_cases c11 : a1 = 0
              · rw [if_pos c11] at H
                have c11b0 : (a1 == 0) = true := beq_iff_eq.mpr c11
                have c11b1 : (a1 != 0) = false := bne_eq_false_iff_eq.mpr c11
                clear c11
                by_cases c12 : x5_1.length < 17592186044416
                · rw [if_pos c12] at H
                  have LMc12 := Aside0.mk c12
                  clear c12
                  obtain ⟨y300, hy300⟩ : ∃ y_ : List Int, y_ = (x5_1 ++ [x6_1]) := ⟨_, rfl⟩
                  replace H : (credenzaref20_Kept.l0 k2 l0 a1 y300 (wrap64 (x6_1 + 1))) = some r := by first | (rw [hy300]; with_reducible exact H) | (have H2_ := (Option.bind_some _ _).symm.trans H; rw [hy300]; with_reducible exact H2_) | (have H2_ := (Option.bind_some _ _).symm.trans H; with_reducible exact H2_) | with_reducible exact H | (rw [hy300]; exact H) | exact H
                  have Ny300 := Aside0.mk hy300
                  clear hy300
                  have H' := Aside0.mk H
                  clear H
                  go_wp2_with (first | ((with_reducible refine gate_builtin (b := .append) (xs := #[.tmp 55, .tmp 57]) rfl ?_); at_builtin; refine Kd.R_append (Kd.int .i64) (w0 := w) w.heap.size rfl (.tmp 55) (.tmp 57) 34 3 (.int .i64 0) 8 rfl Try.underlying34 info3 rfl (by decide) (by omega) u5 x5_1 x6_1 [.int .i64 x6_1] (fun _ => True) (fun _ => False) rfl rfl ?aP (fun _ hk => hk.elim) ?aF ?aO ?aB ?aS ?aL ?_; (case aP => exact rfl); (case aB => exact (by repeat (first | (with_reducible first | exact HB.out | apply below_alloc | apply pw_below_drewN | apply below_drew1) | exact HB.out))); (case aF => exact (fun _ _ => trivial)); (case aO => exact (by (with_reducible repeat (first | apply Kd.R_alloc | apply Kd.R_drewN | apply Kd.R_drew)); exact HO_5.out)); (case aS => exact (below_size (by repeat (first | (with_reducible first | exact HB.out | apply below_alloc | apply pw_below_drewN | apply below_drew1) | exact HB.out)))); (case aL => have := LMc12.out; omega); intro v301 w13 ho hb hg hat; rw [← Ny300.out] at ho; have n0_ := Aside0.mk (hb); have n1_ := Aside0.mk (ho); clear HB; clear HO_5; have HB := n0_; have HO302 := n1_; clear n0_ n1_; clear ho hb hg hat))
                  repeat (go_quiet (first | ((with_reducible refine gate_builtin (b := .append) (xs := #[.tmp 55, .tmp 57]) rfl ?_); at_builtin; refine Kd.R_append (Kd.int .i64) (w0 := w) w.heap.size rfl (.tmp 55) (.tmp 57) 34 3 (.int .i64 0) 8 rfl Try.underlying34 info3 rfl (by decide) (by omega) u5 x5_1 x6_1 [.int .i64 x6_1] (fun _ => True) (fun _ => False) rfl rfl ?aP (fun _ hk => hk.elim) ?aF ?aO ?aB ?aS ?aL ?_; (case aP => exact rfl); (case aB => exact (by repeat (first | (with_reducible first | exact HB.out | apply below_alloc | apply pw_below_drewN | apply below_drew1) | exact HB.out))); (case aF => exact (fun _ _ => trivial)); (case aO => exact (by (with_reducible repeat (first | apply Kd.R_alloc | apply Kd.R_drewN | apply Kd.R_drew)); exact HO_5.out)); (case aS => exact (below_size (by repeat (first | (with_reducible first | exact HB.out | apply below_alloc | apply pw_below_drewN | apply below_drew1) | exact HB.out)))); (case aL => have := LMc12.out; omega); intro v301 w13 ho hb hg hat; rw [← Ny300.out] at ho; have n0_ := Aside0.mk (hb); have n1_ := Aside0.mk (ho); clear HB; clear HO_5; have HB := n0_; have HO302 := n1_; clear n0_ n1_; clear ho hb hg hat)); try go_wp2_with (first | ((with_reducible refine gate_builtin (b := .append) (xs := #[.tmp 55, .tmp 57]) rfl ?_); at_builtin; refine Kd.R_append (Kd.int .i64) (w0 := w) w.heap.size rfl (.tmp 55) (.tmp 57) 34 3 (.int .i64 0) 8 rfl Try.underlying34 info3 rfl (by decide) (by omega) u5 x5_1 x6_1 [.int .i64 x6_1] (fun _ => True) (fun _ => False) rfl rfl ?aP (fun _ hk => hk.elim) ?aF ?aO ?aB ?aS ?aL ?_; (case aP => exact rfl); (case aB => exact (by repeat (first | (with_reducible first | exact HB.out | apply below_alloc | apply pw_below_drewN | apply below_drew1) | exact HB.out))); (case aF => exact (fun _ _ => trivial)); (case aO => exact (by (with_reducible repeat (first | apply Kd.R_alloc | apply Kd.R_drewN | apply Kd.R_drew)); exact HO_5.out)); (case aS => exact (below_size (by repeat (first | (with_reducible first | exact HB.out | apply below_alloc | apply pw_below_drewN | apply below_drew1) | exact HB.out)))); (case aL => have := LMc12.out; omega); intro v301 w13 ho hb hg hat; rw [← Ny300.out] at ho; have n0_ := Aside0.mk (hb); have n1_ := Aside0.mk (ho); clear HB; clear HO_5; have HB := n0_; have HO302 := n1_; clear n0_ n1_; clear ho hb hg hat)))
                  go_roundg k2
                  case measure => have := HK1.out; have := HK2.out; omega
                  case rel => exact ⟨(y300), (wrap64 (x6_1 + 1)), (by first | rfl | (simp; done) | (simp [*]; done)), H', ⟨by have := HK1.out; have := HK2.out; omega⟩, ⟨by (with_reducible repeat (first | apply Kd.R_alloc | apply Kd.R_drewN | apply Kd.R_drew)); exact HO302.out⟩, ⟨by repeat (first | (with_reducible first | exact HB.out | apply below_alloc | apply pw_below_drewN | apply below_drew1) | exact HB.out)⟩⟩
                · rw [if_neg c12] at H
                  exact absurd H (by simp)
              · rw [if_neg c11] at H
                have c11b0 : (a1 == 0) = false := beq_eq_false_iff_ne.mpr c11
                have c11b1 : (a1 != 0) = true := bne_iff_ne.mpr c11
                by_cases c14 : x7_2 < a1
                · rw [if_pos c14] at H
                  have c14b0 : decide (x7_2 < a1) = true := decide_eq_true c14
                  clear c14
                  by_cases c15 : x5_1.length < 17592186044416
                  · rw [if_pos c15] at H
                    have LMc15 := Aside0.mk c15
                    clear c15
                    obtain ⟨y303, hy303⟩ : ∃ y_ : List Int, y_ = (x5_1 ++ [x6_1]) := ⟨_, rfl⟩
                    replace H : (credenzaref20_Kept.l0 k2 l0 a1 y303 (wrap64 (x6_1 + 1))) = some r := by first | (rw [hy303]; with_reducible exact H) | (have H2_ := (Option.bind_some _ _).symm.trans H; rw [hy303]; with_reducible exact H2_) | (have H2_ := (Option.bind_some _ _).symm.trans H; with_reducible exact H2_) | with_reducible exact H | (rw [hy303]; exact H) | exact H
                    have Ny303 := Aside0.mk hy303
                    clear hy303
                    have H' := Aside0.mk H
                    clear H
                    go_wp2_with (first | ((with_reducible refine gate_builtin (b := .append) (xs := #[.tmp 55, .tmp 57]) rfl ?_); at_builtin; refine Kd.R_append (Kd.int .i64) (w0 := w) w.heap.size rfl (.tmp 55) (.tmp 57) 34 3 (.int .i64 0) 8 rfl Try.underlying34 info3 rfl (by decide) (by omega) u5 x5_1 x6_1 [.int .i64 x6_1] (fun _ => True) (fun _ => False) rfl rfl ?aP (fun _ hk => hk.elim) ?aF ?aO ?aB ?aS ?aL ?_; (case aP => exact rfl); (case aB => exact (by repeat (first | (with_reducible first | exact HB.out | apply below_alloc | apply pw_below_drewN | apply below_drew1) | exact HB.out))); (case aF => exact (fun _ _ => trivial)); (case aO => exact (by (with_reducible repeat (first | apply Kd.R_alloc | apply Kd.R_drewN | apply Kd.R_drew)); exact HO_5.out)); (case aS => exact (below_size (by repeat (first | (with_reducible first | exact HB.out | apply below_alloc | apply pw_below_drewN | apply below_drew1) | exact HB.out)))); (case aL => have := LMc15.out; omega); intro v304 w16 ho hb hg hat; rw [← Ny303.out] at ho; have n0_ := Aside0.mk (hb); have n1_ := Aside0.mk (ho); clear HB; clear HO_5; have HB := n0_; have HO305 := n1_; clear n0_ n1_; clear ho hb hg hat))
                    repeat (go_quiet (first | ((with_reducible refine gate_builtin (b := .append) (xs := #[.tmp 55, .tmp 57]) rfl ?_); at_builtin; refine Kd.R_append (Kd.int .i64) (w0 := w) w.heap.size rfl (.tmp 55) (.tmp 57) 34 3 (.int .i64 0) 8 rfl Try.underlying34 info3 rfl (by decide) (by omega) u5 x5_1 x6_1 [.int .i64 x6_1] (fun _ => True) (fun _ => False) rfl rfl ?aP (fun _ hk => hk.elim) ?aF ?aO ?aB ?aS ?aL ?_; (case aP => exact rfl); (case aB => exact (by repeat (first | (with_reducible first | exact HB.out | apply below_alloc | apply pw_below_drewN | apply below_drew1) | exact HB.out))); (case aF => exact (fun _ _ => trivial)); (case aO => exact (by (with_reducible repeat (first | apply Kd.R_alloc | apply Kd.R_drewN | apply Kd.R_drew)); exact HO_5.out)); (case aS => exact (below_size (by repeat (first | (with_reducible first | exact HB.out | apply below_alloc | apply pw_below_drewN | apply below_drew1) | exact HB.out)))); (case aL => have := LMc15.out; omega); intro v304 w16 ho hb hg hat; rw [← Ny303.out] at ho; have n0_ := Aside0.mk (hb); have n1_ := Aside0.mk (ho); clear HB; clear HO_5; have HB := n0_; have HO305 := n1_; clear n0_ n1_; clear ho hb hg hat)); try go_wp2_with (first | ((with_reducible refine gate_builtin (b := .append) (xs := #[.tmp 55, .tmp 57]) rfl ?_); at_builtin; refine Kd.R_append (Kd.int .i64) (w0 := w) w.heap.size rfl (.tmp 55) (.tmp 57) 34 3 (.int .i64 0) 8 rfl Try.underlying34 info3 rfl (by decide) (by omega) u5 x5_1 x6_1 [.int .i64 x6_1] (fun _ => True) (fun _ => False) rfl rfl ?aP (fun _ hk => hk.elim) ?aF ?aO ?aB ?aS ?aL ?_; (case aP => exact rfl); (case aB => exact (by repeat (first | (with_reducible first | exact HB.out | apply below_alloc | apply pw_below_drewN | apply below_drew1) | exact HB.out))); (case aF => exact (fun _ _ => trivial)); (case aO => exact (by (with_reducible repeat (first | apply Kd.R_alloc | apply Kd.R_drewN | apply Kd.R_drew)); exact HO_5.out)); (case aS => exact (below_size (by repeat (first | (with_reducible first | exact HB.out | apply below_alloc | apply pw_below_drewN | apply below_drew1) | exact HB.out)))); (case aL => have := LMc15.out; omega); intro v304 w16 ho hb hg hat; rw [← Ny303.out] at ho; have n0_ := Aside0.mk (hb); have n1_ := Aside0.mk (ho); clear HB; clear HO_5; have HB := n0_; have HO305 := n1_; clear n0_ n1_; clear ho hb hg hat)))
                    go_roundg k2
                    case measure => have := HK1.out; have := HK2.out; omega
                    case rel => exact ⟨(y303), (wrap64 (x6_1 + 1)), (by first | rfl | (simp; done) | (simp [*]; done)), H', ⟨by have := HK1.out; have := HK2.out; omega⟩, ⟨by (with_reducible repeat (first | apply Kd.R_alloc | apply Kd.R_drewN | apply Kd.R_drew)); exact HO305.out⟩, ⟨by repeat (first | (with_reducible first | exact HB.out | apply below_alloc | apply pw_below_drewN | apply below_drew1) | exact HB.out)⟩⟩
                  · rw [if_neg c15] at H
                    exact absurd H (by simp)
                · rw [if_neg c14] at H
                  have c14b0 : decide (x7_2 < a1) = false := decide_eq_false c14
                  clear c14
                  have H' := Aside0.mk H
                  clear H
                  go_wp2
                  repeat (go_quiet (fail); try go_wp2)
                  go_roundg k2
                  case measure => have := HK1.out; have := HK2.out; omega
                  case rel => exact ⟨(x5_1), (wrap64 (x6_1 + 1)), (by first | rfl | (simp; done) | (simp [*]; done)), H', ⟨by have := HK1.out; have := HK2.out; omega⟩, ⟨by (with_reducible repeat (first | apply Kd.R_alloc | apply Kd.R_drewN | apply Kd.R_drew)); exact HO_5.out⟩, ⟨by repeat (first | (with_reducible first | exact HB.out | apply below_alloc | apply pw_below_drewN | apply below_drew1) | exact HB.out)⟩⟩
      · rw [if_neg c3] at H
        have c3b0 : decide (x6_1 < (l0.length : Int)) = false := decide_eq_false c3
        clear c3
        obtain rfl := Option.some.inj H
        go_wp2
        repeat (go_quiet (fail); try go_wp2)
        go_ret
        exact ⟨_, by first | rfl | (simp [errW_none, errW_some] <;> rfl) | (simp [*, errW_none, errW_some] <;> rfl), by (with_reducible repeat (first | apply Kd.R_alloc | apply Kd.R_drewN | apply Kd.R_drew)); exact HO_5.out, by repeat (first | (with_reducible first | exact HB.out | apply below_alloc | apply pw_below_drewN | apply below_drew1) | exact HB.out)⟩

end Go.Proofs.Ytmldhpnkkkmloaa.Q

namespace Go.Proofs.Ytmldhpnkkkmloaa.Pure
open Go.RowKit Go.Proofs.Ytmldhpnkkkmloaa.Q Go.Proofs.YtmldhpnkkkmloaaW.PrintWords Go.Proofs.YtmldhpnkkkmloaaW.PrintLast Go.Proofs.Ytmldhpnkkkmloaa.SortM
set_option linter.unusedVariables false

/-- The kept ones, whatever 'top' is. -/
def kpt (l : List Int) (t : Int) : List Int := if t = 0 then iota l.length else keptOf l t.toNat
theorem pk_eq (l : List Int) (t : Int) (h : 0 ≤ t) : KeptW.pk l t = kpt l t := by
  unfold KeptW.pk kpt
  by_cases h0 : t = 0
  · rw [if_pos (.inl h0), if_pos h0]
  · rw [if_neg h0]
    by_cases h1 : (l.length : Int) ≤ t
    · rw [if_pos (.inr h1), kept_all l _ (by omega)]
    · rw [if_neg (by omega)]
theorem pick_Kept_some {l : List Int} {t : Int} (h : l.length ≤ 1000000) (ht : 0 ≤ t) : pick_Kept.f l t = some (kpt l t) := by
  unfold pick_Kept.f
  rw [if_pos ⟨h, ht⟩, pk_eq l t ht]

theorem iota_succ (n : Nat) : iota (n + 1) = iota n ++ [(n : Int)] := by simp [iota, List.range_succ]
theorem iota_take {n p : Nat} (h : p ≤ n) : ∃ r, iota n = iota p ++ r := by
  induction n with
  | zero => exact ⟨[], by obtain rfl : p = 0 := by omega
                          simp⟩
  | succ n ih =>
    by_cases e : p = n + 1
    · subst e; exact ⟨[], by simp⟩
    · obtain ⟨r, hr⟩ := ih (by omega)
      exact ⟨r ++ [(n : Int)], by rw [iota_succ, hr]; simp⟩

/-- How the reference asks whether a place is kept. -/
def inK (l : List Int) (t x : Int) : Bool := decide (t = 0 ∨ (SortM.ahead l x : Int) < t)
theorem kpt_filter (l : List Int) (t : Int) : kpt l t = (iota l.length).filter (inK l t) := by
  unfold kpt
  by_cases h0 : t = 0
  · rw [if_pos h0, Eq.comm, List.filter_eq_self]
    intro x _
    simp [inK, h0]
  · rw [if_neg h0, keptOf]
    congr 1
    funext x
    unfold inK
    congr 1
    apply propext
    constructor
    · intro h; right; omega
    · rintro (h | h) <;> omega

def cnt (l : List Int) (i : Int) (p : Nat) : Nat := (iota p).countP (fun y => before l y i)
theorem cnt_succ (l : List Int) (i : Int) (p : Nat) : cnt l i (p + 1) = cnt l i p + if before l (p : Int) i = true then 1 else 0 := by
  unfold cnt; rw [iota_succ, List.countP_append, List.countP_singleton]
theorem cnt_le (l : List Int) (i : Int) (p : Nat) : cnt l i p ≤ p := by
  have := List.countP_le_length (p := fun y => before l y i) (l := iota p); rw [iota_length] at this; exact this

theorem ref_kept_l1 (l : List Int) (t : Int) (out : List Int) (i : Nat) (hi : i < l.length) (hn : l.length ≤ 1000000) (ho : out.length ≤ 1000000) {r : List Int}
    (hnext : Ev (fun k => credenzaref20_Kept.l0 k l t (if inK l t (i : Int) = true then out ++ [(i : Int)] else out) ((i + 1 : Nat) : Int)) r) :
    ∀ d p : Nat, p + d = l.length → Ev (fun k => credenzaref20_Kept.l1 k l t out (i : Int) (cnt l (i : Int) p : Int) (p : Int)) r := by
  intro d
  induction d with
  | zero =>
    intro p hp
    obtain rfl : p = l.length := by omega
    refine Ev.step (fun k => ?_) hnext
    have hb : (inK l t (i : Int) = true) ↔ (t = 0 ∨ (cnt l (i : Int) l.length : Int) < t) := by unfold inK SortM.ahead cnt; rw [decide_eq_true_iff]
    rw [credenzaref20_Kept.l1, if_neg (by omega), wnext (n := l.length) hi (by omega)]
    by_cases h0 : t = 0
    · rw [if_pos h0, if_pos (by omega), if_pos (hb.2 (.inl h0))]
    · rw [if_neg h0]
      by_cases h1 : (cnt l (i : Int) l.length : Int) < t
      · rw [if_pos h1, if_pos (by omega), if_pos (hb.2 (.inr h1))]
      · rw [if_neg h1, if_neg (fun h => by rcases hb.1 h with h | h <;> omega)]
  | succ d ih =>
    intro p hp
    have hlt : p < l.length := by omega
    refine Ev.step (fun k => ?_) (ih (p + 1) (by omega))
    have hc := cnt_le l (i : Int) p
    have hs := cnt_succ l (i : Int) p
    have e2 : wrap64 ((cnt l (i : Int) p : Int) + 1) = ((cnt l (i : Int) p + 1 : Nat) : Int) := by rw [w64 (by omega) (by omega)]; omega
    rw [credenzaref20_Kept.l1, if_pos (by omega), if_pos (by omega), if_pos (by omega), if_pos (by omega), wnext hlt (by omega), e2]
    have hbf : before l (p : Int) (i : Int) = true ↔ (rd l (p : Int) > rd l (i : Int) ∨ rd l (p : Int) = rd l (i : Int) ∧ (p : Int) < (i : Int)) := by unfold before; rw [decide_eq_true_iff]
    by_cases h1 : rd l (p : Int) > rd l (i : Int)
    · rw [if_pos h1, hs, if_pos (hbf.2 (.inl h1))]
    · rw [if_neg h1]
      by_cases h2 : rd l (p : Int) = rd l (i : Int)
      · rw [if_pos h2]
        by_cases h3 : (p : Int) < (i : Int)
        · rw [if_pos h3, hs, if_pos (hbf.2 (.inr ⟨h2, h3⟩))]
        · rw [if_neg h3, hs, if_neg (fun h => by rcases hbf.1 h with h | h <;> omega)]; rfl
      · rw [if_neg h2, hs, if_neg (fun h => by rcases hbf.1 h with h | h <;> omega)]; rfl

theorem filter_le (l : List Int) (t : Int) (p : Nat) : ((iota p).filter (inK l t)).length ≤ p := by
  have := List.length_filter_le (inK l t) (iota p); rw [iota_length] at this; exact this
theorem ref_kept_l0 (l : List Int) (t : Int) (hn : l.length ≤ 1000000) : ∀ d p : Nat, p + d = l.length → Ev (fun k => credenzaref20_Kept.l0 k l t ((iota p).filter (inK l t)) (p : Int)) (kpt l t) := by
  intro d
  induction d with
  | zero =>
    intro p hp
    obtain rfl : p = l.length := by omega
    refine Ev.step (fun k => ?_) (Ev.now _)
    rw [credenzaref20_Kept.l0, if_neg (by omega), kpt_filter]
  | succ d ih =>
    intro p hp
    have hlt : p < l.length := by omega
    have hf := filter_le l t p
    have h := ref_kept_l1 l t ((iota p).filter (inK l t)) p hlt hn (by omega) (r := kpt l t) (by
      have h0 := ih (p + 1) (by omega)
      rw [iota_succ, List.filter_append] at h0
      refine Ev.congr (fun k => ?_) h0
      congr 1
      by_cases c : inK l t (p : Int) = true
      · rw [if_pos c]; simp [c]
      · rw [if_neg c]; simp [c]) l.length 0 (by omega)
    refine Ev.step (fun k => ?_) h
    rw [credenzaref20_Kept.l0, if_pos (by omega)]
    rfl
theorem ref_Kept_ev (l : List Int) (t : Int) (hn : l.length ≤ 1000000) : Ev (fun k => credenzaref20_Kept.f k l t) (kpt l t) := by
  have h := ref_kept_l0 l t hn l.length 0 (by omega)
  exact Ev.congr (fun k => rfl) h

/-! ### what is kept -/
theorem sorted_ex (l : List Int) : ∃ M : List Int, M.Perm (iota l.length) ∧ M.Pairwise (Bef l) := by
  refine ⟨(iota l.length).mergeSort (fun x y => !before l y x), List.mergeSort_perm _ _, ?_⟩
  have hp := List.pairwise_mergeSort (le := fun x y => !before l y x) (fun a b c h1 h2 => by
      simp only [Bool.not_eq_true', Bool.eq_false_iff, ne_eq, before_iff] at *
      unfold Bef at *; omega)
    (fun a b => by
      simp only [Bool.or_eq_true, Bool.not_eq_true', Bool.eq_false_iff, ne_eq, before_iff]
      unfold Bef; omega) (iota l.length)
  have hn : ((iota l.length).mergeSort (fun x y => !before l y x)).Pairwise (· ≠ ·) := ((List.mergeSort_perm _ _).symm.nodup ((iota_lt _).imp (fun h => by omega)))
  refine (hp.and hn).imp ?_
  rintro x y ⟨h1, h2⟩
  simp only [Bool.not_eq_true', Bool.eq_false_iff, ne_eq, before_iff] at h1
  unfold Bef at *
  omega
theorem kpt_length (l : List Int) (t : Int) (h0 : 0 ≤ t) : ((kpt l t).length : Int) = if t = 0 then (l.length : Int) else mn t (l.length : Int) := by
  unfold kpt
  by_cases h : t = 0
  · rw [if_pos h, if_pos h, iota_length]
  · rw [if_neg h, if_neg h, kept_length l _ (sorted_ex l)]
    unfold mn; omega
theorem kpt_mem {l : List Int} {t x : Int} : x ∈ kpt l t ↔ (0 ≤ x ∧ x < l.length) ∧ inK l t x = true := by rw [kpt_filter, List.mem_filter, mem_iota]
theorem kpt_rd {l : List Int} {t : Int} {p : Nat} (h : p < (kpt l t).length) : 0 ≤ rd (kpt l t) (p : Int) ∧ rd (kpt l t) (p : Int) < l.length := (kpt_mem.1 (rd_mem h)).1

/-- A place that is kept is not less than one that is not. -/
theorem kept_best {l : List Int} {t x y : Int} (hx : inK l t x = true) (hy : inK l t y = false) (hy0 : 0 ≤ y) (hyn : y < l.length) : ¬ rd l x < rd l y := by
  intro hlt
  unfold inK at hx hy
  rw [decide_eq_true_iff] at hx
  rw [decide_eq_false_iff_not] at hy
  have hle : SortM.ahead l y ≤ SortM.ahead l x := by
    unfold SortM.ahead
    apply List.countP_mono_left
    intro z _ hz
    rw [before_iff] at hz ⊢
    unfold Bef at *
    omega
  omega
end Go.Proofs.Ytmldhpnkkkmloaa.Pure

namespace Go.Proofs.Ytmldhpnkkkmloaa.Q
open Go.RowKit Go.Proofs.YtmldhpnkkkmloaaW.PrintWords Go.Proofs.YtmldhpnkkkmloaaW.PrintLast Go.Proofs.YtmldhpnkkkmloaaW.PrintMore
attribute [local go_sem] max2_int min2_int max_two min_two max_three min_three max_four min_four   -- for this text's walks alone
set_option linter.unusedVariables false
set_option linter.unusedSimpArgs false

/-! ### pick_Draw: function 15 -/
def pick_Draw.f (a0 : Int) (a1 : Int) : Option (Int) := some (Go.bits .xor .u64 (IntKind.u64.wrap ((Go.bits .xor .u64 (IntKind.u64.wrap ((Go.bits .xor .u64 (IntKind.u64.wrap (a0 + (IntKind.u64.wrap ((IntKind.u64.wrap ((IntKind.u64.wrap (a1)) + 1)) * 11400714819323198485)))) ((IntKind.u64.wrap (a0 + (IntKind.u64.wrap ((IntKind.u64.wrap ((IntKind.u64.wrap (a1)) + 1)) * 11400714819323198485)))) / 1073741824)) * 13787848793156543929)) ((IntKind.u64.wrap ((Go.bits .xor .u64 (IntKind.u64.wrap (a0 + (IntKind.u64.wrap ((IntKind.u64.wrap ((IntKind.u64.wrap (a1)) + 1)) * 11400714819323198485)))) ((IntKind.u64.wrap (a0 + (IntKind.u64.wrap ((IntKind.u64.wrap ((IntKind.u64.wrap (a1)) + 1)) * 11400714819323198485)))) / 1073741824)) * 13787848793156543929)) / 134217728)) * 10723151780598845931)) ((IntKind.u64.wrap ((Go.bits .xor .u64 (IntKind.u64.wrap ((Go.bits .xor .u64 (IntKind.u64.wrap (a0 + (IntKind.u64.wrap ((IntKind.u64.wrap ((IntKind.u64.wrap (a1)) + 1)) * 11400714819323198485)))) ((IntKind.u64.wrap (a0 + (IntKind.u64.wrap ((IntKind.u64.wrap ((IntKind.u64.wrap (a1)) + 1)) * 11400714819323198485)))) / 1073741824)) * 13787848793156543929)) ((IntKind.u64.wrap ((Go.bits .xor .u64 (IntKind.u64.wrap (a0 + (IntKind.u64.wrap ((IntKind.u64.wrap ((IntKind.u64.wrap (a1)) + 1)) * 11400714819323198485)))) ((IntKind.u64.wrap (a0 + (IntKind.u64.wrap ((IntKind.u64.wrap ((IntKind.u64.wrap (a1)) + 1)) * 11400714819323198485)))) / 1073741824)) * 13787848793156543929)) / 134217728)) * 10723151780598845931)) / 2147483648))
set_option maxHeartbeats 8000000 in
set_option maxRecDepth 100000 in
theorem pick_Draw.calls (a0 : Int) (a1 : Int) (r : Int) (w : World) (h : pick_Draw.f a0 a1 = some r) :
    Calls Try.prog 15 #[.int .u64 a0, .int .i64 a1] w fun e w' => e = .returned (.int .u64 r) ∧ Drawn0 w w' := by
  have H : (some (Go.bits .xor .u64 (IntKind.u64.wrap ((Go.bits .xor .u64 (IntKind.u64.wrap ((Go.bits .xor .u64 (IntKind.u64.wrap (a0 + (IntKind.u64.wrap ((IntKind.u64.wrap ((IntKind.u64.wrap (a1)) + 1)) * 11400714819323198485)))) ((IntKind.u64.wrap (a0 + (IntKind.u64.wrap ((IntKind.u64.wrap ((IntKind.u64.wrap (a1)) + 1)) * 11400714819323198485)))) / 1073741824)) * 13787848793156543929)) ((IntKind.u64.wrap ((Go.bits .xor .u64 (IntKind.u64.wrap (a0 + (IntKind.u64.wrap ((IntKind.u64.wrap ((IntKind.u64.wrap (a1)) + 1)) * 11400714819323198485)))) ((IntKind.u64.wrap (a0 + (IntKind.u64.wrap ((IntKind.u64.wrap ((IntKind.u64.wrap (a1)) + 1)) * 11400714819323198485)))) / 1073741824)) * 13787848793156543929)) / 134217728)) * 10723151780598845931)) ((IntKind.u64.wrap ((Go.bits .xor .u64 (IntKind.u64.wrap ((Go.bits .xor .u64 (IntKind.u64.wrap (a0 + (IntKind.u64.wrap ((IntKind.u64.wrap ((IntKind.u64.wrap (a1)) + 1)) * 11400714819323198485)))) ((IntKind.u64.wrap (a0 + (IntKind.u64.wrap ((IntKind.u64.wrap ((IntKind.u64.wrap (a1)) + 1)) * 11400714819323198485)))) / 1073741824)) * 13787848793156543929)) ((IntKind.u64.wrap ((Go.bits .xor .u64 (IntKind.u64.wrap (a0 + (IntKind.u64.wrap ((IntKind.u64.wrap ((IntKind.u64.wrap (a1)) + 1)) * 11400714819323198485)))) ((IntKind.u64.wrap (a0 + (IntKind.u64.wrap ((IntKind.u64.wrap ((IntKind.u64.wrap (a1)) + 1)) * 11400714819323198485)))) / 1073741824)) * 13787848793156543929)) / 134217728)) * 10723151780598845931)) / 2147483648))) = some r := h
  clear h
  obtain rfl := Option.some.inj H
  go_enter Try.func15, Try.ntmps15
  go_wp2
  go_ret
  exact ⟨by first | rfl | (simp; done) | (simp [*]; done), by repeat (first | exact Drawn0.refl _ | apply Drawn0.step)⟩

end Go.Proofs.Ytmldhpnkkkmloaa.Q

namespace Go.Proofs.Ytmldhpnkkkmloaa.Q
open Go.RowKit Go.Proofs.YtmldhpnkkkmloaaW.PrintWords Go.Proofs.YtmldhpnkkkmloaaW.PrintLast Go.Proofs.YtmldhpnkkkmloaaW.PrintMore
attribute [local go_sem] max2_int min2_int max_two min_two max_three min_three max_four min_four   -- for this text's walks alone
set_option linter.unusedVariables false
set_option linter.unusedSimpArgs false

/-! ### credenzaref20_shift: function 30 -/
def credenzaref20_shift.l0 : Nat → Int → Int → Int → Int → Option (Int)
  | 0, _, _, _, _ => none
  | k + 1, x0, x1, x5, x6 => if x6 < x1 then (credenzaref20_shift.l0 k x0 x1 (IntKind.u64.wrap (Int.tdiv x5 2)) (wrap64 (x6 + 1))) else (some (Go.bits .xor .u64 x0 x5))
def credenzaref20_shift.f (k : Nat) (a0 : Int) (a1 : Int) : Option (Int) := credenzaref20_shift.l0 k a0 a1 a0 0
theorem credenzaref20_shift.mono_l : ∀ k, (∀ y0 y1 y2 y3, LeO (credenzaref20_shift.l0 k y0 y1 y2 y3) (credenzaref20_shift.l0 (k + 1) y0 y1 y2 y3))
  | 0 => fun _ _ _ _ r h => by simp [credenzaref20_shift.l0] at h
  | k + 1 => by
    have ih0 := credenzaref20_shift.mono_l k
    · intro y0 y1 y2 y3
      unfold credenzaref20_shift.l0
      repeat' first
      | (with_reducible exact ih0 _ _ _ _)
      | (with_reducible exact LeO.refl _)
      | (with_reducible exact LeO.none _)
      | (with_reducible refine LeO.ite ?_ ?_)
      | (with_reducible refine LeO.bind ?_ (fun _ => ?_))
      | exact ih0 _ _ _ _
      | exact LeO.none _
      | refine LeO.ite ?_ ?_
      | refine LeO.bind ?_ (fun _ => ?_)
theorem credenzaref20_shift.mono : ∀ a0 a1 k, LeO (credenzaref20_shift.f k a0 a1) (credenzaref20_shift.f (k + 1) a0 a1) := by
  intro a0 a1 k
  have ih0 := credenzaref20_shift.mono_l k
  unfold credenzaref20_shift.f
  repeat' first
      | (with_reducible exact ih0 _ _ _ _)
      | (with_reducible exact LeO.refl _)
      | (with_reducible exact LeO.none _)
      | (with_reducible refine LeO.ite ?_ ?_)
      | (with_reducible refine LeO.bind ?_ (fun _ => ?_))
      | exact ih0 _ _ _ _
      | exact LeO.none _
      | refine LeO.ite ?_ ?_
      | refine LeO.bind ?_ (fun _ => ?_)
set_option maxHeartbeats 8000000 in
set_option maxRecDepth 100000 in
theorem credenzaref20_shift.calls (k : Nat) (a0 : Int) (a1 : Int) (r : Int) (w : World) (h : credenzaref20_shift.f k a0 a1 = some r) :
    Calls Try.prog 30 #[.int .u64 a0, .int .i64 a1] w fun e w' => e = .returned (.int .u64 r) ∧ Drawn0 w w' := by
  have H : (credenzaref20_shift.l0 k a0 a1 a0 0) = some r := h
  clear h
  have H' := Aside0.mk H
  clear H
  go_enter Try.func30, Try.ntmps30
  go_wp2
  go_loopg [5, 6] k (fun kq v5 v6 w' => ∃ (x5_1 : Int) (x6_1 : Int), v5 = .int .u64 x5_1 ∧ v6 = .int .i64 x6_1 ∧ Aside0 (credenzaref20_shift.l0 kq a0 a1 x5_1 x6_1 = some r) ∧ Aside0 (kq ≤ k) ∧ Drawn0 w w')
  case atStart => exact ⟨(a0), (0), (by first | rfl | (simp; done) | (simp [*]; done)), (by first | rfl | (simp; done) | (simp [*]; done)), H', ⟨Nat.le_refl _⟩, by repeat (first | exact Drawn0.refl _ | apply Drawn0.step)⟩
  case round =>
    clear H'
    try clear p2
    obtain ⟨x5_1, x6_1, rfl, rfl, HA, HK1, ⟨m1, rfl⟩⟩ := hrel
    cases gk with
    | zero => exact absurd HA.out (by simp [credenzaref20_shift.l0])
    | succ k1 =>
      have H := HA.out
      clear HA
      simp only [credenzaref20_shift.l0] at H
      by_cases c3 : x6_1 < a1
      · rw [if_pos c3] at H
        have c3b0 : decide (x6_1 < a1) = true := decide_eq_true c3
        clear c3
        have H' := Aside0.mk H
        clear H
        go_wp2
        go_roundg k1
        case measure => have := HK1.out; omega
        case rel => exact ⟨(IntKind.u64.wrap (Int.tdiv x5_1 2)), (wrap64 (x6_1 + 1)), (by first | rfl | (simp; done) | (simp [*]; done)), (by first | rfl | (simp; done) | (simp [*]; done)), H', ⟨by have := HK1.out; omega⟩, by repeat (first | exact Drawn0.refl _ | apply Drawn0.step)⟩
      · rw [if_neg c3] at H
        have c3b0 : decide (x6_1 < a1) = false := decide_eq_false c3
        clear c3
        obtain rfl := Option.some.inj H
        go_wp2
        go_ret
        exact ⟨by first | rfl | (simp; done) | (simp [*]; done), by repeat (first | exact Drawn0.refl _ | apply Drawn0.step)⟩

end Go.Proofs.Ytmldhpnkkkmloaa.Q

namespace Go.Proofs.Ytmldhpnkkkmloaa.Q
open Go.RowKit Go.Proofs.YtmldhpnkkkmloaaW.PrintWords Go.Proofs.YtmldhpnkkkmloaaW.PrintLast Go.Proofs.YtmldhpnkkkmloaaW.PrintMore
attribute [local go_sem] max2_int min2_int max_two min_two max_three min_three max_four min_four   -- for this text's walks alone
set_option linter.unusedVariables false
set_option linter.unusedSimpArgs false

/-! ### credenzaref20_Draw: function 16 -/
def credenzaref20_Draw.f (k : Nat) (a0 : Int) (a1 : Int) : Option (Int) := (credenzaref20_shift.f k (IntKind.u64.wrap (a0 + (IntKind.u64.wrap ((IntKind.u64.wrap ((IntKind.u64.wrap (a1)) + 1)) * 11400714819323198485)))) 30).bind fun t306 => ((credenzaref20_shift.f k (IntKind.u64.wrap (t306 * 13787848793156543929)) 27).bind fun t307 => ((credenzaref20_shift.f k (IntKind.u64.wrap (t307 * 10723151780598845931)) 31).bind fun t308 => (some t308)))
theorem credenzaref20_Draw.mono : ∀ a0 a1 k, LeO (credenzaref20_Draw.f k a0 a1) (credenzaref20_Draw.f (k + 1) a0 a1) := by
  intro a0 a1 k
  unfold credenzaref20_Draw.f
  repeat' first
      | (with_reducible exact credenzaref20_shift.mono _ _ _)
      | (with_reducible exact LeO.refl _)
      | (with_reducible exact LeO.none _)
      | (with_reducible refine LeO.ite ?_ ?_)
      | (with_reducible refine LeO.bind ?_ (fun _ => ?_))
      | exact credenzaref20_shift.mono _ _ _
      | exact LeO.none _
      | refine LeO.ite ?_ ?_
      | refine LeO.bind ?_ (fun _ => ?_)
set_option maxHeartbeats 8000000 in
set_option maxRecDepth 100000 in
theorem credenzaref20_Draw.calls (k : Nat) (a0 : Int) (a1 : Int) (r : Int) (w : World) (h : credenzaref20_Draw.f k a0 a1 = some r) :
    Calls Try.prog 16 #[.int .u64 a0, .int .i64 a1] w fun e w' => e = .returned (.int .u64 r) ∧ Drawn0 w w' := by
  have H : ((credenzaref20_shift.f k (IntKind.u64.wrap (a0 + (IntKind.u64.wrap ((IntKind.u64.wrap ((IntKind.u64.wrap (a1)) + 1)) * 11400714819323198485)))) 30).bind fun t306 => ((credenzaref20_shift.f k (IntKind.u64.wrap (t306 * 13787848793156543929)) 27).bind fun t307 => ((credenzaref20_shift.f k (IntKind.u64.wrap (t307 * 10723151780598845931)) 31).bind fun t308 => (some t308)))) = some r := h
  clear h
  replace H := Option.bind_eq_some_iff.mp H
  obtain ⟨t306, A30, H⟩ := H
  replace H : ((credenzaref20_shift.f k (IntKind.u64.wrap (t306 * 13787848793156543929)) 27).bind fun t307 => ((credenzaref20_shift.f k (IntKind.u64.wrap (t307 * 10723151780598845931)) 31).bind fun t308 => (some t308))) = some r := H
  have A3 := Aside0.mk A30
  clear A30
  replace H := Option.bind_eq_some_iff.mp H
  obtain ⟨t307, A40, H⟩ := H
  replace H : ((credenzaref20_shift.f k (IntKind.u64.wrap (t307 * 10723151780598845931)) 31).bind fun t308 => (some t308)) = some r := H
  have A4 := Aside0.mk A40
  clear A40
  replace H := Option.bind_eq_some_iff.mp H
  obtain ⟨t308, A50, H⟩ := H
  replace H : (some t308) = some r := H
  have A5 := Aside0.mk A50
  clear A50
  obtain rfl := Option.some.inj H
  go_enter Try.func16, Try.ntmps16
  go_wp2_with (first | ((with_reducible refine gate_callee (f := 30) rfl ?_); refine goesL_ (some 13) rfl rfl Try.func30 (by kernel_rfl) rfl #[.int .u64 (IntKind.u64.wrap (a0 + (IntKind.u64.wrap ((IntKind.u64.wrap ((IntKind.u64.wrap (a1)) + 1)) * 11400714819323198485)))), .int .i64 30] rfl (by (try simp only [List.map_toArray, List.map_cons, List.map_nil]); first | done | rfl | (simp only [List.length_drop, List.length_take]; rfl)) ?_; (with_reducible refine (credenzaref20_shift.calls k (IntKind.u64.wrap (a0 + (IntKind.u64.wrap ((IntKind.u64.wrap ((IntKind.u64.wrap (a1)) + 1)) * 11400714819323198485)))) 30 t306 _ A3.out).mono ?_); rintro e w' ⟨rfl, ⟨nd, rfl⟩⟩; refine ⟨_, rfl, ?_⟩) | ((with_reducible refine gate_callee (f := 30) rfl ?_); refine goesL_ (some 16) rfl rfl Try.func30 (by kernel_rfl) rfl #[.int .u64 (IntKind.u64.wrap (t306 * 13787848793156543929)), .int .i64 27] rfl (by (try simp only [List.map_toArray, List.map_cons, List.map_nil]); first | done | rfl | (simp only [List.length_drop, List.length_take]; rfl)) ?_; (with_reducible refine (credenzaref20_shift.calls k (IntKind.u64.wrap (t306 * 13787848793156543929)) 27 t307 _ A4.out).mono ?_); rintro e w' ⟨rfl, ⟨nd, rfl⟩⟩; refine ⟨_, rfl, ?_⟩) | ((with_reducible refine gate_callee (f := 30) rfl ?_); refine goesL_ (some 19) rfl rfl Try.func30 (by kernel_rfl) rfl #[.int .u64 (IntKind.u64.wrap (t307 * 10723151780598845931)), .int .i64 31] rfl (by (try simp only [List.map_toArray, List.map_cons, List.map_nil]); first | done | rfl | (simp only [List.length_drop, List.length_take]; rfl)) ?_; (with_reducible refine (credenzaref20_shift.calls k (IntKind.u64.wrap (t307 * 10723151780598845931)) 31 t308 _ A5.out).mono ?_); rintro e w' ⟨rfl, ⟨nd, rfl⟩⟩; refine ⟨_, rfl, ?_⟩))
  go_ret
  exact ⟨by first | rfl | (simp; done) | (simp [*]; done), by repeat (first | exact Drawn0.refl _ | apply Drawn0.step)⟩

end Go.Proofs.Ytmldhpnkkkmloaa.Q

namespace Go.Proofs.Ytmldhpnkkkmloaa.Q
open Go.RowKit Go.Proofs.YtmldhpnkkkmloaaW.PrintWords Go.Proofs.YtmldhpnkkkmloaaW.PrintLast Go.Proofs.YtmldhpnkkkmloaaW.PrintMore
attribute [local go_sem] max2_int min2_int max_two min_two max_three min_three max_four min_four   -- for this text's walks alone
set_option linter.unusedVariables false
set_option linter.unusedSimpArgs false

/-! ### pick_Right: function 11 -/
def pick_Right.f (a0_0 : Int) (a0_1 : Int) (a0_2 : Int) : Option (Bool) := if a0_0 ≥ 0 then (if a0_0 ≤ 1048576 then (if a0_1 ≥ 0 then (some (decide (a0_1 ≤ 64))) else (some false)) else (some false)) else (some false)
set_option maxHeartbeats 8000000 in
set_option maxRecDepth 100000 in
theorem pick_Right.calls (a0_0 : Int) (a0_1 : Int) (a0_2 : Int) (r : Bool) (w : World) (h : pick_Right.f a0_0 a0_1 a0_2 = some r) :
    Calls Try.prog 11 #[.agg #[.int .i32 a0_0, .int .i64 a0_1, .int .u64 a0_2]] w fun e w' => e = .returned (.bool r) ∧ Below w.heap.size w w' := by
  have hu25 := Try.underlying25
  have HB := Aside0.mk (Below.refl w.heap.size w)
  have H : (if a0_0 ≥ 0 then (if a0_0 ≤ 1048576 then (if a0_1 ≥ 0 then (some (decide (a0_1 ≤ 64))) else (some false)) else (some false)) else (some false)) = some r := h
  clear h
  by_cases c2 : a0_0 ≥ 0
  · rw [if_pos c2] at H
    have c2b0 : decide (0 ≤ a0_0) = true := decide_eq_true c2
    clear c2
    by_cases c3 : a0_0 ≤ 1048576
    · rw [if_pos c3] at H
      have c3b0 : decide (a0_0 ≤ 1048576) = true := decide_eq_true c3
      clear c3
      by_cases c4 : a0_1 ≥ 0
      · rw [if_pos c4] at H
        have c4b0 : decide (0 ≤ a0_1) = true := decide_eq_true c4
        clear c4
        obtain rfl := Option.some.inj H
        go_enter Try.func11, Try.ntmps11
        go_wp2_with (first | ((with_reducible refine gate_dst (N := 1) rfl ?_); refine box_event ?hg (N := 1) ?hd (cs := #[.int .i32 a0_0, .int .i64 a0_1, .int .u64 a0_2]) (t := 25) ?hr ?_; (case hd => rfl); (case hg => rfl); (case hr => first | (go_simp; done) | (go_simp; rfl)); intro gb101 hg w5 hbox hb; have n0_ := Aside0.mk (below_step (by repeat (first | (with_reducible first | exact HB.out | apply below_alloc | apply pw_below_drewN | apply below_drew1) | exact HB.out)) hb); have n1_ := Aside0.mk (hbox); have n2_ := Aside0.mk ((by rw [hg]; exact (below_size (by repeat (first | (with_reducible first | exact HB.out | apply below_alloc | apply pw_below_drewN | apply below_drew1) | exact HB.out))) : w.heap.size ≤ gb101)); have n3_ := Aside0.mk ((by rw [hg]; exact (below_size (by repeat (first | (with_reducible first | exact HB.out | apply below_alloc | apply pw_below_drewN | apply below_drew1) | exact HB.out))) : w.heap.size ≤ gb101)); clear HB; have HB := n0_; have BK101 := n1_; have GW101 := n2_; have GE101 := n3_; clear n0_ n1_ n2_ n3_; clear hb hbox hg; have hcz6_0 : w5.cell? ⟨gb101, 0, none⟩ = some (.int .i32 a0_0) := (blk_cell BK101.out 0).trans rfl; have hcz6_1 : w5.cell? ⟨gb101, 1, none⟩ = some (.int .i64 a0_1) := (blk_cell BK101.out 1).trans rfl; have hcz6_2 : w5.cell? ⟨gb101, 2, none⟩ = some (.int .u64 a0_2) := (blk_cell BK101.out 2).trans rfl; have hfz6_0 := blk_frozen BK101.out 0; have hfz6_1 := blk_frozen BK101.out 1; have hfz6_2 := blk_frozen BK101.out 2))
        go_ret
        exact ⟨by first | rfl | (simp [errW_none, errW_some] <;> rfl) | (simp [*, errW_none, errW_some] <;> rfl), by repeat (first | (with_reducible first | exact HB.out | apply below_alloc | apply pw_below_drewN | apply below_drew1 | refine below_set ?_ GE101.out) | exact HB.out)⟩
      · rw [if_neg c4] at H
        have c4b0 : decide (0 ≤ a0_1) = false := decide_eq_false c4
        clear c4
        obtain rfl := Option.some.inj H
        go_enter Try.func11, Try.ntmps11
        go_wp2_with (first | ((with_reducible refine gate_dst (N := 1) rfl ?_); refine box_event ?hg (N := 1) ?hd (cs := #[.int .i32 a0_0, .int .i64 a0_1, .int .u64 a0_2]) (t := 25) ?hr ?_; (case hd => rfl); (case hg => rfl); (case hr => first | (go_simp; done) | (go_simp; rfl)); intro gb101 hg w7 hbox hb; have n0_ := Aside0.mk (below_step (by repeat (first | (with_reducible first | exact HB.out | apply below_alloc | apply pw_below_drewN | apply below_drew1) | exact HB.out)) hb); have n1_ := Aside0.mk (hbox); have n2_ := Aside0.mk ((by rw [hg]; exact (below_size (by repeat (first | (with_reducible first | exact HB.out | apply below_alloc | apply pw_below_drewN | apply below_drew1) | exact HB.out))) : w.heap.size ≤ gb101)); have n3_ := Aside0.mk ((by rw [hg]; exact (below_size (by repeat (first | (with_reducible first | exact HB.out | apply below_alloc | apply pw_below_drewN | apply below_drew1) | exact HB.out))) : w.heap.size ≤ gb101)); clear HB; have HB := n0_; have BK101 := n1_; have GW101 := n2_; have GE101 := n3_; clear n0_ n1_ n2_ n3_; clear hb hbox hg; have hcz8_0 : w7.cell? ⟨gb101, 0, none⟩ = some (.int .i32 a0_0) := (blk_cell BK101.out 0).trans rfl; have hcz8_1 : w7.cell? ⟨gb101, 1, none⟩ = some (.int .i64 a0_1) := (blk_cell BK101.out 1).trans rfl; have hcz8_2 : w7.cell? ⟨gb101, 2, none⟩ = some (.int .u64 a0_2) := (blk_cell BK101.out 2).trans rfl; have hfz8_0 := blk_frozen BK101.out 0; have hfz8_1 := blk_frozen BK101.out 1; have hfz8_2 := blk_frozen BK101.out 2))
        go_ret
        exact ⟨by first | rfl | (simp [errW_none, errW_some] <;> rfl) | (simp [*, errW_none, errW_some] <;> rfl), by repeat (first | (with_reducible first | exact HB.out | apply below_alloc | apply pw_below_drewN | apply below_drew1 | refine below_set ?_ GE101.out) | exact HB.out)⟩
    · rw [if_neg c3] at H
      have c3b0 : decide (a0_0 ≤ 1048576) = false := decide_eq_false c3
      clear c3
      obtain rfl := Option.some.inj H
      go_enter Try.func11, Try.ntmps11
      go_wp2_with (first | ((with_reducible refine gate_dst (N := 1) rfl ?_); refine box_event ?hg (N := 1) ?hd (cs := #[.int .i32 a0_0, .int .i64 a0_1, .int .u64 a0_2]) (t := 25) ?hr ?_; (case hd => rfl); (case hg => rfl); (case hr => first | (go_simp; done) | (go_simp; rfl)); intro gb101 hg w9 hbox hb; have n0_ := Aside0.mk (below_step (by repeat (first | (with_reducible first | exact HB.out | apply below_alloc | apply pw_below_drewN | apply below_drew1) | exact HB.out)) hb); have n1_ := Aside0.mk (hbox); have n2_ := Aside0.mk ((by rw [hg]; exact (below_size (by repeat (first | (with_reducible first | exact HB.out | apply below_alloc | apply pw_below_drewN | apply below_drew1) | exact HB.out))) : w.heap.size ≤ gb101)); have n3_ := Aside0.mk ((by rw [hg]; exact (below_size (by repeat (first | (with_reducible first | exact HB.out | apply below_alloc | apply pw_below_drewN | apply below_drew1) | exact HB.out))) : w.heap.size ≤ gb101)); clear HB; have HB := n0_; have BK101 := n1_; have GW101 := n2_; have GE101 := n3_; clear n0_ n1_ n2_ n3_; clear hb hbox hg; have hcz10_0 : w9.cell? ⟨gb101, 0, none⟩ = some (.int .i32 a0_0) := (blk_cell BK101.out 0).trans rfl; have hcz10_1 : w9.cell? ⟨gb101, 1, none⟩ = some (.int .i64 a0_1) := (blk_cell BK101.out 1).trans rfl; have hcz10_2 : w9.cell? ⟨gb101, 2, none⟩ = some (.int .u64 a0_2) := (blk_cell BK101.out 2).trans rfl; have hfz10_0 := blk_frozen BK101.out 0; have hfz10_1 := blk_frozen BK101.out 1; have hfz10_2 := blk_frozen BK101.out 2))
      go_ret
      exact ⟨by first | rfl | (simp [errW_none, errW_some] <;> rfl) | (simp [*, errW_none, errW_some] <;> rfl), by repeat (first | (with_reducible first | exact HB.out | apply below_alloc | apply pw_below_drewN | apply below_drew1 | refine below_set ?_ GE101.out) | exact HB.out)⟩
  · rw [if_neg c2] at H
    have c2b0 : decide (0 ≤ a0_0) = false := decide_eq_false c2
    clear c2
    obtain rfl := Option.some.inj H
    go_enter Try.func11, Try.ntmps11
    go_wp2_with (first | ((with_reducible refine gate_dst (N := 1) rfl ?_); refine box_event ?hg (N := 1) ?hd (cs := #[.int .i32 a0_0, .int .i64 a0_1, .int .u64 a0_2]) (t := 25) ?hr ?_; (case hd => rfl); (case hg => rfl); (case hr => first | (go_simp; done) | (go_simp; rfl)); intro gb101 hg w11 hbox hb; have n0_ := Aside0.mk (below_step (by repeat (first | (with_reducible first | exact HB.out | apply below_alloc | apply pw_below_drewN | apply below_drew1) | exact HB.out)) hb); have n1_ := Aside0.mk (hbox); have n2_ := Aside0.mk ((by rw [hg]; exact (below_size (by repeat (first | (with_reducible first | exact HB.out | apply below_alloc | apply pw_below_drewN | apply below_drew1) | exact HB.out))) : w.heap.size ≤ gb101)); have n3_ := Aside0.mk ((by rw [hg]; exact (below_size (by repeat (first | (with_reducible first | exact HB.out | apply below_alloc | apply pw_below_drewN | apply below_drew1) | exact HB.out))) : w.heap.size ≤ gb101)); clear HB; have HB := n0_; have BK101 := n1_; have GW101 := n2_; have GE101 := n3_; clear n0_ n1_ n2_ n3_; clear hb hbox hg; have hcz12_0 : w11.cell? ⟨gb101, 0, none⟩ = some (.int .i32 a0_0) := (blk_cell BK101.out 0).trans rfl; have hcz12_1 : w11.cell? ⟨gb101, 1, none⟩ = some (.int .i64 a0_1) := (blk_cell BK101.out 1).trans rfl; have hcz12_2 : w11.cell? ⟨gb101, 2, none⟩ = some (.int .u64 a0_2) := (blk_cell BK101.out 2).trans rfl; have hfz12_0 := blk_frozen BK101.out 0; have hfz12_1 := blk_frozen BK101.out 1; have hfz12_2 := blk_frozen BK101.out 2))
    go_ret
    exact ⟨by first | rfl | (simp [errW_none, errW_some] <;> rfl) | (simp [*, errW_none, errW_some] <;> rfl), by repeat (first | (with_reducible first | exact HB.out | apply below_alloc | apply pw_below_drewN | apply below_drew1 | refine below_set ?_ GE101.out) | exact HB.out)⟩

end Go.Proofs.Ytmldhpnkkkmloaa.Q

namespace Go.Proofs.Ytmldhpnkkkmloaa.Q
open Go.RowKit Go.Proofs.YtmldhpnkkkmloaaW.PrintWords Go.Proofs.YtmldhpnkkkmloaaW.PrintLast Go.Proofs.YtmldhpnkkkmloaaW.PrintMore
attribute [local go_sem] max2_int min2_int max_two min_two max_three min_three max_four min_four   -- for this text's walks alone
set_option linter.unusedVariables false
set_option linter.unusedSimpArgs false

/-! ### fix_Div: function 19 -/
mutual
def fix_Div.j0 : Nat → Int → Int → Int → Bool → Option (Int)
  | 0, _, _, _, _ => none
  | k + 1, x0, x5, x6, x19 => if x19 = true then (some 2147483647) else (if x6 = 0 then (fix_Div.j1 k x5 x6 (decide (x0 < 0))) else (fix_Div.j1 k x5 x6 false))
def fix_Div.j1 : Nat → Int → Int → Bool → Option (Int)
  | 0, _, _, _ => none
  | k + 1, x5, x6, x26 => if x26 = true then (some (-2147483648)) else ((fix_Ratio.f x5 x6).bind fun t230 => ((fix_Wide.f t230).bind fun t231 => (some t231)))
end
def fix_Div.f (k : Nat) (a0 : Int) (a1 : Int) : Option (Int) := if (wrap64 (a1)) < 0 then ((fix_Ratio.f (wrap64 (-(wrap64 ((wrap64 (a0)) * 65536)))) (wrap64 (-(wrap64 (a1))))).bind fun t228 => ((fix_Wide.f t228).bind fun t229 => (some t229))) else (if (wrap64 (a1)) = 0 then (fix_Div.j0 k a0 (wrap64 ((wrap64 (a0)) * 65536)) (wrap64 (a1)) (decide (a0 > 0))) else (fix_Div.j0 k a0 (wrap64 ((wrap64 (a0)) * 65536)) (wrap64 (a1)) false))
theorem fix_Div.mono_l : ∀ k, (∀ y0 y1 y2 y3, LeO (fix_Div.j0 k y0 y1 y2 y3) (fix_Div.j0 (k + 1) y0 y1 y2 y3)) ∧ (∀ y0 y1 y2, LeO (fix_Div.j1 k y0 y1 y2) (fix_Div.j1 (k + 1) y0 y1 y2))
  | 0 => ⟨fun _ _ _ _ r h => by simp [fix_Div.j0] at h, fun _ _ _ r h => by simp [fix_Div.j1] at h⟩
  | k + 1 => by
    obtain ⟨ih0, ih1⟩ := fix_Div.mono_l k
    refine ⟨?_, ?_⟩
    · intro y0 y1 y2 y3
      unfold fix_Div.j0
      repeat' first
      | (with_reducible exact ih0 _ _ _ _)
      | (with_reducible exact ih1 _ _ _)
      | (with_reducible exact LeO.refl _)
      | (with_reducible exact LeO.none _)
      | (with_reducible refine LeO.ite ?_ ?_)
      | (with_reducible refine LeO.bind ?_ (fun _ => ?_))
      | exact ih0 _ _ _ _
      | exact ih1 _ _ _
      | exact LeO.none _
      | refine LeO.ite ?_ ?_
      | refine LeO.bind ?_ (fun _ => ?_)
    · intro y0 y1 y2
      unfold fix_Div.j1
      repeat' first
      | (with_reducible exact ih0 _ _ _ _)
      | (with_reducible exact ih1 _ _ _)
      | (with_reducible exact LeO.refl _)
      | (with_reducible exact LeO.none _)
      | (with_reducible refine LeO.ite ?_ ?_)
      | (with_reducible refine LeO.bind ?_ (fun _ => ?_))
      | exact ih0 _ _ _ _
      | exact ih1 _ _ _
      | exact LeO.none _
      | refine LeO.ite ?_ ?_
      | refine LeO.bind ?_ (fun _ => ?_)
theorem fix_Div.mono : ∀ a0 a1 k, LeO (fix_Div.f k a0 a1) (fix_Div.f (k + 1) a0 a1) := by
  intro a0 a1 k
  obtain ⟨ih0, ih1⟩ := fix_Div.mono_l k
  unfold fix_Div.f
  repeat' first
      | (with_reducible exact ih0 _ _ _ _)
      | (with_reducible exact ih1 _ _ _)
      | (with_reducible exact LeO.refl _)
      | (with_reducible exact LeO.none _)
      | (with_reducible refine LeO.ite ?_ ?_)
      | (with_reducible refine LeO.bind ?_ (fun _ => ?_))
      | exact ih0 _ _ _ _
      | exact ih1 _ _ _
      | exact LeO.none _
      | refine LeO.ite ?_ ?_
      | refine LeO.bind ?_ (fun _ => ?_)
set_option maxHeartbeats 8000000 in
set_option maxRecDepth 100000 in
theorem fix_Div.calls (k : Nat) (a0 : Int) (a1 : Int) (r : Int) (w : World) (h : fix_Div.f k a0 a1 = some r) :
    Calls Try.prog 19 #[.int .i32 a0, .int .i32 a1] w fun e w' => e = .returned (.int .i32 r) ∧ Below w.heap.size w w' := by
  have HB := Aside0.mk (Below.refl w.heap.size w)
  have H : (if (wrap64 (a1)) < 0 then ((fix_Ratio.f (wrap64 (-(wrap64 ((wrap64 (a0)) * 65536)))) (wrap64 (-(wrap64 (a1))))).bind fun t228 => ((fix_Wide.f t228).bind fun t229 => (some t229))) else (if (wrap64 (a1)) = 0 then (fix_Div.j0 k a0 (wrap64 ((wrap64 (a0)) * 65536)) (wrap64 (a1)) (decide (a0 > 0))) else (fix_Div.j0 k a0 (wrap64 ((wrap64 (a0)) * 65536)) (wrap64 (a1)) false))) = some r := h
  clear h
  by_cases c3 : (wrap64 (a1)) < 0
  · rw [if_pos c3] at H
    have c3b0 : decide ((wrap64 (a1)) < 0) = true := decide_eq_true c3
    clear c3
    replace H := Option.bind_eq_some_iff.mp H
    obtain ⟨t228, A40, H⟩ := H
    replace H : ((fix_Wide.f t228).bind fun t229 => (some t229)) = some r := H
    have A4 := Aside0.mk A40
    clear A40
    replace H := Option.bind_eq_some_iff.mp H
    obtain ⟨t229, A50, H⟩ := H
    replace H : (some t229) = some r := H
    have A5 := Aside0.mk A50
    clear A50
    obtain rfl := Option.some.inj H
    go_enter Try.func19, Try.ntmps19
    go_wp2_with (first | ((with_reducible refine gate_callee (f := 34) rfl ?_); refine goesL_ (some 35) rfl rfl Try.func34 (by kernel_rfl) rfl #[.int .i64 (wrap64 (-(wrap64 ((wrap64 (a0)) * 65536)))), .int .i64 (wrap64 (-(wrap64 (a1))))] rfl (by (try simp only [List.map_toArray, List.map_cons, List.map_nil]); first | done | rfl | (simp only [List.length_drop, List.length_take]; rfl)) ?_; (with_reducible refine (fix_Ratio.calls (wrap64 (-(wrap64 ((wrap64 (a0)) * 65536)))) (wrap64 (-(wrap64 (a1)))) t228 _ A4.out).mono ?_); rintro e w' ⟨rfl, ⟨nd, rfl⟩⟩; refine ⟨_, rfl, ?_⟩) | ((with_reducible refine gate_callee (f := 33) rfl ?_); refine goesL_ (some 36) rfl rfl Try.func33 (by kernel_rfl) rfl #[.int .i64 t228] rfl (by (try simp only [List.map_toArray, List.map_cons, List.map_nil]); first | done | rfl | (simp only [List.length_drop, List.length_take]; rfl)) ?_; (with_reducible refine (fix_Wide.calls t228 t229 _ A5.out).mono ?_); rintro e w6 ⟨rfl, hb⟩; refine ⟨_, rfl, ?_⟩; have n0_ := Aside0.mk (below_step (by repeat (first | (with_reducible first | exact HB.out | apply below_alloc | apply pw_below_drewN | apply below_drew1) | exact HB.out)) hb); clear HB; have HB := n0_; clear n0_; (try clear hb); (try clear hb2); (try clear hk); (try clear hi)))
    go_ret
    exact ⟨by first | rfl | (simp [errW_none, errW_some] <;> rfl) | (simp [*, errW_none, errW_some] <;> rfl), by repeat (first | (with_reducible first | exact HB.out | apply below_alloc | apply pw_below_drewN | apply below_drew1) | exact HB.out)⟩
  · rw [if_neg c3] at H
    have c3b0 : decide ((wrap64 (a1)) < 0) = false := decide_eq_false c3
    clear c3
    have HC7 := Aside0.mk H
    clear H
    go_enter Try.func19, Try.ntmps19
    go_upto_region 4 with (fail)
    go_cut [19] (fun v19 wc => ∃ (kq : Nat) (x19_6 : Bool), v19 = .bool x19_6 ∧ Aside0 (fix_Div.j0 kq a0 (wrap64 ((wrap64 (a0)) * 65536)) (wrap64 (a1)) x19_6 = some r) ∧ Aside0 (kq ≤ k) ∧ Aside0 (Below w.heap.size w wc))
    case first =>
      have H := HC7.out
      clear HC7
      by_cases c8 : (wrap64 (a1)) = 0
      · rw [if_pos c8] at H
        have c8b0 : ((wrap64 (a1)) == 0) = true := beq_iff_eq.mpr c8
        have c8b1 : ((wrap64 (a1)) != 0) = false := bne_eq_false_iff_eq.mpr c8
        clear c8
        (first | rw [c8b0] | (simp only [i64_w, i32_w]; rw [c8b0]) | skip)
        have H' := Aside0.mk H
        clear H
        go_wp2
        go_meet
        case rel => exact ⟨_, (decide (a0 > 0)), (by first | rfl | (simp; done) | (simp [*]; done)), H', ⟨by first | omega | exact Nat.le_refl _⟩, ⟨by repeat (first | (with_reducible first | exact HB.out | apply below_alloc | apply pw_below_drewN | apply below_drew1) | exact HB.out)⟩⟩
      · rw [if_neg c8] at H
        have c8b0 : ((wrap64 (a1)) == 0) = false := beq_eq_false_iff_ne.mpr c8
        have c8b1 : ((wrap64 (a1)) != 0) = true := bne_iff_ne.mpr c8
        (first | rw [c8b0] | (simp only [i64_w, i32_w]; rw [c8b0]) | skip)
        have H' := Aside0.mk H
        clear H
        go_wp2
        go_meet
        case rel => exact ⟨_, (false), (by first | rfl | (simp; done) | (simp [*]; done)), H', ⟨by first | omega | exact Nat.le_refl _⟩, ⟨by repeat (first | (with_reducible first | exact HB.out | apply below_alloc | apply pw_below_drewN | apply below_drew1) | exact HB.out)⟩⟩
    case rest =>
      clear HC7
      try clear c1
      try clear p2
      try clear c3
      try clear c3b0
      try clear p6
      try clear c8
      try clear c8b0
      try clear c8b1
      obtain ⟨kq, x19_6, rfl, HA, HJ6, HB⟩ := hcut
      cases kq with
      | zero => exact absurd HA.out (by simp [fix_Div.j0])
      | succ kj6 =>
        have H := HA.out
        clear HA
        simp only [fix_Div.j0] at H
        by_cases c9 : x19_6 = true
        · subst c9
          have H1 : (some 2147483647) = some r := by rw [if_pos rfl] at H; exact H
          clear H
          have H := H1
          clear H1
          obtain rfl := Option.some.inj H
          go_wp2
          go_ret
          exact ⟨by first | rfl | (simp [errW_none, errW_some] <;> rfl) | (simp [*, errW_none, errW_some] <;> rfl), by repeat (first | (with_reducible first | exact HB.out | apply below_alloc | apply pw_below_drewN | apply below_drew1) | exact HB.out)⟩
        · replace c9 := Bool.eq_false_iff.mpr c9
          subst c9
          have H1 : (if (wrap64 (a1)) = 0 then (fix_Div.j1 kj6 (wrap64 ((wrap64 (a0)) * 65536)) (wrap64 (a1)) (decide (a0 < 0))) else (fix_Div.j1 kj6 (wrap64 ((wrap64 (a0)) * 65536)) (wrap64 (a1)) false)) = some r := by rw [if_neg (show ¬ (false = true) by decide)] at H; exact H
          clear H
          have H := H1
          clear H1
          have HC10 := Aside0.mk H
          clear H
          go_upto_region 6 with (fail)
          go_cut [26] (fun v26 wc => ∃ (kq : Nat) (x26_9 : Bool), v26 = .bool x26_9 ∧ Aside0 (fix_Div.j1 kq (wrap64 ((wrap64 (a0)) * 65536)) (wrap64 (a1)) x26_9 = some r) ∧ Aside0 (kq ≤ kj6) ∧ Aside0 (Below w.heap.size w wc))
          case first =>
            have H := HC10.out
            clear HC10
            by_cases c11 : (wrap64 (a1)) = 0
            · rw [if_pos c11] at H
              have c11b0 : ((wrap64 (a1)) == 0) = true := beq_iff_eq.mpr c11
              have c11b1 : ((wrap64 (a1)) != 0) = false := bne_eq_false_iff_eq.mpr c11
              clear c11
              (first | rw [c11b0] | (simp only [i64_w, i32_w]; rw [c11b0]) | skip)
              have H' := Aside0.mk H
              clear H
              go_wp2
              go_meet
              case rel => exact ⟨_, (decide (a0 < 0)), (by first | rfl | (simp; done) | (simp [*]; done)), H', ⟨by have := HJ6.out; first | omega | exact Nat.le_refl _⟩, ⟨by repeat (first | (with_reducible first | exact HB.out | apply below_alloc | apply pw_below_drewN | apply below_drew1) | exact HB.out)⟩⟩
            · rw [if_neg c11] at H
              have c11b0 : ((wrap64 (a1)) == 0) = false := beq_eq_false_iff_ne.mpr c11
              have c11b1 : ((wrap64 (a1)) != 0) = true := bne_iff_ne.mpr c11
              (first | rw [c11b0] | (simp only [i64_w, i32_w]; rw [c11b0]) | skip)
              have H' := Aside0.mk H
              clear H
              go_wp2
              go_meet
              case rel => exact ⟨_, (false), (by first | rfl | (simp; done) | (simp [*]; done)), H', ⟨by have := HJ6.out; first | omega | exact Nat.le_refl _⟩, ⟨by repeat (first | (with_reducible first | exact HB.out | apply below_alloc | apply pw_below_drewN | apply below_drew1) | exact HB.out)⟩⟩
          case rest =>
            clear HC10
            try clear c1
            try clear p2
            try clear c3
            try clear c3b0
            try clear p6
            try clear c8
            try clear c8b0
            try clear c8b1
            try clear c9
            try clear c11
            try clear c11b0
            try clear c11b1
            try clear p2
            try clear p6
            obtain ⟨kq, x26_9, rfl, HA, HJ9, HB⟩ := hcut
            cases kq with
            | zero => exact absurd HA.out (by simp [fix_Div.j1])
            | succ kj9 =>
              have H := HA.out
              clear HA
              simp only [fix_Div.j1] at H
              by_cases c12 : x26_9 = true
              · subst c12
                have H1 : (some (-2147483648)) = some r := by rw [if_pos rfl] at H; exact H
                clear H
                have H := H1
                clear H1
                obtain rfl := Option.some.inj H
                go_wp2
                go_ret
                exact ⟨by first | rfl | (simp [errW_none, errW_some] <;> rfl) | (simp [*, errW_none, errW_some] <;> rfl), by repeat (first | (with_reducible first | exact HB.out | apply below_alloc | apply pw_below_drewN | apply below_drew1) | exact HB.out)⟩
              · replace c12 := Bool.eq_false_iff.mpr c12
                subst c12
                have H1 : ((fix_Ratio.f (wrap64 ((wrap64 (a0)) * 65536)) (wrap64 (a1))).bind fun t230 => ((fix_Wide.f t230).bind fun t231 => (some t231))) = some r := by rw [if_neg (show ¬ (false = true) by decide)] at H; exact H
                clear H
                have H := H1
                clear H1
                replace H := Option.bind_eq_some_iff.mp H
                obtain ⟨t230, A130, H⟩ := H
                replace H : ((fix_Wide.f t230).bind fun t231 => (some t231)) = some r := H
                have A13 := Aside0.mk A130
                clear A130
                replace H := Option.bind_eq_some_iff.mp H
                obtain ⟨t231, A140, H⟩ := H
                replace H : (some t231) = some r := H
                have A14 := Aside0.mk A140
                clear A140
                obtain rfl := Option.some.inj H
                go_wp2_with (first | ((with_reducible refine gate_callee (f := 34) rfl ?_); refine goesL_ (some 35) rfl rfl Try.func34 (by kernel_rfl) rfl #[.int .i64 (wrap64 ((wrap64 (a0)) * 65536)), .int .i64 (wrap64 (a1))] rfl (by (try simp only [List.map_toArray, List.map_cons, List.map_nil]); first | done | rfl | (simp only [List.length_drop, List.length_take]; rfl)) ?_; (with_reducible refine (fix_Ratio.calls (wrap64 ((wrap64 (a0)) * 65536)) (wrap64 (a1)) t230 _ A13.out).mono ?_); rintro e w' ⟨rfl, ⟨nd, rfl⟩⟩; refine ⟨_, rfl, ?_⟩) | ((with_reducible refine gate_callee (f := 33) rfl ?_); refine goesL_ (some 36) rfl rfl Try.func33 (by kernel_rfl) rfl #[.int .i64 t230] rfl (by (try simp only [List.map_toArray, List.map_cons, List.map_nil]); first | done | rfl | (simp only [List.length_drop, List.length_take]; rfl)) ?_; (with_reducible refine (fix_Wide.calls t230 t231 _ A14.out).mono ?_); rintro e w15 ⟨rfl, hb⟩; refine ⟨_, rfl, ?_⟩; have n0_ := Aside0.mk (below_step (by repeat (first | (with_reducible first | exact HB.out | apply below_alloc | apply pw_below_drewN | apply below_drew1) | exact HB.out)) hb); clear HB; have HB := n0_; clear n0_; (try clear hb); (try clear hb2); (try clear hk); (try clear hi)))
                go_ret
                exact ⟨by first | rfl | (simp [errW_none, errW_some] <;> rfl) | (simp [*, errW_none, errW_some] <;> rfl), by repeat (first | (with_reducible first | exact HB.out | apply below_alloc | apply pw_below_drewN | apply below_drew1) | exact HB.out)⟩

end Go.Proofs.Ytmldhpnkkkmloaa.Q

namespace Go.Proofs.Ytmldhpnkkkmloaa.Q
open Go.RowKit Go.Proofs.YtmldhpnkkkmloaaW.PrintWords Go.Proofs.YtmldhpnkkkmloaaW.PrintLast Go.Proofs.YtmldhpnkkkmloaaW.PrintMore
attribute [local go_sem] max2_int min2_int max_two min_two max_three min_three max_four min_four   -- for this text's walks alone
set_option linter.unusedVariables false
set_option linter.unusedSimpArgs false

/-! ### soft_Sum: function 21 -/
def soft_Sum.l0 : Nat → Int → List Int → Int → Int → Option (Int)
  | 0, _, _, _, _ => none
  | k + 1, x3, x6, x7, x8 => if x8 < x7 then (if 0 ≤ x8 then (if x8 < (x6.length : Int) then (soft_Sum.l0 k (wrap64 (x3 + (rd x6 x8))) x6 x7 (wrap64 (x8 + 1))) else (none)) else (none)) else (some x3)
def soft_Sum.f (k : Nat) (l0 : List Int) : Option (Int) := soft_Sum.l0 k 0 l0 (l0.length : Int) 0
theorem soft_Sum.mono_l : ∀ k, (∀ y0 y1 y2 y3, LeO (soft_Sum.l0 k y0 y1 y2 y3) (soft_Sum.l0 (k + 1) y0 y1 y2 y3))
  | 0 => fun _ _ _ _ r h => by simp [soft_Sum.l0] at h
  | k + 1 => by
    have ih0 := soft_Sum.mono_l k
    · intro y0 y1 y2 y3
      unfold soft_Sum.l0
      repeat' first
      | (with_reducible exact ih0 _ _ _ _)
      | (with_reducible exact LeO.refl _)
      | (with_reducible exact LeO.none _)
      | (with_reducible refine LeO.ite ?_ ?_)
      | (with_reducible refine LeO.bind ?_ (fun _ => ?_))
      | exact ih0 _ _ _ _
      | exact LeO.none _
      | refine LeO.ite ?_ ?_
      | refine LeO.bind ?_ (fun _ => ?_)
theorem soft_Sum.mono : ∀ a0 k, LeO (soft_Sum.f k a0) (soft_Sum.f (k + 1) a0) := by
  intro a0 k
  have ih0 := soft_Sum.mono_l k
  unfold soft_Sum.f
  repeat' first
      | (with_reducible exact ih0 _ _ _ _)
      | (with_reducible exact LeO.refl _)
      | (with_reducible exact LeO.none _)
      | (with_reducible refine LeO.ite ?_ ?_)
      | (with_reducible refine LeO.bind ?_ (fun _ => ?_))
      | exact ih0 _ _ _ _
      | exact LeO.none _
      | refine LeO.ite ?_ ?_
      | refine LeO.bind ?_ (fun _ => ?_)
set_option maxHeartbeats 8000000 in
set_option maxRecDepth 100000 in
theorem soft_Sum.calls (k : Nat) (A0 : Option Addr) (c0 : Nat) (l0 : List Int) (r : Int) (w : World) (hr0 : Kd.C (Kd.int .i64) w A0 l0.length l0) (hc0 : l0.length ≤ c0) (h : soft_Sum.f k l0 = some r) :
    Calls Try.prog 21 #[.slice A0 l0.length c0] w fun e w' => e = .returned (.int .i64 r) ∧ Drawn0 w w' := by
  have HR0 := Aside0.mk hr0
  have HC0 := Aside0.mk hc0
  clear hr0 hc0
  have H : (soft_Sum.l0 k 0 l0 (l0.length : Int) 0) = some r := h
  clear h
  have H' := Aside0.mk H
  clear H
  go_enter Try.func21, Try.ntmps21
  go_wp2
  go_loopg [3, 8] k (fun kq v3 v8 w' => ∃ (x3_1 : Int) (x8_1 : Int), v3 = .int .i64 x3_1 ∧ v8 = .int .i64 x8_1 ∧ Aside0 (soft_Sum.l0 kq x3_1 l0 (l0.length : Int) x8_1 = some r) ∧ Aside0 (kq ≤ k) ∧ Drawn0 w w')
  case atStart => exact ⟨(0), (0), (by first | rfl | (simp; done) | (simp [*]; done)), (by first | rfl | (simp; done) | (simp [*]; done)), H', ⟨Nat.le_refl _⟩, by repeat (first | exact Drawn0.refl _ | apply Drawn0.step)⟩
  case round =>
    clear H'
    obtain ⟨x3_1, x8_1, rfl, rfl, HA, HK1, ⟨m1, rfl⟩⟩ := hrel
    cases gk with
    | zero => exact absurd HA.out (by simp [soft_Sum.l0])
    | succ k1 =>
      have H := HA.out
      clear HA
      simp only [soft_Sum.l0] at H
      by_cases c2 : x8_1 < (l0.length : Int)
      · rw [if_pos c2] at H
        have c2b0 : decide (x8_1 < (l0.length : Int)) = true := decide_eq_true c2
        clear c2
        by_cases c3 : 0 ≤ x8_1
        · rw [if_pos c3] at H
          have c3b0 : decide (0 ≤ x8_1) = true := decide_eq_true c3
          clear c3
          by_cases c4 : x8_1 < (l0.length : Int)
          · rw [if_pos c4] at H
            have c4b0 : decide (x8_1 < (l0.length : Int)) = true := decide_eq_true c4
            clear c4
            have H' := Aside0.mk H
            clear H
            have p245 : 0 ≤ (x8_1 : Int) := of_decide_eq_true (by first | (with_reducible assumption) | assumption)
            have q245 : x8_1 < (l0.length : Int) := of_decide_eq_true (by first | (with_reducible assumption) | assumption)
            obtain ⟨ad245, e245, hx245_0⟩ := Kd.at_int HR0.out x8_1 p245 q245
            cases e245
            replace p245 := eq_true p245
            replace q245 := eq_true q245
            go_wp2
            go_roundg k1
            case measure => have := HK1.out; omega
            case rel => exact ⟨(wrap64 (x3_1 + (rd l0 x8_1))), (wrap64 (x8_1 + 1)), (by first | rfl | (simp; done) | (simp [*]; done)), (by first | rfl | (simp; done) | (simp [*]; done)), H', ⟨by have := HK1.out; omega⟩, by repeat (first | exact Drawn0.refl _ | apply Drawn0.step)⟩
          · rw [if_neg c4] at H
            exact absurd H (by simp)
        · rw [if_neg c3] at H
          exact absurd H (by simp)
      · rw [if_neg c2] at H
        have c2b0 : decide (x8_1 < (l0.length : Int)) = false := decide_eq_false c2
        clear c2
        obtain rfl := Option.some.inj H
        go_wp2
        go_ret
        exact ⟨by first | rfl | (simp; done) | (simp [*]; done), by repeat (first | exact Drawn0.refl _ | apply Drawn0.step)⟩

end Go.Proofs.Ytmldhpnkkkmloaa.Q

namespace Go.Proofs.Ytmldhpnkkkmloaa.Q
open Go.RowKit Go.Proofs.YtmldhpnkkkmloaaW.PrintWords Go.Proofs.YtmldhpnkkkmloaaW.PrintLast Go.Proofs.YtmldhpnkkkmloaaW.PrintMore
attribute [local go_sem] max2_int min2_int max_two min_two max_three min_three max_four min_four   -- for this text's walks alone
set_option linter.unusedVariables false
set_option linter.unusedSimpArgs false

/-! ### pick_Pick: function 9 -/
mutual
def pick_Pick.j0 : Nat → List Int → Int → Bool → Int → Int → Int → Option (Int × Int)
  | 0, _, _, _, _, _, _ => none
  | k + 1, x0, x2, x27, x247000, x247001, x247002 => if x27 = true then (some (0, 11)) else (if x247000 = 0 then ((dot_Top.f k x0).bind fun bt248 => (some (bt248.1, bt248.2.2))) else ((pick_Kept.f x0 x247001).bind fun t251 => (pick_Pick.l0 k x0 x2 t251 ([] : List Int) t251 (t251.length : Int) 0 x247000 x247001 x247002)))
def pick_Pick.l0 : Nat → List Int → Int → List Int → List Int → List Int → Int → Int → Int → Int → Int → Option (Int × Int)
  | 0, _, _, _, _, _, _, _, _, _, _ => none
  | k + 1, x0, x2, x11, x12, x55, x56, x57, x247000, x247001, x247002 => if x57 < x56 then (if 0 ≤ x57 then (if x57 < (x55.length : Int) then (if 0 ≤ (rd x55 x57) then (if (rd x55 x57) < (x0.length : Int) then ((fix_Div.f k (rd x0 (rd x55 x57)) x247000).bind fun t256 => (if x12.length < 35184372088832 then (pick_Pick.l0 k x0 x2 x11 (x12 ++ [t256]) x55 x56 (wrap64 (x57 + 1)) x247000 x247001 x247002) else (none))) else (none)) else (none)) else (none)) else (none)) else ((soft_Weights.f k x12).bind fun bt260 => (if bt260.2 = 0 then ((pick_Draw.f x247002 x2).bind fun t264 => ((soft_Sum.f k bt260.1).bind fun t265 => (if (IntKind.u64.wrap (t265)) = 0 then (none) else (pick_Pick.l1 k x11 bt260.1 (wrap64 (Int.tmod t264 (IntKind.u64.wrap (t265)))) 0)))) else (some (0, bt260.2))))
def pick_Pick.l1 : Nat → List Int → List Int → Int → Int → Option (Int × Int)
  | 0, _, _, _, _ => none
  | k + 1, x11, x15, x17, x18 => if 0 ≤ x18 then (if x18 < (x15.length : Int) then (if x17 ≥ (rd x15 x18) then (pick_Pick.l1 k x11 x15 (wrap64 (x17 - (rd x15 x18))) (wrap64 (x18 + 1))) else (if x18 < (x11.length : Int) then (some (rd x11 x18, 0)) else (none))) else (none)) else (none)
end
def pick_Pick.f (k : Nat) (l0 : List Int) (a1_0 : Int) (a1_1 : Int) (a1_2 : Int) (a2 : Int) : Option (Int × Int) := if (l0.length : Int) = 0 then (some (0, 14)) else (if (l0.length : Int) > 64 then (some (0, 12)) else ((pick_Right.f a1_0 a1_1 a1_2).bind fun t247 => (if t247 = true then (if a2 < 0 then (pick_Pick.j0 k l0 a2 true a1_0 a1_1 a1_2) else (pick_Pick.j0 k l0 a2 (decide (a2 > 1024)) a1_0 a1_1 a1_2)) else (pick_Pick.j0 k l0 a2 true a1_0 a1_1 a1_2))))
theorem pick_Pick.mono_l : ∀ k, (∀ y0 y1 y2 y3 y4 y5, LeO (pick_Pick.j0 k y0 y1 y2 y3 y4 y5) (pick_Pick.j0 (k + 1) y0 y1 y2 y3 y4 y5)) ∧ (∀ y0 y1 y2 y3 y4 y5 y6 y7 y8 y9, LeO (pick_Pick.l0 k y0 y1 y2 y3 y4 y5 y6 y7 y8 y9) (pick_Pick.l0 (k + 1) y0 y1 y2 y3 y4 y5 y6 y7 y8 y9)) ∧ (∀ y0 y1 y2 y3, LeO (pick_Pick.l1 k y0 y1 y2 y3) (pick_Pick.l1 (k + 1) y0 y1 y2 y3))
  | 0 => ⟨fun _ _ _ _ _ _ r h => by simp [pick_Pick.j0] at h, fun _ _ _ _ _ _ _ _ _ _ r h => by simp [pick_Pick.l0] at h, fun _ _ _ _ r h => by simp [pick_Pick.l1] at h⟩
  | k + 1 => by
    obtain ⟨ih0, ih1, ih2⟩ := pick_Pick.mono_l k
    refine ⟨?_, ?_, ?_⟩
    · intro y0 y1 y2 y3 y4 y5
      unfold pick_Pick.j0
      repeat' first
      | (with_reducible exact ih0 _ _ _ _ _ _)
      | (with_reducible exact ih1 _ _ _ _ _ _ _ _ _ _)
      | (with_reducible exact ih2 _ _ _ _)
      | (with_reducible exact dot_Top.mono _ _)
      | (with_reducible exact fix_Div.mono _ _ _)
      | (with_reducible exact soft_Sum.mono _ _)
      | (with_reducible exact soft_Weights.mono _ _)
      | (with_reducible exact LeO.refl _)
      | (with_reducible exact LeO.none _)
      | (with_reducible refine LeO.ite ?_ ?_)
      | (with_reducible refine LeO.bind ?_ (fun _ => ?_))
      | exact ih0 _ _ _ _ _ _
      | exact ih1 _ _ _ _ _ _ _ _ _ _
      | exact ih2 _ _ _ _
      | exact dot_Top.mono _ _
      | exact fix_Div.mono _ _ _
      | exact soft_Sum.mono _ _
      | exact soft_Weights.mono _ _
      | exact LeO.none _
      | refine LeO.ite ?_ ?_
      | refine LeO.bind ?_ (fun _ => ?_)
    · intro y0 y1 y2 y3 y4 y5 y6 y7 y8 y9
      unfold pick_Pick.l0
      repeat' first
      | (with_reducible exact ih0 _ _ _ _ _ _)
      | (with_reducible exact ih1 _ _ _ _ _ _ _ _ _ _)
      | (with_reducible exact ih2 _ _ _ _)
      | (with_reducible exact dot_Top.mono _ _)
      | (with_reducible exact fix_Div.mono _ _ _)
      | (with_reducible exact soft_Sum.mono _ _)
      | (with_reducible exact soft_Weights.mono _ _)
      | (with_reducible exact LeO.refl _)
      | (with_reducible exact LeO.none _)
      | (with_reducible refine LeO.ite ?_ ?_)
      | (with_reducible refine LeO.bind ?_ (fun _ => ?_))
      | exact ih0 _ _ _ _ _ _
      | exact ih1 _ _ _ _ _ _ _ _ _ _
      | exact ih2 _ _ _ _
      | exact dot_Top.mono _ _
      | exact fix_Div.mono _ _ _
      | exact soft_Sum.mono _ _
      | exact soft_Weights.mono _ _
      | exact LeO.none _
      | refine LeO.ite ?_ ?_
      | refine LeO.bind ?_ (fun _ => ?_)
    · intro y0 y1 y2 y3
      unfold pick_Pick.l1
      repeat' first
      | (with_reducible exact ih0 _ _ _ _ _ _)
      | (with_reducible exact ih1 _ _ _ _ _ _ _ _ _ _)
      | (with_reducible exact ih2 _ _ _ _)
      | (with_reducible exact dot_Top.mono _ _)
      | (with_reducible exact fix_Div.mono _ _ _)
      | (with_reducible exact soft_Sum.mono _ _)
      | (with_reducible exact soft_Weights.mono _ _)
      | (with_reducible exact LeO.refl _)
      | (with_reducible exact LeO.none _)
      | (with_reducible refine LeO.ite ?_ ?_)
      | (with_reducible refine LeO.bind ?_ (fun _ => ?_))
      | exact ih0 _ _ _ _ _ _
      | exact ih1 _ _ _ _ _ _ _ _ _ _
      | exact ih2 _ _ _ _
      | exact dot_Top.mono _ _
      | exact fix_Div.mono _ _ _
      | exact soft_Sum.mono _ _
      | exact soft_Weights.mono _ _
      | exact LeO.none _
      | refine LeO.ite ?_ ?_
      | refine LeO.bind ?_ (fun _ => ?_)
theorem pick_Pick.mono : ∀ a0 a1 a2 a3 a4 k, LeO (pick_Pick.f k a0 a1 a2 a3 a4) (pick_Pick.f (k + 1) a0 a1 a2 a3 a4) := by
  intro a0 a1 a2 a3 a4 k
  obtain ⟨ih0, ih1, ih2⟩ := pick_Pick.mono_l k
  unfold pick_Pick.f
  repeat' first
      | (with_reducible exact ih0 _ _ _ _ _ _)
      | (with_reducible exact ih1 _ _ _ _ _ _ _ _ _ _)
      | (with_reducible exact ih2 _ _ _ _)
      | (with_reducible exact dot_Top.mono _ _)
      | (with_reducible exact fix_Div.mono _ _ _)
      | (with_reducible exact soft_Sum.mono _ _)
      | (with_reducible exact soft_Weights.mono _ _)
      | (with_reducible exact LeO.refl _)
      | (with_reducible exact LeO.none _)
      | (with_reducible refine LeO.ite ?_ ?_)
      | (with_reducible refine LeO.bind ?_ (fun _ => ?_))
      | exact ih0 _ _ _ _ _ _
      | exact ih1 _ _ _ _ _ _ _ _ _ _
      | exact ih2 _ _ _ _
      | exact dot_Top.mono _ _
      | exact fix_Div.mono _ _ _
      | exact soft_Sum.mono _ _
      | exact soft_Weights.mono _ _
      | exact LeO.none _
      | refine LeO.ite ?_ ?_
      | refine LeO.bind ?_ (fun _ => ?_)
def pick_Pick.T15 : Bool × List (List Nat × List Nat) := (true, [([], []), ([], []), ([], []), ([1, 2], [1, 2]), ([3], [3]), ([], []), ([5], [5]), ([4, 6], [4, 6]), ([7], [7]), ([0, 8, 7], [0, 8]), ([9, 9, 0, 1, 2, 3, 4, 5, 6, 7, 8, 9], [0, 9])])
def pick_Pick.B15 : List Nat := [0, 0, 0, 6, 14, 0, 32, 126, 254, 511, 1023]
theorem pick_Pick.tab15 : rtab .any (opsOf Try.f9 15) = pick_Pick.T15 := by kernel_rfl
theorem pick_Pick.bits15 : waitsOk pick_Pick.T15.2 pick_Pick.B15 = true := by kernel_rfl
set_option maxHeartbeats 8000000 in
set_option maxRecDepth 100000 in
theorem pick_Pick.calls (k : Nat) (A0 : Option Addr) (c0 : Nat) (l0 : List Int) (a1_0 : Int) (a1_1 : Int) (a1_2 : Int) (a2 : Int) (r1 : Int) (r2 : Int) (w : World) (hr0 : Kd.C (Kd.int .i32) w A0 l0.length l0) (hc0 : l0.length ≤ c0) (h : pick_Pick.f k l0 a1_0 a1_1 a1_2 a2 = some (r1, r2)) :
    Calls Try.prog 9 #[.slice A0 l0.length c0, .agg #[.int .i32 a1_0, .int .i64 a1_1, .int .u64 a1_2], .int .i64 a2] w fun e w' => e = .returned (.tuple #[.int .i64 r1, .int .i64 r2]) ∧ Below w.heap.size w w' := by
  have hu25 := Try.underlying25
  have HR0 := Aside0.mk hr0
  have HC0 := Aside0.mk hc0
  clear hr0 hc0
  have HB := Aside0.mk (Below.refl w.heap.size w)
  have H : (if (l0.length : Int) = 0 then (some (0, 14)) else (if (l0.length : Int) > 64 then (some (0, 12)) else ((pick_Right.f a1_0 a1_1 a1_2).bind fun t247 => (if t247 = true then (if a2 < 0 then (pick_Pick.j0 k l0 a2 true a1_0 a1_1 a1_2) else (pick_Pick.j0 k l0 a2 (decide (a2 > 1024)) a1_0 a1_1 a1_2)) else (pick_Pick.j0 k l0 a2 true a1_0 a1_1 a1_2))))) = some (r1, r2) := h
  clear h
  by_cases c4 : (l0.length : Int) = 0
  · rw [if_pos c4] at H
    have c4b0 : ((l0.length : Int) == 0) = true := beq_iff_eq.mpr c4
    have c4b1 : ((l0.length : Int) != 0) = false := bne_eq_false_iff_eq.mpr c4
    clear c4
    simp only [Option.some.injEq, Prod.mk.injEq] at H
    obtain ⟨rfl, rfl⟩ := H
    go_enter Try.func9, Try.ntmps9
    go_wp2_with (first | ((with_reducible refine gate_dst (N := 4) rfl ?_); refine box_event ?hg (N := 4) ?hd (cs := #[.int .i32 a1_0, .int .i64 a1_1, .int .u64 a1_2]) (t := 25) ?hr ?_; (case hd => rfl); (case hg => rfl); (case hr => first | (go_simp; done) | (go_simp; rfl)); intro gb246 hg w5 hbox hb; have n0_ := Aside0.mk (below_step (by repeat (first | (with_reducible first | exact HB.out | apply below_alloc | apply pw_below_drewN | apply below_drew1) | exact HB.out)) hb); have n1_ := Aside0.mk (hbox); have n2_ := Aside0.mk ((by rw [hg]; exact (below_size (by repeat (first | (with_reducible first | exact HB.out | apply below_alloc | apply pw_below_drewN | apply below_drew1) | exact HB.out))) : w.heap.size ≤ gb246)); have n3_ := Aside0.mk ((by rw [hg]; exact (below_size (by repeat (first | (with_reducible first | exact HB.out | apply below_alloc | apply pw_below_drewN | apply below_drew1) | exact HB.out))) : w.heap.size ≤ gb246)); clear HB; have HB := n0_; have BK246 := n1_; have GW246 := n2_; have GE246 := n3_; clear n0_ n1_ n2_ n3_; clear hb hbox hg))
    go_ret2
    exact ⟨by first | rfl | (simp [errW_none, errW_some] <;> rfl) | (simp [*, errW_none, errW_some] <;> rfl), by repeat (first | (with_reducible first | exact HB.out | apply below_alloc | apply pw_below_drewN | apply below_drew1 | refine below_set ?_ GE246.out) | exact HB.out)⟩
  · rw [if_neg c4] at H
    have c4b0 : ((l0.length : Int) == 0) = false := beq_eq_false_iff_ne.mpr c4
    have c4b1 : ((l0.length : Int) != 0) = true := bne_iff_ne.mpr c4
    have c4b2 : ¬ (l0 = []) := fun h_ => c4 (by rw [h_]; rfl)
    by_cases c6 : (l0.length : Int) > 64
    · rw [if_pos c6] at H
      have c6b0 : decide (64 < (l0.length : Int)) = true := decide_eq_true c6
      have c6b1 : decide (64 < l0.length) = true := decide_eq_true (by omega)
      clear c6
      simp only [Option.some.injEq, Prod.mk.injEq] at H
      obtain ⟨rfl, rfl⟩ := H
      go_enter Try.func9, Try.ntmps9
      go_wp2_with (first | ((with_reducible refine gate_dst (N := 4) rfl ?_); refine box_event ?hg (N := 4) ?hd (cs := #[.int .i32 a1_0, .int .i64 a1_1, .int .u64 a1_2]) (t := 25) ?hr ?_; (case hd => rfl); (case hg => rfl); (case hr => first | (go_simp; done) | (go_simp; rfl)); intro gb246 hg w7 hbox hb; have n0_ := Aside0.mk (below_step (by repeat (first | (with_reducible first | exact HB.out | apply below_alloc | apply pw_below_drewN | apply below_drew1) | exact HB.out)) hb); have n1_ := Aside0.mk (hbox); have n2_ := Aside0.mk ((by rw [hg]; exact (below_size (by repeat (first | (with_reducible first | exact HB.out | apply below_alloc | apply pw_below_drewN | apply below_drew1) | exact HB.out))) : w.heap.size ≤ gb246)); have n3_ := Aside0.mk ((by rw [hg]; exact (below_size (by repeat (first | (with_reducible first | exact HB.out | apply below_alloc | apply pw_below_drewN | apply below_drew1) | exact HB.out))) : w.heap.size ≤ gb246)); clear HB; have HB := n0_; have BK246 := n1_; have GW246 := n2_; have GE246 := n3_; clear n0_ n1_ n2_ n3_; clear hb hbox hg))
      go_ret2
      exact ⟨by first | rfl | (simp [errW_none, errW_some] <;> rfl) | (simp [*, errW_none, errW_some] <;> rfl), by repeat (first | (with_reducible first | exact HB.out | apply below_alloc | apply pw_below_drewN | apply below_drew1 | refine below_set ?_ GE246.out) | exact HB.out)⟩
    · rw [if_neg c6] at H
      have c6b0 : decide (64 < (l0.length : Int)) = false := decide_eq_false c6
      have c6b1 : decide (64 < l0.length) = false := decide_eq_false (by omega)
      clear c6
      have HC8 := Aside0.mk H
      clear H
      go_enter Try.func9, Try.ntmps9
      go_upto_region 5 with (first | ((with_reducible refine gate_dst (N := 4) rfl ?_); refine box_event ?hg (N := 4) ?hd (cs := #[.int .i32 a1_0, .int .i64 a1_1, .int .u64 a1_2]) (t := 25) ?hr ?_; (case hd => rfl); (case hg => rfl); (case hr => first | (go_simp; done) | (go_simp; rfl)); intro gb246 hg w9 hbox hb; have n0_ := Aside0.mk (below_step (by repeat (first | (with_reducible first | exact HB.out | apply below_alloc | apply pw_below_drewN | apply below_drew1) | exact HB.out)) hb); have n1_ := Aside0.mk (hbox); have n2_ := Aside0.mk ((by rw [hg]; exact (below_size (by repeat (first | (with_reducible first | exact HB.out | apply below_alloc | apply pw_below_drewN | apply below_drew1) | exact HB.out))) : w.heap.size ≤ gb246)); have n3_ := Aside0.mk ((by rw [hg]; exact (below_size (by repeat (first | (with_reducible first | exact HB.out | apply below_alloc | apply pw_below_drewN | apply below_drew1) | exact HB.out))) : w.heap.size ≤ gb246)); clear HB; have HB := n0_; have BK246 := n1_; have GW246 := n2_; have GE246 := n3_; clear n0_ n1_ n2_ n3_; clear hb hbox hg))
      (try simp only [Act.put, List.setIfInBounds_toArray, List.set_cons_zero, List.set_cons_succ])
      go_cut [27] (fun v27 wc => ∃ (kq : Nat) (x27_7 : Bool), v27 = .bool x27_7 ∧ Aside0 (pick_Pick.j0 kq l0 a2 x27_7 a1_0 a1_1 a1_2 = some (r1, r2)) ∧ Aside0 (kq ≤ k) ∧ Aside0 (wc.heap[gb246]? = some (.cells #[.int .i32 a1_0, .int .i64 a1_1, .int .u64 a1_2] 25 (0, 0))) ∧ Aside0 (Below w.heap.size w wc))
      case first =>
        have H := HC8.out
        clear HC8
        replace H := Option.bind_eq_some_iff.mp H
        obtain ⟨t247, A100, H⟩ := H
        replace H : (if t247 = true then (if a2 < 0 then (pick_Pick.j0 k l0 a2 true a1_0 a1_1 a1_2) else (pick_Pick.j0 k l0 a2 (decide (a2 > 1024)) a1_0 a1_1 a1_2)) else (pick_Pick.j0 k l0 a2 true a1_0 a1_1 a1_2)) = some (r1, r2) := H
        have A10 := Aside0.mk A100
        clear A100
        by_cases c11 : t247 = true
        · subst c11
          have H1 : (if a2 < 0 then (pick_Pick.j0 k l0 a2 true a1_0 a1_1 a1_2) else (pick_Pick.j0 k l0 a2 (decide (a2 > 1024)) a1_0 a1_1 a1_2)) = some (r1, r2) := by rw [if_pos rfl] at H; exact H
          clear H
          have H := H1
          clear H1
          by_cases c12 : a2 < 0
          · rw [if_pos c12] at H
            have c12b0 : decide (a2 < 0) = true := decide_eq_true c12
            clear c12
            (first | rw [c12b0] | (simp only [i64_w, i32_w]; rw [c12b0]) | skip)
            have H' := Aside0.mk H
            clear H
            have hcz13_0 : w9.cell? ⟨gb246, 0, none⟩ = some (.int .i32 a1_0) := (blk_cell BK246.out 0).trans rfl
            have hcz13_1 : w9.cell? ⟨gb246, 1, none⟩ = some (.int .i64 a1_1) := (blk_cell BK246.out 1).trans rfl
            have hcz13_2 : w9.cell? ⟨gb246, 2, none⟩ = some (.int .u64 a1_2) := (blk_cell BK246.out 2).trans rfl
            have hfz13_0 := blk_frozen BK246.out 0
            have hfz13_1 := blk_frozen BK246.out 1
            have hfz13_2 := blk_frozen BK246.out 2
            go_wp2_with (first | ((with_reducible refine gate_callee (f := 11) rfl ?_); refine goesL_ (some 29) rfl rfl Try.func11 (by kernel_rfl) rfl #[.agg #[.int .i32 a1_0, .int .i64 a1_1, .int .u64 a1_2]] rfl (by (try simp only [List.map_toArray, List.map_cons, List.map_nil]); first | done | rfl | (simp only [List.length_drop, List.length_take]; rfl)) ?_; (with_reducible refine (pick_Right.calls a1_0 a1_1 a1_2 true _ A10.out).mono ?_); rintro e w14 ⟨rfl, hb⟩; refine ⟨_, rfl, ?_⟩; have n0_ := Aside0.mk (blk_below (g := gb246) (o := .cells #[.int .i32 a1_0, .int .i64 a1_1, .int .u64 a1_2] 25 (0, 0)) (by (with_reducible repeat (first | refine blk_drewN ?_ _ | refine blk_drew ?_ | refine blk_alloc ?_ _)); exact BK246.out) hb); have n1_ := Aside0.mk (below_step (by repeat (first | (with_reducible first | exact HB.out | apply below_alloc | apply pw_below_drewN | apply below_drew1 | refine below_set ?_ GE246.out) | exact HB.out)) hb); clear BK246; clear HB; have BK246 := n0_; have HB := n1_; clear n0_ n1_; (try clear hb); (try clear hb2); (try clear hk); (try clear hi)))
            go_meet
            case rel => exact ⟨_, (true), (by first | rfl | (simp; done) | (simp [*]; done)), H', ⟨by first | omega | exact Nat.le_refl _⟩, ⟨by (with_reducible repeat (first | refine blk_drewN ?_ _ | refine blk_drew ?_ | refine blk_alloc ?_ _)); exact BK246.out⟩, ⟨by repeat (first | (with_reducible first | exact HB.out | apply below_alloc | apply pw_below_drewN | apply below_drew1 | refine below_set ?_ GE246.out) | exact HB.out)⟩⟩
          · rw [if_neg c12] at H
            have c12b0 : decide (a2 < 0) = false := decide_eq_false c12
            clear c12
            (first | rw [c12b0] | (simp only [i64_w, i32_w]; rw [c12b0]) | skip)
            have H' := Aside0.mk H
            clear H
            have hcz15_0 : w9.cell? ⟨gb246, 0, none⟩ = some (.int .i32 a1_0) := (blk_cell BK246.out 0).trans rfl
            have hcz15_1 : w9.cell? ⟨gb246, 1, none⟩ = some (.int .i64 a1_1) := (blk_cell BK246.out 1).trans rfl
            have hcz15_2 : w9.cell? ⟨gb246, 2, none⟩ = some (.int .u64 a1_2) := (blk_cell BK246.out 2).trans rfl
            have hfz15_0 := blk_frozen BK246.out 0
            have hfz15_1 := blk_frozen BK246.out 1
            have hfz15_2 := blk_frozen BK246.out 2
            go_wp2_with (first | ((with_reducible refine gate_callee (f := 11) rfl ?_); refine goesL_ (some 29) rfl rfl Try.func11 (by kernel_rfl) rfl #[.agg #[.int .i32 a1_0, .int .i64 a1_1, .int .u64 a1_2]] rfl (by (try simp only [List.map_toArray, List.map_cons, List.map_nil]); first | done | rfl | (simp only [List.length_drop, List.length_take]; rfl)) ?_; (with_reducible refine (pick_Right.calls a1_0 a1_1 a1_2 true _ A10.out).mono ?_); rintro e w16 ⟨rfl, hb⟩; refine ⟨_, rfl, ?_⟩; have n0_ := Aside0.mk (blk_below (g := gb246) (o := .cells #[.int .i32 a1_0, .int .i64 a1_1, .int .u64 a1_2] 25 (0, 0)) (by (with_reducible repeat (first | refine blk_drewN ?_ _ | refine blk_drew ?_ | refine blk_alloc ?_ _)); exact BK246.out) hb); have n1_ := Aside0.mk (below_step (by repeat (first | (with_reducible first | exact HB.out | apply below_alloc | apply pw_below_drewN | apply below_drew1 | refine below_set ?_ GE246.out) | exact HB.out)) hb); clear BK246; clear HB; have BK246 := n0_; have HB := n1_; clear n0_ n1_; (try clear hb); (try clear hb2); (try clear hk); (try clear hi)))
            go_meet
            case rel => exact ⟨_, (decide (a2 > 1024)), (by first | rfl | (simp; done) | (simp [*]; done)), H', ⟨by first | omega | exact Nat.le_refl _⟩, ⟨by (with_reducible repeat (first | refine blk_drewN ?_ _ | refine blk_drew ?_ | refine blk_alloc ?_ _)); exact BK246.out⟩, ⟨by repeat (first | (with_reducible first | exact HB.out | apply below_alloc | apply pw_below_drewN | apply below_drew1 | refine below_set ?_ GE246.out) | exact HB.out)⟩⟩
        · replace c11 := Bool.eq_false_iff.mpr c11
          subst c11
          have H1 : (pick_Pick.j0 k l0 a2 true a1_0 a1_1 a1_2) = some (r1, r2) := by rw [if_neg (show ¬ (false = true) by decide)] at H; exact H
          clear H
          have H := H1
          clear H1
          have H' := Aside0.mk H
          clear H
          have hcz17_0 : w9.cell? ⟨gb246, 0, none⟩ = some (.int .i32 a1_0) := (blk_cell BK246.out 0).trans rfl
          have hcz17_1 : w9.cell? ⟨gb246, 1, none⟩ = some (.int .i64 a1_1) := (blk_cell BK246.out 1).trans rfl
          have hcz17_2 : w9.cell? ⟨gb246, 2, none⟩ = some (.int .u64 a1_2) := (blk_cell BK246.out 2).trans rfl
          have hfz17_0 := blk_frozen BK246.out 0
          have hfz17_1 := blk_frozen BK246.out 1
          have hfz17_2 := blk_frozen BK246.out 2
          go_wp2_with (first | ((with_reducible refine gate_callee (f := 11) rfl ?_); refine goesL_ (some 29) rfl rfl Try.func11 (by kernel_rfl) rfl #[.agg #[.int .i32 a1_0, .int .i64 a1_1, .int .u64 a1_2]] rfl (by (try simp only [List.map_toArray, List.map_cons, List.map_nil]); first | done | rfl | (simp only [List.length_drop, List.length_take]; rfl)) ?_; (with_reducible refine (pick_Right.calls a1_0 a1_1 a1_2 false _ A10.out).mono ?_); rintro e w18 ⟨rfl, hb⟩; refine ⟨_, rfl, ?_⟩; have n0_ := Aside0.mk (blk_below (g := gb246) (o := .cells #[.int .i32 a1_0, .int .i64 a1_1, .int .u64 a1_2] 25 (0, 0)) (by (with_reducible repeat (first | refine blk_drewN ?_ _ | refine blk_drew ?_ | refine blk_alloc ?_ _)); exact BK246.out) hb); have n1_ := Aside0.mk (below_step (by repeat (first | (with_reducible first | exact HB.out | apply below_alloc | apply pw_below_drewN | apply below_drew1 | refine below_set ?_ GE246.out) | exact HB.out)) hb); clear BK246; clear HB; have BK246 := n0_; have HB := n1_; clear n0_ n1_; (try clear hb); (try clear hb2); (try clear hk); (try clear hi)))
          go_meet
          case rel => exact ⟨_, (true), (by first | rfl | (simp; done) | (simp [*]; done)), H', ⟨by first | omega | exact Nat.le_refl _⟩, ⟨by (with_reducible repeat (first | refine blk_drewN ?_ _ | refine blk_drew ?_ | refine blk_alloc ?_ _)); exact BK246.out⟩, ⟨by repeat (first | (with_reducible first | exact HB.out | apply below_alloc | apply pw_below_drewN | apply below_drew1 | refine below_set ?_ GE246.out) | exact HB.out)⟩⟩
      case rest =>
        clear HC8
        try clear c1
        try clear p2
        try clear c4
        try clear c4b0
        try clear c4b1
        try clear c4b2
        try clear c6
        try clear c6b0
        try clear c6b1
        try clear c9
        try clear c11
        try clear c12
        try clear c12b0
        try clear hcz13_0
        try clear hcz13_1
        try clear hcz13_2
        try clear hcz15_0
        try clear hcz15_1
        try clear hcz15_2
        try clear hcz17_0
        try clear hcz17_1
        try clear hcz17_2
        try clear hfz13_0
        try clear hfz13_1
        try clear hfz13_2
        try clear hfz15_0
        try clear hfz15_1
        try clear hfz15_2
        try clear hfz17_0
        try clear hfz17_1
        try clear hfz17_2
        obtain ⟨kq, x27_7, rfl, HA, HJ7, BK246, HB⟩ := hcut
        cases kq with
        | zero => exact absurd HA.out (by simp [pick_Pick.j0])
        | succ kj7 =>
          have H := HA.out
          clear HA
          simp only [pick_Pick.j0] at H
          by_cases c19 : x27_7 = true
          · subst c19
            have H1 : (some (0, 11)) = some (r1, r2) := by rw [if_pos rfl] at H; exact H
            clear H
            have H := H1
            clear H1
            simp only [Option.some.injEq, Prod.mk.injEq] at H
            obtain ⟨rfl, rfl⟩ := H
            go_wp2
            go_ret2
            exact ⟨by first | rfl | (simp [errW_none, errW_some] <;> rfl) | (simp [*, errW_none, errW_some] <;> rfl), by repeat (first | (with_reducible first | exact HB.out | apply below_alloc | apply pw_below_drewN | apply below_drew1 | refine below_set ?_ GE246.out) | exact HB.out)⟩
          · replace c19 := Bool.eq_false_iff.mpr c19
            subst c19
            have H1 : (if a1_0 = 0 then ((dot_Top.f kj7 l0).bind fun bt248 => (some (bt248.1, bt248.2.2))) else ((pick_Kept.f l0 a1_1).bind fun t251 => (pick_Pick.l0 kj7 l0 a2 t251 ([] : List Int) t251 (t251.length : Int) 0 a1_0 a1_1 a1_2))) = some (r1, r2) := by rw [if_neg (show ¬ (false = true) by decide)] at H; exact H
            clear H
            have H := H1
            clear H1
            by_cases c20 : a1_0 = 0
            · rw [if_pos c20] at H
              have c20b0 : (a1_0 == 0) = true := beq_iff_eq.mpr c20
              have c20b1 : (a1_0 != 0) = false := bne_eq_false_iff_eq.mpr c20
              clear c20
              replace H := Option.bind_eq_some_iff.mp H
              obtain ⟨⟨t248, t249, t250⟩, A210, H⟩ := H
              replace H : (some (t248, t250)) = some (r1, r2) := H
              have A21 := Aside0.mk A210
              clear A210
              simp only [Option.some.injEq, Prod.mk.injEq] at H
              obtain ⟨rfl, rfl⟩ := H
              have hcz22_0 : wc.cell? ⟨gb246, 0, none⟩ = some (.int .i32 a1_0) := (blk_cell BK246.out 0).trans rfl
              have hcz22_1 : wc.cell? ⟨gb246, 1, none⟩ = some (.int .i64 a1_1) := (blk_cell BK246.out 1).trans rfl
              have hcz22_2 : wc.cell? ⟨gb246, 2, none⟩ = some (.int .u64 a1_2) := (blk_cell BK246.out 2).trans rfl
              have hfz22_0 := blk_frozen BK246.out 0
              have hfz22_1 := blk_frozen BK246.out 1
              have hfz22_2 := blk_frozen BK246.out 2
              go_wp2_with (first | ((with_reducible refine gate_callee (f := 18) rfl ?_); refine goesL_ (some 45) rfl rfl Try.func18 (by kernel_rfl) rfl #[.slice A0 l0.length c0] rfl (by (try simp only [List.map_toArray, List.map_cons, List.map_nil]); first | done | rfl | (simp only [List.length_drop, List.length_take]; rfl)) ?_; (with_reducible refine (dot_Top.calls kj7 _ _ l0 t248 t249 t250 _ ?side1 ?side2 A21.out).mono ?_); (case side1 => repeat (first | exact (Kd.C_below HR0.out HB.out) | (with_reducible refine Kd.C_alloc ?_ _) | (with_reducible refine Kd.C_drewN ?_ _) | (with_reducible refine Kd.C_drew ?_))); (case side2 => exact HC0.out); rintro e w23 ⟨rfl, hb⟩; refine ⟨_, rfl, ?_⟩; have n0_ := Aside0.mk (blk_below (g := gb246) (o := .cells #[.int .i32 a1_0, .int .i64 a1_1, .int .u64 a1_2] 25 (0, 0)) (by (with_reducible repeat (first | refine blk_drewN ?_ _ | refine blk_drew ?_ | refine blk_alloc ?_ _)); exact BK246.out) hb); have n1_ := Aside0.mk (below_step (by repeat (first | (with_reducible first | exact HB.out | apply below_alloc | apply pw_below_drewN | apply below_drew1 | refine below_set ?_ GE246.out) | exact HB.out)) hb); clear BK246; clear HB; have BK246 := n0_; have HB := n1_; clear n0_ n1_; (try clear hb); (try clear hb2); (try clear hk); (try clear hi)))
              go_ret2
              exact ⟨by first | rfl | (simp [errW_none, errW_some] <;> rfl) | (simp [*, errW_none, errW_some] <;> rfl), by repeat (first | (with_reducible first | exact HB.out | apply below_alloc | apply pw_below_drewN | apply below_drew1 | refine below_set ?_ GE246.out) | exact HB.out)⟩
            · rw [if_neg c20] at H
              have c20b0 : (a1_0 == 0) = false := beq_eq_false_iff_ne.mpr c20
              have c20b1 : (a1_0 != 0) = true := bne_iff_ne.mpr c20
              replace H := Option.bind_eq_some_iff.mp H
              obtain ⟨t251, A240, H⟩ := H
              replace H : (pick_Pick.l0 kj7 l0 a2 t251 ([] : List Int) t251 (t251.length : Int) 0 a1_0 a1_1 a1_2) = some (r1, r2) := H
              have A24 := Aside0.mk A240
              clear A240
              have H' := Aside0.mk H
              clear H
              have hcz25_0 : wc.cell? ⟨gb246, 0, none⟩ = some (.int .i32 a1_0) := (blk_cell BK246.out 0).trans rfl
              have hcz25_1 : wc.cell? ⟨gb246, 1, none⟩ = some (.int .i64 a1_1) := (blk_cell BK246.out 1).trans rfl
              have hcz25_2 : wc.cell? ⟨gb246, 2, none⟩ = some (.int .u64 a1_2) := (blk_cell BK246.out 2).trans rfl
              have hfz25_0 := blk_frozen BK246.out 0
              have hfz25_1 := blk_frozen BK246.out 1
              have hfz25_2 := blk_frozen BK246.out 2
              go_wp2_with (first | ((with_reducible refine gate_callee (f := 14) rfl ?_); refine goesL_ (some 54) rfl rfl Try.func14 (by kernel_rfl) rfl #[.slice A0 l0.length c0, .int .i64 a1_1] rfl (by (try simp only [List.map_toArray, List.map_cons, List.map_nil]); first | done | rfl | (simp only [List.length_drop, List.length_take]; rfl)) ?_; (with_reducible refine (pick_Kept.calls _ _ l0 a1_1 t251 _ ?side1 ?side2 A24.out).mono ?_); (case side1 => repeat (first | exact (Kd.C_below HR0.out HB.out) | (with_reducible refine Kd.C_alloc ?_ _) | (with_reducible refine Kd.C_drewN ?_ _) | (with_reducible refine Kd.C_drew ?_))); (case side2 => exact HC0.out); rintro e w26 ⟨v252, rfl, ho0, hb⟩; refine ⟨_, rfl, ?_⟩; have n0_ := Aside0.mk (Kd.R_lower ho0 (below_size (by repeat (first | (with_reducible first | exact HB.out | apply below_alloc | apply pw_below_drewN | apply below_drew1 | refine below_set ?_ GE246.out) | exact HB.out)))); have n1_ := Aside0.mk (blk_below (g := gb246) (o := .cells #[.int .i32 a1_0, .int .i64 a1_1, .int .u64 a1_2] 25 (0, 0)) (by (with_reducible repeat (first | refine blk_drewN ?_ _ | refine blk_drew ?_ | refine blk_alloc ?_ _)); exact BK246.out) hb); have n2_ := Aside0.mk (below_step (by repeat (first | (with_reducible first | exact HB.out | apply below_alloc | apply pw_below_drewN | apply below_drew1 | refine below_set ?_ GE246.out) | exact HB.out)) hb); clear BK246; clear HB; have HO253 := n0_; have BK246 := n1_; have HB := n2_; clear n0_ n1_ n2_; (try clear hb); (try clear hb2); (try clear hk); (try clear hi); (try clear ho0); obtain ⟨Ao27, co27, eo27⟩ := Kd.R_slice HO253.out; subst eo27))
              go_loopg [12, 57] kj7 (fun kq v12 v57 w' => ∃ (x12_2 : List Int) (x57_2 : Int), v57 = .int .i64 x57_2 ∧ Aside0 (pick_Pick.l0 kq l0 a2 t251 x12_2 t251 (t251.length : Int) x57_2 a1_0 a1_1 a1_2 = some (r1, r2)) ∧ Aside0 (kq ≤ kj7) ∧ Aside0 (Kd.R (Kd.int .i64) 3 w' w.heap.size (fun _ => True) (.slice Ao27 t251.length co27) t251) ∧ Aside0 (Kd.R (Kd.int .i32) 21 w' w.heap.size (fun _ => True) v12 x12_2) ∧ Aside0 (Kd.R (Kd.int .i64) 3 w' w.heap.size (fun _ => True) (.slice Ao27 t251.length co27) t251) ∧ Aside0 (w'.heap[gb246]? = some (.cells #[.int .i32 a1_0, .int .i64 a1_1, .int .u64 a1_2] 25 (0, 0))) ∧ Aside0 (Below w.heap.size w w'))
              case atStart => exact ⟨(([] : List Int)), (0), (by first | rfl | (simp; done) | (simp [*]; done)), H', ⟨Nat.le_refl _⟩, ⟨by (with_reducible repeat (first | apply Kd.R_alloc | apply Kd.R_drewN | apply Kd.R_drew)); exact HO253.out⟩, ⟨by first | exact Kd.R_nil _ _ _ _ _ | exact Kd.N_nil _ _ _ _ _ | exact Kd.V_nil _ _ _ _ _ | exact Kd.Q_nil _ _ _ _ _ | exact Kd.S_nil _ _ _ _ _⟩, ⟨by (with_reducible repeat (first | apply Kd.R_alloc | apply Kd.R_drewN | apply Kd.R_drew)); exact HO253.out⟩, ⟨by (with_reducible repeat (first | refine blk_drewN ?_ _ | refine blk_drew ?_ | refine blk_alloc ?_ _)); exact BK246.out⟩, ⟨by repeat (first | (with_reducible first | exact HB.out | apply below_alloc | apply pw_below_drewN | apply below_drew1 | refine below_set ?_ GE246.out) | exact HB.out)⟩⟩
              case round =>
                clear H'
                try clear c1
                try clear c2
                try clear p2
                try clear c4
                try clear c4b0
                try clear c4b1
                try clear c4b2
                try clear c6
                try clear c6b0
                try clear c6b1
                try clear c9
                try clear c11
                try clear c12
                try clear c12b0
                try clear c14
                try clear c18
                try clear c19
                try clear c20
                try clear c20b0
                try clear c20b1
                try clear hcz13_0
                try clear hcz13_1
                try clear hcz13_2
                try clear hcz15_0
                try clear hcz15_1
                try clear hcz15_2
                try clear hcz17_0
                try clear hcz17_1
                try clear hcz17_2
                try clear hcz22_0
                try clear hcz22_1
                try clear hcz22_2
                try clear hcz25_0
                try clear hcz25_1
                try clear hcz25_2
                try clear hfz13_0
                try clear hfz13_1
                try clear hfz13_2
                try clear hfz15_0
                try clear hfz15_1
                try clear hfz15_2
                try clear hfz17_0
                try clear hfz17_1
                try clear hfz17_2
                try clear hfz22_0
                try clear hfz22_1
                try clear hfz22_2
                try clear hfz25_0
                try clear hfz25_1
                try clear hfz25_2
                try clear p2
                obtain ⟨x12_2, x57_2, rfl, HA, HK2, HO_11, HO_12, HO_55, BK246, HB⟩ := hrel
                cases gk with
                | zero => exact absurd HA.out (by simp [pick_Pick.l0])
                | succ k2 =>
                  have H := HA.out
                  clear HA
                  simp only [pick_Pick.l0] at H
                  by_cases c28 : x57_2 < (t251.length : Int)
                  · rw [if_pos c28] at H
                    have c28b0 : decide (x57_2 < (t251.length : Int)) = true := decide_eq_true c28
                    clear c28
                    by_cases c29 : 0 ≤ x57_2
                    · rw [if_pos c29] at H
                      have c29b0 : decide (0 ≤ x57_2) = true := decide_eq_true c29
                      clear c29
                      by_cases c30 : x57_2 < (t251.length : Int)
                      · rw [if_pos c30] at H
                        have c30b0 : decide (x57_2 < (t251.length : Int)) = true := decide_eq_true c30
                        clear c30
                        by_cases c31 : 0 ≤ (rd t251 x57_2)
                        · rw [if_pos c31] at H
                          have c31b0 : decide (0 ≤ (rd t251 x57_2)) = true := decide_eq_true c31
                          clear c31
                          by_cases c32 : (rd t251 x57_2) < (l0.length : Int)
                          · rw [if_pos c32] at H
                            have c32b0 : decide ((rd t251 x57_2) < (l0.length : Int)) = true := decide_eq_true c32
                            clear c32
                            replace H := Option.bind_eq_some_iff.mp H
                            obtain ⟨t256, A330, H⟩ := H
                            replace H : (if x12_2.length < 35184372088832 then (pick_Pick.l0 k2 l0 a2 t251 (x12_2 ++ [t256]) t251 (t251.length : Int) (wrap64 (x57_2 + 1)) a1_0 a1_1 a1_2) else (none)) = some (r1, r2) := H
                            have A33 := Aside0.mk A330
                            clear A330
                            by_cases c34 : x12_2.length < 35184372088832
                            · rw [if_pos c34] at H
                              have LMc34 := Aside0.mk c34
                              clear c34
                              obtain ⟨y257, hy257⟩ : ∃ y_ : List Int, y_ = (x12_2 ++ [t256]) := ⟨_, rfl⟩
                              replace H : (pick_Pick.l0 k2 l0 a2 t251 y257 t251 (t251.length : Int) (wrap64 (x57_2 + 1)) a1_0 a1_1 a1_2) = some (r1, r2) := by first | (rw [hy257]; with_reducible exact H) | (have H2_ := (Option.bind_some _ _).symm.trans H; rw [hy257]; with_reducible exact H2_) | (have H2_ := (Option.bind_some _ _).symm.trans H; with_reducible exact H2_) | with_reducible exact H | (rw [hy257]; exact H) | exact H
                              have Ny257 := Aside0.mk hy257
                              clear hy257
                              have H' := Aside0.mk H
                              clear H
                              have p254 : 0 ≤ (x57_2 : Int) := of_decide_eq_true (by first | (with_reducible assumption) | assumption)
                              have q254 : x57_2 < (t251.length : Int) := of_decide_eq_true (by first | (with_reducible assumption) | assumption)
                              obtain ⟨ad254, e254, hx254_0⟩ := Kd.at_int (Kd.R_reads' HO_55.out).2.2 x57_2 p254 q254
                              cases e254
                              replace p254 := eq_true p254
                              replace q254 := eq_true q254
                              try go_wp2
                              have n0_ := Aside0.mk (Kd.R_drew HO_11.out)
                              have n1_ := Aside0.mk (Kd.R_drew HO_12.out)
                              have n2_ := Aside0.mk (Kd.R_drew HO_55.out)
                              have n3_ := Aside0.mk (blk_drew BK246.out)
                              have n4_ := Aside0.mk (below_drew1 HB.out)
                              clear HO_11
                              clear HO_12
                              clear HO_55
                              clear BK246
                              clear HB
                              have HO_11 := n0_
                              have HO_12 := n1_
                              have HO_55 := n2_
                              have BK246 := n3_
                              have HB := n4_
                              clear n0_ n1_ n2_ n3_ n4_
                              have p255 : 0 ≤ ((rd t251 x57_2) : Int) := of_decide_eq_true (by first | (with_reducible assumption) | assumption)
                              have q255 : (rd t251 x57_2) < (l0.length : Int) := of_decide_eq_true (by first | (with_reducible assumption) | assumption)
                              obtain ⟨ad255, e255, hx255_0⟩ := Kd.at_int HR0.out (rd t251 x57_2) p255 q255
                              have hw255_0 := hx255_0
                              cases e255
                              replace hx255_0 := (HB.out.cell (World.block_lt_of_cell? w _ hx255_0)).trans hx255_0
                              replace p255 := eq_true p255
                              replace q255 := eq_true q255
                              refine start_ (n := 11) (S := fun w' => w'.cell? ⟨gb246, 0, none⟩ = some (.int .i32 a1_0) ∧ w'.cell? ⟨gb246, 1, none⟩ = some (.int .i64 a1_1) ∧ w'.cell? ⟨gb246, 2, none⟩ = some (.int .u64 a1_2) ∧ w'.cell? (ad255.add ((rd t251 x57_2)).toNat) = some (.int .i32 (rd l0 (rd t251 x57_2)))) (ds := []) #[false, false, false, false, false, false, false, false, false, false, false] (by kernel_rfl) rfl rfl ⟨(blk_cell BK246.out 0).trans rfl, (blk_cell BK246.out 1).trans rfl, (blk_cell BK246.out 2).trans rfl, ((HB.out.cell (World.block_lt_of_cell? w _ hw255_0)).trans hw255_0)⟩ (fun hHeld => ?_); refine with_tabW pick_Pick.tab15 pick_Pick.bits15 (fun HT_ HW_ => ?_)
                              generalize wr.drew = w35 at HO_11 HO_12 HO_55 BK246 HB hx255_0 hHeld ⊢
                              refine pure_ (i := 0) (N := some 61) (v := ?_) (a' := ?_) #[true, false, false, false, false, false, false, false, false, false, false] rfl rfl (any_of HT_.out (by kernel_rfl)) (fun _ _ _ h => h) (Or.inl ⟨by rfl, ?_⟩) ?_ ?_
                              rotate_left
                              · intro w'
                                go_simp
                                with_reducible rfl
                              rotate_left
                              · simp only [Act.put, List.setIfInBounds_toArray, List.set_cons_zero, List.set_cons_succ, i64_w, i32_w]
                                rfl
                              refine pure_ (i := 1) (N := some 62) (v := ?_) (a' := ?_) #[true, true, false, false, false, false, false, false, false, false, false] rfl rfl (any_of HT_.out (by kernel_rfl)) (fun _ _ _ h => h) (Or.inl ⟨by rfl, ?_⟩) ?_ ?_
                              rotate_left
                              · intro w'
                                go_simp
                                with_reducible rfl
                              rotate_left
                              · simp only [Act.put, List.setIfInBounds_toArray, List.set_cons_zero, List.set_cons_succ, i64_w, i32_w]
                                rfl
                              refine pure_ (i := 2) (N := some 63) (v := ?_) (a' := ?_) #[true, true, true, false, false, false, false, false, false, false, false] rfl rfl (any_of HT_.out (by kernel_rfl)) (fun _ _ _ h => h) (Or.inl ⟨by rfl, ?_⟩) ?_ ?_
                              rotate_left
                              · intro w'
                                go_simp
                                with_reducible rfl
                              rotate_left
                              · simp only [Act.put, List.setIfInBounds_toArray, List.set_cons_zero, List.set_cons_succ, i64_w, i32_w]
                                rfl
                              refine pure_ (i := 3) (N := some 64) (v := ?_) (a' := ?_) #[true, true, true, true, false, false, false, false, false, false, false] rfl rfl (any_of HT_.out (by kernel_rfl)) (fun _ _ _ h => h) (Or.inl ⟨by rfl, ?_⟩) ?_ ?_
                              rotate_left
                              · intro w'
                                go_simp
                                with_reducible rfl
                              rotate_left
                              · simp only [Act.put, List.setIfInBounds_toArray, List.set_cons_zero, List.set_cons_succ, i64_w, i32_w]
                                rfl
                              refine pure_ (i := 5) (N := some 66) (v := ?_) (a' := ?_) #[true, true, true, true, false, true, false, false, false, false, false] rfl rfl (any_of HT_.out (by kernel_rfl)) (fun _ _ _ h => h) (Or.inl ⟨by rfl, ?_⟩) ?_ ?_
                              rotate_left
                              · intro w'
                                go_simp
                                with_reducible rfl
                              rotate_left
                              · simp only [Act.put, List.setIfInBounds_toArray, List.set_cons_zero, List.set_cons_succ, i64_w, i32_w]
                                rfl
                              refine take_ (i := 4) (N := some 65) (v := ?_) (a' := ?_) #[true, true, true, true, true, true, false, false, false, false, false] rfl rfl (take_ofW HT_.out HW_.out (by kernel_rfl)) (fun _ _ _ h => h) (Or.inl ⟨by rfl, ?_⟩) hHeld ?_ ?_
                              rotate_left
                              · rintro w' ⟨s0, s1, s2, s3⟩
                                go_simp
                                with_reducible rfl
                              rotate_left
                              · simp only [Act.put, List.setIfInBounds_toArray, List.set_cons_zero, List.set_cons_succ, i64_w, i32_w]
                                rfl
                              refine take_ (i := 6) (N := some 67) (v := ?_) (a' := ?_) #[true, true, true, true, true, true, true, false, false, false, false] rfl rfl (take_ofW HT_.out HW_.out (by kernel_rfl)) (fun _ _ _ h => h) (Or.inl ⟨by rfl, ?_⟩) hHeld ?_ ?_
                              rotate_left
                              · rintro w' ⟨s0, s1, s2, s3⟩
                                go_simp
                                with_reducible rfl
                              rotate_left
                              · simp only [Act.put, List.setIfInBounds_toArray, List.set_cons_zero, List.set_cons_succ, i64_w, i32_w]
                                rfl
                              refine one_ (i := 7) (N := some 68) #[true, true, true, true, true, true, true, true, false, false, false] rfl rfl (one_of HT_.out (by kernel_rfl)) (by decide) (fun K hK => ?_)
                              refine goes_ Try.func19 (by kernel_rfl) rfl #[.int .i32 (rd l0 (rd t251 x57_2)), .int .i32 a1_0] (by rfl) rfl rfl (by (try simp only [List.map_toArray, List.map_cons, List.map_nil]); first | done | rfl | (simp only [List.length_drop, List.length_take]; rfl)) ?_
                              with_reducible refine (fix_Div.calls k2 (rd l0 (rd t251 x57_2)) a1_0 t256 _ A33.out).mono ?_
                              rintro e w36 ⟨rfl, hb⟩
                              refine ⟨_, rfl, ?_⟩
                              have n0_ := Aside0.mk (Kd.R_below (by (with_reducible repeat (first | apply Kd.R_alloc | apply Kd.R_drewN | apply Kd.R_drew)); exact HO_11.out) hb)
                              have n1_ := Aside0.mk (Kd.R_below (by (with_reducible repeat (first | apply Kd.R_alloc | apply Kd.R_drewN | apply Kd.R_drew)); exact HO_12.out) hb)
                              have n2_ := Aside0.mk (Kd.R_below (by (with_reducible repeat (first | apply Kd.R_alloc | apply Kd.R_drewN | apply Kd.R_drew)); exact HO_55.out) hb)
                              have n3_ := Aside0.mk (blk_below (g := gb246) (o := .cells #[.int .i32 a1_0, .int .i64 a1_1, .int .u64 a1_2] 25 (0, 0)) (by (with_reducible repeat (first | refine blk_drewN ?_ _ | refine blk_drew ?_ | refine blk_alloc ?_ _)); exact BK246.out) hb)
                              have n4_ := Aside0.mk (below_step (by repeat (first | (with_reducible first | exact HB.out | apply below_alloc | apply pw_below_drewN | apply below_drew1 | refine below_set ?_ GE246.out) | exact HB.out)) hb)
                              clear HO_11
                              clear HO_12
                              clear HO_55
                              clear BK246
                              clear HB
                              have HO_11 := n0_
                              have HO_12 := n1_
                              have HO_55 := n2_
                              have BK246 := n3_
                              have HB := n4_
                              clear n0_ n1_ n2_ n3_ n4_
                              (try clear hb)
                              (try clear hb2)
                              (try clear hk)
                              (try clear hi)
                              refine hK.out _ _ ⟨(blk_cell BK246.out 0).trans rfl, (blk_cell BK246.out 1).trans rfl, (blk_cell BK246.out 2).trans rfl, ((HB.out.cell (World.block_lt_of_cell? w _ hw255_0)).trans hw255_0)⟩ (fun hHeld => ?_)
                              clear hK K
                              refine norm_ (a' := ?_) ?_ ?_
                              rotate_left
                              · show Act.put _ (some 68) _ = _
                                simp only [Act.put, List.setIfInBounds_toArray, List.set_cons_zero, List.set_cons_succ, i64_w, i32_w]
                                rfl
                              refine one_ (i := 8) (N := some 69) #[true, true, true, true, true, true, true, true, true, false, false] rfl rfl (one_of HT_.out (by kernel_rfl)) (by decide) (fun K hK => ?_)
                              refine value_ (w1 := ?_) (v := ?_) (by rfl) rfl ?_ ?_
                              rotate_left 2
                              · go_simp
                                constructor
                                · rfl
                                · rfl
                              refine hK.out _ _ ⟨(blk_cell (blk_alloc BK246.out _) 0).trans rfl, (blk_cell (blk_alloc BK246.out _) 1).trans rfl, (blk_cell (blk_alloc BK246.out _) 2).trans rfl, (World.cell?_alloc_lt _ _ _ (World.block_lt_of_cell? _ _ (((HB.out.cell (World.block_lt_of_cell? w _ hw255_0)).trans hw255_0)))).trans (((HB.out.cell (World.block_lt_of_cell? w _ hw255_0)).trans hw255_0))⟩ (fun hHeld => ?_)
                              clear hK K
                              refine norm_ (a' := ?_) ?_ ?_
                              rotate_left
                              · show Act.put _ (some 69) _ = _
                                simp only [Act.put, List.setIfInBounds_toArray, List.set_cons_zero, List.set_cons_succ, i64_w, i32_w]
                                rfl
                              refine one_ (i := 9) (N := some 70) #[true, true, true, true, true, true, true, true, true, true, false] rfl rfl (one_of HT_.out (by kernel_rfl)) (by decide) (fun K hK => ?_)
                              refine Kd.R_append_step (Kd.int .i32) (w0 := w) w.heap.size (by rfl) (.tmp 61) (.tmp 69) 22 21 (.int .i32 0) 4 rfl Try.underlying22 info21 rfl (by decide) (by omega) u12 x12_2 t256 [.int .i32 t256] (fun _ => True) (fun _ => False) rfl rfl ?aP (fun _ hk => hk.elim) ?aF ?aO ?aB ?aS ?aL ?_
                              (case aP => exact rfl)
                              (case aB => exact (by repeat (first | (with_reducible first | exact HB.out | apply below_alloc | apply pw_below_drewN | apply below_drew1 | refine below_set ?_ GE246.out) | exact HB.out)))
                              (case aF => exact (fun _ _ => trivial))
                              (case aO => exact (by (with_reducible repeat (first | apply Kd.R_alloc | apply Kd.R_drewN | apply Kd.R_drew)); exact HO_12.out))
                              (case aS => exact (below_size (by repeat (first | (with_reducible first | exact HB.out | apply below_alloc | apply pw_below_drewN | apply below_drew1 | refine below_set ?_ GE246.out) | exact HB.out))))
                              (case aL => have := LMc34.out; omega)
                              intro v258 w37 ho hb hg hat
                              rw [← Ny257.out] at ho
                              have n0_ := Aside0.mk (Kd.R_over' (by (with_reducible repeat (first | apply Kd.R_alloc | apply Kd.R_drewN | apply Kd.R_drew)); exact HO_11.out) (Kd.R_typed (by (with_reducible repeat (first | apply Kd.R_alloc | apply Kd.R_drewN | apply Kd.R_drew)); exact HO_12.out)) (by decide) hg)
                              have n1_ := Aside0.mk (Kd.R_over' (by (with_reducible repeat (first | apply Kd.R_alloc | apply Kd.R_drewN | apply Kd.R_drew)); exact HO_55.out) (Kd.R_typed (by (with_reducible repeat (first | apply Kd.R_alloc | apply Kd.R_drewN | apply Kd.R_drew)); exact HO_12.out)) (by decide) hg)
                              have n2_ := Aside0.mk (blk_grown (g := gb246) (o := .cells #[.int .i32 a1_0, .int .i64 a1_1, .int .u64 a1_2] 25 (0, 0)) (by (with_reducible repeat (first | refine blk_drewN ?_ _ | refine blk_drew ?_ | refine blk_alloc ?_ _)); exact BK246.out) hg (Kd.R_ne HO_12.out BK246.out (by decide)))
                              have n3_ := Aside0.mk (hb)
                              have n4_ := Aside0.mk (ho)
                              clear HO_11
                              clear HO_55
                              clear BK246
                              clear HB
                              clear HO_12
                              have HO_11 := n0_
                              have HO_55 := n1_
                              have BK246 := n2_
                              have HB := n3_
                              have HO259 := n4_
                              clear n0_ n1_ n2_ n3_ n4_
                              clear ho hb hg hat
                              refine hK.out _ _ ⟨(blk_cell BK246.out 0).trans rfl, (blk_cell BK246.out 1).trans rfl, (blk_cell BK246.out 2).trans rfl, ((HB.out.cell (World.block_lt_of_cell? w _ hw255_0)).trans hw255_0)⟩ (fun hHeld => ?_)
                              clear hK K
                              refine norm_ (a' := ?_) ?_ ?_
                              rotate_left
                              · show Act.put _ (some 70) _ = _
                                simp only [Act.put, List.setIfInBounds_toArray, List.set_cons_zero, List.set_cons_succ, i64_w, i32_w]
                                rfl
                              refine pure_ (i := 10) (N := some 12) (v := ?_) (a' := ?_) #[true, true, true, true, true, true, true, true, true, true, true] rfl rfl (any_of HT_.out (by kernel_rfl)) (fun _ _ _ h => h) (Or.inl ⟨by rfl, ?_⟩) ?_ ?_
                              rotate_left
                              · intro w'
                                go_simp
                                with_reducible rfl
                              rotate_left
                              · simp only [Act.put, List.setIfInBounds_toArray, List.set_cons_zero, List.set_cons_succ, i64_w, i32_w]
                                rfl
                              refine done_ (done_of HT_.out (by kernel_rfl)) ?_
                              try go_wp2
                              go_roundg k2
                              case measure => have := HJ7.out; have := HK2.out; omega
                              case rel => exact ⟨(y257), (wrap64 (x57_2 + 1)), (by first | rfl | (simp; done) | (simp [*]; done)), H', ⟨by have := HJ7.out; have := HK2.out; omega⟩, ⟨by (with_reducible repeat (first | apply Kd.R_alloc | apply Kd.R_drewN | apply Kd.R_drew)); exact HO_11.out⟩, ⟨by (with_reducible repeat (first | apply Kd.R_alloc | apply Kd.R_drewN | apply Kd.R_drew)); exact HO259.out⟩, ⟨by (with_reducible repeat (first | apply Kd.R_alloc | apply Kd.R_drewN | apply Kd.R_drew)); exact HO_55.out⟩, ⟨by (with_reducible repeat (first | refine blk_drewN ?_ _ | refine blk_drew ?_ | refine blk_alloc ?_ _)); exact BK246.out⟩, ⟨by repeat (first | (with_reducible first | exact HB.out | apply below_alloc | apply pw_below_drewN | apply below_drew1 | refine below_set ?_ GE246.out) | exact HB.out)⟩⟩
                            · rw [if_neg c34] at H
                              exact absurd H (by simp)
                          · rw [if_neg c32] at H
                            exact absurd H (by simp)
                        · rw [if_neg c31] at H
                          exact absurd H (by simp)
                      · rw [if_neg c30] at H
                        exact absurd H (by simp)
                    · rw [if_neg c29] at H
                      exact absurd H (by simp)
                  · rw [if_neg c28] at H
                    have c28b0 : decide (x57_2 < (t251.length : Int)) = false := decide_eq_false c28
                    clear c28
                    replace H := Option.bind_eq_some_iff.mp H
                    obtain ⟨⟨t260, t261⟩, A380, H⟩ := H
                    replace H : (if t261 = 0 then ((pick_Draw.f a1_2 a2).bind fun t264 => ((soft_Sum.f k2 t260).bind fun t265 => (if (IntKind.u64.wrap (t265)) = 0 then (none) else (pick_Pick.l1 k2 t251 t260 (wrap64 (Int.tmod t264 (IntKind.u64.wrap (t265)))) 0)))) else (some (0, t261))) = some (r1, r2) := H
                    have A38 := Aside0.mk A380
                    clear A380
                    by_cases c39 : t261 = 0
                    · rw [if_pos c39] at H
                      have c39b0 : (t261 == 0) = true := beq_iff_eq.mpr c39
                      have c39b1 : (t261 != 0) = false := bne_eq_false_iff_eq.mpr c39
                      clear c39
                      replace H := Option.bind_eq_some_iff.mp H
                      obtain ⟨t264, A400, H⟩ := H
                      replace H : ((soft_Sum.f k2 t260).bind fun t265 => (if (IntKind.u64.wrap (t265)) = 0 then (none) else (pick_Pick.l1 k2 t251 t260 (wrap64 (Int.tmod t264 (IntKind.u64.wrap (t265)))) 0))) = some (r1, r2) := H
                      have A40 := Aside0.mk A400
                      clear A400
                      replace H := Option.bind_eq_some_iff.mp H
                      obtain ⟨t265, A410, H⟩ := H
                      replace H : (if (IntKind.u64.wrap (t265)) = 0 then (none) else (pick_Pick.l1 k2 t251 t260 (wrap64 (Int.tmod t264 (IntKind.u64.wrap (t265)))) 0)) = some (r1, r2) := H
                      have A41 := Aside0.mk A410
                      clear A410
                      by_cases c42 : (IntKind.u64.wrap (t265)) = 0
                      · rw [if_pos c42] at H
                        exact absurd H (by simp)
                      · rw [if_neg c42] at H
                        have c42b0 : ((IntKind.u64.wrap (t265)) == 0) = false := beq_eq_false_iff_ne.mpr c42
                        have c42b1 : ((IntKind.u64.wrap (t265)) != 0) = true := bne_iff_ne.mpr c42
                        have H' := Aside0.mk H
                        clear H
                        obtain ⟨Ao43, co43, eo43⟩ := Kd.R_slice HO_12.out
                        subst eo43
                        go_wp2_with (first | ((with_reducible refine gate_callee (f := 20) rfl ?_); refine goesL_ (some 74) rfl rfl Try.func20 (by kernel_rfl) rfl #[.slice Ao43 x12_2.length co43] rfl (by (try simp only [List.map_toArray, List.map_cons, List.map_nil]); first | done | rfl | (simp only [List.length_drop, List.length_take]; rfl)) ?_; (with_reducible refine (soft_Weights.calls k2 _ _ x12_2 t260 t261 _ ?side1 ?side2 A38.out).mono ?_); (case side1 => repeat (first | exact (Kd.R_reads' HO_12.out).2.2 | (with_reducible refine Kd.C_alloc ?_ _) | (with_reducible refine Kd.C_drewN ?_ _) | (with_reducible refine Kd.C_drew ?_))); (case side2 => exact (Kd.R_reads' HO_12.out).2.1); rintro e w44 ⟨v262, rfl, ho0, hb⟩; refine ⟨_, rfl, ?_⟩; have n0_ := Aside0.mk (Kd.R_elder' (by (with_reducible repeat (first | apply Kd.R_alloc | apply Kd.R_drewN | apply Kd.R_drew)); exact HO_11.out) (Kd.R_base ho0) hb); have n1_ := Aside0.mk (Kd.R_below (by (with_reducible repeat (first | apply Kd.R_alloc | apply Kd.R_drewN | apply Kd.R_drew)); exact HO_12.out) hb); have n2_ := Aside0.mk (Kd.R_elder' (by (with_reducible repeat (first | apply Kd.R_alloc | apply Kd.R_drewN | apply Kd.R_drew)); exact HO_55.out) (Kd.R_base ho0) hb); have n3_ := Aside0.mk (Kd.R_lower (Kd.R_new' (Kd.R_new' ho0 (Kd.R_lt (by (with_reducible repeat (first | apply Kd.R_alloc | apply Kd.R_drewN | apply Kd.R_drew)); exact HO_11.out))) (Kd.R_lt (by (with_reducible repeat (first | apply Kd.R_alloc | apply Kd.R_drewN | apply Kd.R_drew)); exact HO_55.out))) (below_size (by repeat (first | (with_reducible first | exact HB.out | apply below_alloc | apply pw_below_drewN | apply below_drew1 | refine below_set ?_ GE246.out) | exact HB.out)))); have n4_ := Aside0.mk (blk_below (g := gb246) (o := .cells #[.int .i32 a1_0, .int .i64 a1_1, .int .u64 a1_2] 25 (0, 0)) (by (with_reducible repeat (first | refine blk_drewN ?_ _ | refine blk_drew ?_ | refine blk_alloc ?_ _)); exact BK246.out) hb); have n5_ := Aside0.mk (below_step (by repeat (first | (with_reducible first | exact HB.out | apply below_alloc | apply pw_below_drewN | apply below_drew1 | refine below_set ?_ GE246.out) | exact HB.out)) hb); clear HO_11; clear HO_12; clear HO_55; clear BK246; clear HB; have HO_11 := n0_; have HO_12 := n1_; have HO_55 := n2_; have HO263 := n3_; have BK246 := n4_; have HB := n5_; clear n0_ n1_ n2_ n3_ n4_ n5_; (try clear hb); (try clear hb2); (try clear hk); (try clear hi); (try clear ho0); have hcz45_0 : w44.cell? ⟨gb246, 0, none⟩ = some (.int .i32 a1_0) := (blk_cell BK246.out 0).trans rfl; have hcz45_1 : w44.cell? ⟨gb246, 1, none⟩ = some (.int .i64 a1_1) := (blk_cell BK246.out 1).trans rfl; have hcz45_2 : w44.cell? ⟨gb246, 2, none⟩ = some (.int .u64 a1_2) := (blk_cell BK246.out 2).trans rfl; have hfz45_0 := blk_frozen BK246.out 0; have hfz45_1 := blk_frozen BK246.out 1; have hfz45_2 := blk_frozen BK246.out 2) | ((with_reducible refine gate_callee (f := 15) rfl ?_); refine goesL_ (some 83) rfl rfl Try.func15 (by kernel_rfl) rfl #[.int .u64 a1_2, .int .i64 a2] rfl (by (try simp only [List.map_toArray, List.map_cons, List.map_nil]); first | done | rfl | (simp only [List.length_drop, List.length_take]; rfl)) ?_; (with_reducible refine (pick_Draw.calls a1_2 a2 t264 _ A40.out).mono ?_); rintro e w' ⟨rfl, ⟨nd, rfl⟩⟩; refine ⟨_, rfl, ?_⟩; obtain ⟨Ao46, co46, eo46⟩ := Kd.R_slice HO263.out; subst eo46) | ((with_reducible refine gate_callee (f := 21) rfl ?_); refine goesL_ (some 85) rfl rfl Try.func21 (by kernel_rfl) rfl #[.slice Ao46 t260.length co46] rfl (by (try simp only [List.map_toArray, List.map_cons, List.map_nil]); first | done | rfl | (simp only [List.length_drop, List.length_take]; rfl)) ?_; (with_reducible refine (soft_Sum.calls k2 _ _ t260 t265 _ ?side1 ?side2 A41.out).mono ?_); (case side1 => repeat (first | exact (Kd.R_reads' HO263.out).2.2 | (with_reducible refine Kd.C_alloc ?_ _) | (with_reducible refine Kd.C_drewN ?_ _) | (with_reducible refine Kd.C_drew ?_))); (case side2 => exact (Kd.R_reads' HO263.out).2.1); rintro e w' ⟨rfl, ⟨nd, rfl⟩⟩; refine ⟨_, rfl, ?_⟩))
                        go_loopg [17, 18] k2 (fun kq v17 v18 w' => ∃ (x17_3 : Int) (x18_3 : Int), v17 = .int .i64 x17_3 ∧ v18 = .int .i64 x18_3 ∧ Aside0 (pick_Pick.l1 kq t251 t260 x17_3 x18_3 = some (r1, r2)) ∧ Aside0 (kq ≤ k2) ∧ Aside0 (Kd.R (Kd.int .i64) 3 w' w.heap.size (fun k_ => some k_ ≠ ((.slice Ao46 t260.length co46) : Value).ownBlock) (.slice Ao27 t251.length co27) t251) ∧ Aside0 (Kd.R (Kd.int .i64) 3 w' w.heap.size (fun k_ => some k_ ≠ ((.slice Ao27 t251.length co27) : Value).ownBlock) (.slice Ao46 t260.length co46) t260) ∧ Aside0 (w'.heap[gb246]? = some (.cells #[.int .i32 a1_0, .int .i64 a1_1, .int .u64 a1_2] 25 (0, 0))) ∧ Aside0 (Below w.heap.size w w'))
                        case atStart => exact ⟨(wrap64 (Int.tmod t264 (IntKind.u64.wrap (t265)))), (0), (by first | rfl | (simp; done) | (simp [*]; done)), (by first | rfl | (simp; done) | (simp [*]; done)), H', ⟨Nat.le_refl _⟩, ⟨by (with_reducible repeat (first | apply Kd.R_alloc | apply Kd.R_drewN | apply Kd.R_drew)); exact Kd.R_mono HO_11.out (fun _ hk => hk.2)⟩, ⟨by (with_reducible repeat (first | apply Kd.R_alloc | apply Kd.R_drewN | apply Kd.R_drew)); exact Kd.R_mono HO263.out (fun _ hk => hk.1.2)⟩, ⟨by (with_reducible repeat (first | refine blk_drewN ?_ _ | refine blk_drew ?_ | refine blk_alloc ?_ _)); exact BK246.out⟩, ⟨by repeat (first | (with_reducible first | exact HB.out | apply below_alloc | apply pw_below_drewN | apply below_drew1 | refine below_set ?_ GE246.out) | exact HB.out)⟩⟩
                        case round =>
                          clear H'
                          try clear c1
                          try clear c2
                          try clear p2
                          try clear q2
                          try clear hx2
                          try clear c3
                          try clear c4
                          try clear c4b0
                          try clear c4b1
                          try clear c4b2
                          try clear c6
                          try clear c6b0
                          try clear c6b1
                          try clear p6
                          try clear c9
                          try clear c11
                          try clear c12
                          try clear c12b0
                          try clear c14
                          try clear c15
                          try clear c18
                          try clear c19
                          try clear c20
                          try clear c20b0
                          try clear c20b1
                          try clear c21
                          try clear p25
                          try clear q25
                          try clear hx25
                          try clear c28
                          try clear c28b0
                          try clear c29
                          try clear c29b0
                          try clear c30
                          try clear c30b0
                          try clear c31
                          try clear c31b0
                          try clear c32
                          try clear c32b0
                          try clear c34
                          try clear c39
                          try clear c39b0
                          try clear c39b1
                          try clear c42
                          try clear c42b0
                          try clear c42b1
                          try clear hcz13_0
                          try clear hcz13_1
                          try clear hcz13_2
                          try clear hcz15_0
                          try clear hcz15_1
                          try clear hcz15_2
                          try clear hcz17_0
                          try clear hcz17_1
                          try clear hcz17_2
                          try clear hcz22_0
                          try clear hcz22_1
                          try clear hcz22_2
                          try clear hcz25_0
                          try clear hcz25_1
                          try clear hcz25_2
                          try clear hcz45_0
                          try clear hcz45_1
                          try clear hcz45_2
                          try clear hfz13_0
                          try clear hfz13_1
                          try clear hfz13_2
                          try clear hfz15_0
                          try clear hfz15_1
                          try clear hfz15_2
                          try clear hfz17_0
                          try clear hfz17_1
                          try clear hfz17_2
                          try clear hfz22_0
                          try clear hfz22_1
                          try clear hfz22_2
                          try clear hfz25_0
                          try clear hfz25_1
                          try clear hfz25_2
                          try clear hfz45_0
                          try clear hfz45_1
                          try clear hfz45_2
                          try clear hx254_0
                          try clear hx255_0
                          try clear p2
                          try clear p254
                          try clear p255
                          try clear q254
                          try clear q255
                          obtain ⟨x17_3, x18_3, rfl, rfl, HA, HK3, HO_11, HO_15, BK246, HB⟩ := hrel
                          cases gk with
                          | zero => exact absurd HA.out (by simp [pick_Pick.l1])
                          | succ k3 =>
                            have H := HA.out
                            clear HA
                            simp only [pick_Pick.l1] at H
                            by_cases c47 : 0 ≤ x18_3
                            · rw [if_pos c47] at H
                              have c47b0 : decide (0 ≤ x18_3) = true := decide_eq_true c47
                              clear c47
                              by_cases c48 : x18_3 < (t260.length : Int)
                              · rw [if_pos c48] at H
                                have c48b0 : decide (x18_3 < (t260.length : Int)) = true := decide_eq_true c48
                                clear c48
                                by_cases c49 : x17_3 ≥ (rd t260 x18_3)
                                · rw [if_pos c49] at H
                                  have c49b0 : decide ((rd t260 x18_3) ≤ x17_3) = true := decide_eq_true c49
                                  clear c49
                                  have H' := Aside0.mk H
                                  clear H
                                  have p266 : 0 ≤ (x18_3 : Int) := of_decide_eq_true (by first | (with_reducible assumption) | assumption)
                                  have q266 : x18_3 < (t260.length : Int) := of_decide_eq_true (by first | (with_reducible assumption) | assumption)
                                  obtain ⟨ad266, e266, hx266_0⟩ := Kd.at_int (Kd.R_reads' HO_15.out).2.2 x18_3 p266 q266
                                  cases e266
                                  replace p266 := eq_true p266
                                  replace q266 := eq_true q266
                                  have p267 : 0 ≤ (x18_3 : Int) := of_decide_eq_true (by first | (with_reducible assumption) | assumption)
                                  have q267 : x18_3 < (t260.length : Int) := of_decide_eq_true (by first | (with_reducible assumption) | assumption)
                                  obtain ⟨ad267, e267, hx267_0⟩ := Kd.at_int (Kd.R_reads' HO_15.out).2.2 x18_3 p267 q267
                                  obtain rfl : ad266 = ad267 := (by injection e267)
                                  replace p267 := eq_true p267
                                  replace q267 := eq_true q267
                                  go_wp2
                                  go_roundg k3
                                  case measure => have := HJ7.out; have := HK2.out; have := HK3.out; omega
                                  case rel => exact ⟨(wrap64 (x17_3 - (rd t260 x18_3))), (wrap64 (x18_3 + 1)), (by first | rfl | (simp; done) | (simp [*]; done)), (by first | rfl | (simp; done) | (simp [*]; done)), H', ⟨by have := HJ7.out; have := HK2.out; have := HK3.out; omega⟩, ⟨by (with_reducible repeat (first | apply Kd.R_alloc | apply Kd.R_drewN | apply Kd.R_drew)); exact HO_11.out⟩, ⟨by (with_reducible repeat (first | apply Kd.R_alloc | apply Kd.R_drewN | apply Kd.R_drew)); exact HO_15.out⟩, ⟨by (with_reducible repeat (first | refine blk_drewN ?_ _ | refine blk_drew ?_ | refine blk_alloc ?_ _)); exact BK246.out⟩, ⟨by repeat (first | (with_reducible first | exact HB.out | apply below_alloc | apply pw_below_drewN | apply below_drew1 | refine below_set ?_ GE246.out) | exact HB.out)⟩⟩
                                · rw [if_neg c49] at H
                                  have c49b0 : decide ((rd t260 x18_3) ≤ x17_3) = false := decide_eq_false c49
                                  clear c49
                                  by_cases c50 : x18_3 < (t251.length : Int)
                                  · rw [if_pos c50] at H
                                    have c50b0 : decide (x18_3 < (t251.length : Int)) = true := decide_eq_true c50
                                    clear c50
                                    simp only [Option.some.injEq, Prod.mk.injEq] at H
                                    obtain ⟨rfl, rfl⟩ := H
                                    have p266 : 0 ≤ (x18_3 : Int) := of_decide_eq_true (by first | (with_reducible assumption) | assumption)
                                    have q266 : x18_3 < (t260.length : Int) := of_decide_eq_true (by first | (with_reducible assumption) | assumption)
                                    obtain ⟨ad266, e266, hx266_0⟩ := Kd.at_int (Kd.R_reads' HO_15.out).2.2 x18_3 p266 q266
                                    cases e266
                                    replace p266 := eq_true p266
                                    replace q266 := eq_true q266
                                    have p268 : 0 ≤ (x18_3 : Int) := of_decide_eq_true (by first | (with_reducible assumption) | assumption)
                                    have q268 : x18_3 < (t251.length : Int) := of_decide_eq_true (by first | (with_reducible assumption) | assumption)
                                    obtain ⟨ad268, e268, hx268_0⟩ := Kd.at_int (Kd.R_reads' HO_11.out).2.2 x18_3 p268 q268
                                    cases e268
                                    replace p268 := eq_true p268
                                    replace q268 := eq_true q268
                                    go_wp2
                                    go_ret2
                                    exact ⟨by first | rfl | (simp [errW_none, errW_some] <;> rfl) | (simp [*, errW_none, errW_some] <;> rfl), by repeat (first | (with_reducible first | exact HB.out | apply below_alloc | apply pw_below_drewN | apply below_drew1 | refine below_set ?_ GE246.out) | exact HB.out)⟩
                                  · rw [if_neg c50] at H
                                    exact absurd H (by simp)
                              · rw [if_neg c48] at H
                                exact absurd H (by simp)
                            · rw [if_neg c47] at H
                              exact absurd H (by simp)
                    · rw [if_neg c39] at H
                      have c39b0 : (t261 == 0) = false := beq_eq_false_iff_ne.mpr c39
                      have c39b1 : (t261 != 0) = true := bne_iff_ne.mpr c39
                      simp only [Option.some.injEq, Prod.mk.injEq] at H
                      obtain ⟨rfl, rfl⟩ := H
                      obtain ⟨Ao51, co51, eo51⟩ := Kd.R_slice HO_12.out
                      subst eo51
                      go_wp2_with (first | ((with_reducible refine gate_callee (f := 20) rfl ?_); refine goesL_ (some 74) rfl rfl Try.func20 (by kernel_rfl) rfl #[.slice Ao51 x12_2.length co51] rfl (by (try simp only [List.map_toArray, List.map_cons, List.map_nil]); first | done | rfl | (simp only [List.length_drop, List.length_take]; rfl)) ?_; (with_reducible refine (soft_Weights.calls k2 _ _ x12_2 t260 t261 _ ?side1 ?side2 A38.out).mono ?_); (case side1 => repeat (first | exact (Kd.R_reads' HO_12.out).2.2 | (with_reducible refine Kd.C_alloc ?_ _) | (with_reducible refine Kd.C_drewN ?_ _) | (with_reducible refine Kd.C_drew ?_))); (case side2 => exact (Kd.R_reads' HO_12.out).2.1); rintro e w52 ⟨v262, rfl, ho0, hb⟩; refine ⟨_, rfl, ?_⟩; have n0_ := Aside0.mk (Kd.R_elder' (by (with_reducible repeat (first | apply Kd.R_alloc | apply Kd.R_drewN | apply Kd.R_drew)); exact HO_11.out) (Kd.R_base ho0) hb); have n1_ := Aside0.mk (Kd.R_below (by (with_reducible repeat (first | apply Kd.R_alloc | apply Kd.R_drewN | apply Kd.R_drew)); exact HO_12.out) hb); have n2_ := Aside0.mk (Kd.R_elder' (by (with_reducible repeat (first | apply Kd.R_alloc | apply Kd.R_drewN | apply Kd.R_drew)); exact HO_55.out) (Kd.R_base ho0) hb); have n3_ := Aside0.mk (Kd.R_lower (Kd.R_new' (Kd.R_new' ho0 (Kd.R_lt (by (with_reducible repeat (first | apply Kd.R_alloc | apply Kd.R_drewN | apply Kd.R_drew)); exact HO_11.out))) (Kd.R_lt (by (with_reducible repeat (first | apply Kd.R_alloc | apply Kd.R_drewN | apply Kd.R_drew)); exact HO_55.out))) (below_size (by repeat (first | (with_reducible first | exact HB.out | apply below_alloc | apply pw_below_drewN | apply below_drew1 | refine below_set ?_ GE246.out) | exact HB.out)))); have n4_ := Aside0.mk (blk_below (g := gb246) (o := .cells #[.int .i32 a1_0, .int .i64 a1_1, .int .u64 a1_2] 25 (0, 0)) (by (with_reducible repeat (first | refine blk_drewN ?_ _ | refine blk_drew ?_ | refine blk_alloc ?_ _)); exact BK246.out) hb); have n5_ := Aside0.mk (below_step (by repeat (first | (with_reducible first | exact HB.out | apply below_alloc | apply pw_below_drewN | apply below_drew1 | refine below_set ?_ GE246.out) | exact HB.out)) hb); clear HO_11; clear HO_12; clear HO_55; clear BK246; clear HB; have HO_11 := n0_; have HO_12 := n1_; have HO_55 := n2_; have HO263 := n3_; have BK246 := n4_; have HB := n5_; clear n0_ n1_ n2_ n3_ n4_ n5_; (try clear hb); (try clear hb2); (try clear hk); (try clear hi); (try clear ho0)))
                      go_ret2
                      exact ⟨by first | rfl | (simp [errW_none, errW_some] <;> rfl) | (simp [*, errW_none, errW_some] <;> rfl), by repeat (first | (with_reducible first | exact HB.out | apply below_alloc | apply pw_below_drewN | apply below_drew1 | refine below_set ?_ GE246.out) | exact HB.out)⟩

end Go.Proofs.Ytmldhpnkkkmloaa.Q
