/- AttnBetween: for every input the Go function returns true and leaves its arguments as they were. Conditions: as each theorem states; the last one has none. -/
import Derived.Deep.DrawnRows
import Derived.Deep.CutRange
import Derived.Test.YteflolamihhmdaaRows
import Derived.WalkKit
import Derived.ProofKit
import Derived.OpenShut
import Derived.ShutString
import Derived.ChangeOld
import Derived.Below
import Derived.SizedLaws
import Derived.Test.YteflolamihhmdaaWSized
import Derived.Test.YteflolamihhmdaaCAttnBetween1
import Derived.Test.YteflolamihhmdaaCAttnBetween2
import Derived.Test.YteflolamihhmdaaCAttnBetween3
namespace Go.Proofs.Yteflolamihhmdaa.Pure
open Go.RowKit Go.Proofs.Yteflolamihhmdaa.Q Go.Proofs.YteflolamihhmdaaW.PrintWords Go.Proofs.YteflolamihhmdaaW.PrintLast

theorem awake14_at : credenzalaw14_awake.f 100 = some true := by kernel_rfl
theorem awake14 {k : Nat} (hk : 100 ≤ k) : credenzalaw14_awake.f k = some true := at_rounds credenzalaw14_awake.mono hk awake14_at
theorem A32_of_wf {l : List Int} (h : ∀ x ∈ l, (Lit.int .i32 x).wf = true) : A32 l := fun x hx => by
  have := h x hx
  simp [Lit.wf, IntKind.min, IntKind.max, IntKind.signed, IntKind.bits] at this
  exact ⟨by omega, by omega⟩
theorem light_l1 (x7 : List (List (List Int))) (x8 x9 : Int) (row : List (List Int)) (hr : row.length ≤ 40) : ∀ (d k p : Nat), p + d = row.length → credenzalaw14_light.l1 (k + d + 1) x7 x8 x9 row (row.length : Int) (p : Int) = some false ∨ credenzalaw14_light.l1 (k + d + 1) x7 x8 x9 row (row.length : Int) (p : Int) = credenzalaw14_light.l0 k x7 x8 (wrap64 (x9 + 1)) := by
  intro d
  induction d with
  | zero =>
    intro k p hp
    exact .inr (by rw [credenzalaw14_light.l1, if_neg (by omega)])
  | succ d ih =>
    intro k p hp
    have hlt : p < row.length := by omega
    rw [show k + (d + 1) + 1 = (k + d + 1) + 1 by omega, credenzalaw14_light.l1, if_pos (by omega), if_pos (by omega), if_pos (by omega), rdL]
    by_cases c : ((rowAt row (p : Int)).length : Int) > 40
    · exact .inl (by rw [if_pos c])
    · rw [if_neg c, wnext hlt (by omega)]
      exact ih k (p + 1) (by omega)
/-- light tells of two lists of lists: if so, neither has more than 40 -/
theorem light_two (a b : List (List Int)) {k : Nat} (hk : 100 ≤ k) : ∃ r, credenzalaw14_light.f k [a, b] = some r ∧ (r = true → a.length ≤ 40 ∧ b.length ≤ 40) := by
  have f1 : ∀ k, 42 ≤ k → ∃ r, credenzalaw14_light.l0 (k + 1) [a, b] 2 1 = some r ∧ (r = true → b.length ≤ 40) := by
    intro k hk
    have e1 : rd_L9 [a, b] 1 = b := rfl
    rw [credenzalaw14_light.l0, if_pos (by omega), if_pos (by omega), if_pos (by simp), e1]
    by_cases c : (b.length : Int) > 40
    · exact ⟨false, by rw [if_pos c], by simp⟩
    · rw [if_neg c]
      obtain ⟨m, rfl⟩ : ∃ m, k = (m + 1) + b.length + 1 := ⟨k - b.length - 2, by omega⟩
      rcases light_l1 [a, b] 2 1 b (by omega) b.length (m + 1) 0 (by omega) with h | h
      · exact ⟨false, h, by simp⟩
      · refine ⟨true, h.trans ?_, fun _ => by omega⟩
        rw [show wrap64 ((1 : Int) + 1) = 2 from w64 (by omega) (by omega), credenzalaw14_light.l0, if_neg (by omega)]
  have e0 : rd_L9 [a, b] 0 = a := rfl
  obtain ⟨k, rfl⟩ : ∃ m, k = m + 1 := ⟨k - 1, by omega⟩
  show ∃ r, credenzalaw14_light.l0 (k + 1) [a, b] 2 0 = some r ∧ _
  rw [credenzalaw14_light.l0, if_pos (by omega), if_pos (by omega), if_pos (by simp), e0]
  by_cases c : (a.length : Int) > 40
  · exact ⟨false, by rw [if_pos c], by simp⟩
  · rw [if_neg c]
    obtain ⟨m, rfl⟩ : ∃ m, k = (m + 1) + a.length + 1 := ⟨k - a.length - 2, by omega⟩
    rcases light_l1 [a, b] 2 0 a (by omega) a.length (m + 1) 0 (by omega) with h | h
    · exact ⟨false, h, by simp⟩
    · obtain ⟨r, hr, hr2⟩ := f1 m (by omega)
      refine ⟨r, (h.trans ?_), fun e => ⟨by omega, hr2 e⟩⟩
      rw [show wrap64 ((0 : Int) + 1) = 1 from w64 (by omega) (by omega)]
      exact hr
theorem same_loop (a b : List Int) (hl : a.length = b.length) (hn : a.length ≤ 1000000) : ∀ (d k p : Nat), p + d = a.length → d < k → ∃ r, credenzaref03_Same.l0 k a b (p : Int) = some r ∧ (r = true ↔ a.drop p = b.drop p) := by
  intro d
  induction d with
  | zero =>
    intro k p hp hk
    obtain ⟨k, rfl⟩ : ∃ m, k = m + 1 := ⟨k - 1, by omega⟩
    refine ⟨true, by rw [credenzaref03_Same.l0, if_neg (by omega)], ?_⟩
    rw [List.drop_eq_nil_of_le (by omega), List.drop_eq_nil_of_le (by omega)]
    simp
  | succ d ih =>
    intro k p hp hk
    obtain ⟨k, rfl⟩ : ∃ m, k = m + 1 := ⟨k - 1, by omega⟩
    have hlt : p < a.length := by omega
    have hlb : p < b.length := by omega
    rw [credenzaref03_Same.l0, if_pos (by omega), if_pos (by omega), if_pos (by omega), drop_rd hlt, drop_rd hlb]
    by_cases c : rd a (p : Int) = rd b (p : Int)
    · rw [if_pos c, wnext hlt (by omega)]
      obtain ⟨r, h1, h2⟩ := ih k (p + 1) (by omega) (by omega)
      exact ⟨r, h1, h2.trans (by simp [c])⟩
    · exact ⟨false, by rw [if_neg c], by simp [c]⟩
theorem same_some (a b : List Int) (hn : a.length ≤ 1000000) {k : Nat} (hk : a.length < k) : ∃ r, credenzaref03_Same.f k a b = some r ∧ (r = true ↔ a = b) := by
  unfold credenzaref03_Same.f
  by_cases c : a.length = b.length
  · rw [if_pos (by omega)]
    have := same_loop a b c hn a.length k 0 (by omega) hk
    simpa using this
  · exact ⟨false, by rw [if_neg (by omega)], by simp; intro h; exact c (by rw [h])⟩
theorem same_refl (a : List Int) (hn : a.length ≤ 1000000) {k : Nat} (hk : a.length < k) : credenzaref03_Same.f k a a = some true := by
  obtain ⟨r, h1, h2⟩ := same_some a a hn hk
  rw [h1, h2.2 rfl]
theorem gatherR_length {q : List Int} {keys vals : List (List Int)} (hr : Rows q.length vals) : (gatherR q keys vals).length = q.length := mixR_length hr
end Go.Proofs.Yteflolamihhmdaa.Pure

namespace Go.Proofs.Yteflolamihhmdaa.Pure
open Go.RowKit Go.Proofs.Yteflolamihhmdaa.Q Go.Proofs.YteflolamihhmdaaW.PrintWords Go.Proofs.YteflolamihhmdaaW.PrintLast

theorem rnd_between {a b lo hi : Int} (hb : 0 < b) (h1 : lo * b ≤ a) (h2 : a ≤ hi * b) : lo ≤ rnd a b ∧ rnd a b ≤ hi := by
  obtain ⟨e, r0, r1⟩ := divmod (a := a) hb
  have c1 : lo ≤ a / b := Int.le_ediv_of_mul_le hb h1
  have c2 : a / b ≤ hi := by
    have : a / b < hi + 1 := Int.ediv_lt_of_lt_mul hb (by rw [Int.add_mul]; omega)
    omega
  unfold rnd
  split
  · rename_i h
    refine ⟨by omega, ?_⟩
    by_cases c3 : a / b = hi
    · have e2 : b * (a / b) = hi * b := by rw [c3, Int.mul_comm]
      have : a % b = 0 := by omega
      rcases h with h | ⟨h, _⟩
      · omega
      · omega
    · omega
  · exact ⟨c1, c2⟩
/-- at place i all values lie from lo to hi -/
def In (vs : List (List Int)) (i lo hi : Int) : Prop := ∀ v ∈ vs, lo ≤ narR (rd v i) ∧ narR (rd v i) ≤ hi
theorem col_between : ∀ (ws : List Int) (vs : List (List Int)) (i lo hi : Int), WB ws → ws.length = vs.length → In vs i lo hi → lo * sumR ws ≤ colR ws vs i ∧ colR ws vs i ≤ hi * sumR ws := by
  intro ws
  induction ws with
  | nil =>
    intro vs i lo hi _ h _
    cases vs with
    | nil => simp [colR, sumR]
    | cons v vs => simp at h
  | cons w ws ih =>
    intro vs i lo hi hw h hin
    cases vs with
    | nil => simp at h
    | cons v vs =>
      have h1 := ih vs i lo hi (fun z hz => hw z (by simp [hz])) (by simpa using h) (fun z hz => hin z (by simp [hz]))
      have h2 := hin v (by simp)
      have h3 := hw w (by simp)
      have h4 : lo * w ≤ w * narR (rd v i) := by rw [Int.mul_comm]; exact Int.mul_le_mul_of_nonneg_left h2.1 h3.1
      have h5 : w * narR (rd v i) ≤ hi * w := by rw [Int.mul_comm hi]; exact Int.mul_le_mul_of_nonneg_left h2.2 h3.1
      simp only [colR, sumR, Int.mul_add]
      omega
theorem gather_between {q : List Int} {keys vs : List (List Int)} (h0 : 0 < keys.length) (hr : Right q keys vs) {i : Nat} (hi : i < q.length) {lo hi' : Int} (hin : In vs (i : Int) lo hi') : lo ≤ rd (gatherR q keys vs) (i : Int) ∧ rd (gatherR q keys vs) (i : Int) ≤ hi' := by
  have hls : (keys.map (scoreR q)).length = keys.length := List.length_map _
  have hwl := weightsR_length (keys.map (scoreR q))
  have hp := weightsR_pos (l := keys.map (scoreR q)) (by omega)
  have hb := col_between (weightsR (keys.map (scoreR q))) vs (i : Int) lo hi' weightsR_wb (by have := hr.1; omega) hin
  have hrb := rnd_between (a := colR (weightsR (keys.map (scoreR q))) vs (i : Int)) (b := sumR (weightsR (keys.map (scoreR q)))) (by omega) hb.1 hb.2
  have hv0 : 0 < vs.length := by have := hr.1; omega
  have hin0 := hin _ (rowAt_mem hv0)
  have hnb := narR_bd (rd (rowAt vs ((0 : Nat) : Int)) (i : Int))
  unfold gatherR
  rw [mixR_at hr.2.2.2.2 hi]
  unfold outR narR cutR
  split
  · constructor <;> omega
  · split <;> constructor <;> omega
end Go.Proofs.Yteflolamihhmdaa.Pure

namespace Go.Proofs.Yteflolamihhmdaa.Between
open Go.RowKit Go.Proofs.Yteflolamihhmdaa.Q Go.Proofs.Yteflolamihhmdaa.Pure Go.Proofs.YteflolamihhmdaaW.PrintWords Go.Proofs.YteflolamihhmdaaW.PrintLast Go.Proofs.YteflolamihhmdaaW.PrintMore
attribute [local go_sem] max2_int min2_int max_two min_two max_three min_three max_four min_four
attribute [local go_sem ↓] Go.wp_at_zero Go.wp_at_succ

theorem two_rows {w : World} {Ak Av : Option Addr} {ck cv : Nat} {ks vs : List (List Int)} (s t : Nat) (o : TypeId) (hk : Kd.C (Kd.slice s (Kd.int .i32)) w Ak ks.length ks) (hck : ks.length ≤ ck) (hv : Kd.C (Kd.slice s (Kd.int .i32)) w Av vs.length vs) (hcv : vs.length ≤ cv) :
    Kd.C (Kd.slice t (Kd.slice s (Kd.int .i32))) (w.alloc (.cells #[.slice Ak ks.length ck, .slice Av vs.length cv] o)) (some ⟨w.heap.size, 0, none⟩) [ks, vs].length [ks, vs] := by
  have hb : Below w.heap.size w (w.alloc (.cells #[.slice Ak ks.length ck, .slice Av vs.length cv] o)) := below_alloc (Below.refl _ _) _
  have hnew := heap_alloc_new w (.cells #[.slice Ak ks.length ck, .slice Av vs.length cv] o)
  refine ⟨rfl, by simp, fun _ => ⟨_, rfl, fun j p hj => ?_⟩⟩
  match j, hj with
  | 0, hj =>
    have hp : p = ks := by simpa using hj.symm
    subst hp
    refine ⟨[.slice Ak p.length ck], rfl, ⟨Ak, ck, rfl, hck, Kd.C_below hk hb⟩, fun i u hi => ?_⟩
    obtain rfl : i = 0 := by
      cases i with
      | zero => rfl
      | succ i => simp at hi
    have hu : u = .slice Ak p.length ck := by simpa using hi.symm
    rw [hu, Go.WideShapes.add_plain, show 0 + (0 * (Kd.slice t (Kd.slice s (Kd.int .i32))).sz + 0) = 0 by simp]
    exact (blk_cell hnew 0).trans rfl
  | 1, hj =>
    have hp : p = vs := by simpa using hj.symm
    subst hp
    refine ⟨[.slice Av p.length cv], rfl, ⟨Av, cv, rfl, hcv, Kd.C_below hv hb⟩, fun i u hi => ?_⟩
    obtain rfl : i = 0 := by
      cases i with
      | zero => rfl
      | succ i => simp at hi
    have hu : u = .slice Av p.length cv := by simpa using hi.symm
    rw [hu, Go.WideShapes.add_plain, show 0 + (1 * (Kd.slice t (Kd.slice s (Kd.int .i32))).sz + 0) = 1 by simp [Kd.slice]]
    exact (blk_cell hnew 1).trans rfl
  | j + 2, hj => simp at hj

theorem light2 {A : Option Addr} {W : World} {ks vs : List (List Int)} {b : Bool} (hC : Kd.C (Kd.slice 22 (Kd.slice 21 (Kd.int .i32))) W A [ks, vs].length [ks, vs]) (h : credenzalaw14_light.f 2000 [ks, vs] = some b) :
    Calls Try.prog 11 #[.slice A 2 2] W fun e w' => e = .returned (.bool b) ∧ Drawn0 W w' := credenzalaw14_light.calls 2000 A 2 [ks, vs] b W hC (by simp) h

set_option maxRecDepth 100000 in
set_option maxHeartbeats 8000000 in
theorem between_yes (Aq : Option Addr) (cq : Nat) (q : List Int) (Ak : Option Addr) (ck : Nat) (ks : List (List Int)) (Av : Option Addr) (cv : Nat) (vs : List (List Int)) (w : World)
    (hq : Kd.C (Kd.int .i32) w Aq q.length q) (hcq : q.length ≤ cq) (hk : Kd.C (Kd.slice 21 (Kd.int .i32)) w Ak ks.length ks) (hck : ks.length ≤ ck) (hv : Kd.C (Kd.slice 21 (Kd.int .i32)) w Av vs.length vs) (hcv : vs.length ≤ cv)
    (h0 : 0 < ks.length) (h40 : ks.length ≤ 40) (hr : Right q ks vs) (haq : A32 q) (hak : AA32 ks) (hav : AA32 vs) (hl : credenzalaw14_light.f 2000 [ks, vs] = some true) (hri : credenzaref14_Right.f 2000 q ks vs = some 0) :
    Calls Try.prog 5 #[.slice Aq q.length cq, .slice Ak ks.length ck, .slice Av vs.length cv] w fun e w' => e = .returned (.bool true) ∧ Below w.heap.size w w' := by
  have hgl := gatherR_length (q := q) (keys := ks) hr.2.2.2.2
  have HG := Aside0.mk (attn_Gather_some h0 (by omega) hr haq hak hav (k := 2000) (by omega))
  have HIN := Aside0.mk (fun (i : Nat) (hi : i < q.length) (lo hi' : Int) (h : In vs (i : Int) lo hi') => gather_between h0 hr hi h)
  have hvl : 0 < vs.length := by have := hr.1; omega
  have hv40 : vs.length ≤ 40 := by have := hr.1; omega
  have HROW := Aside0.mk (fun (t : Nat) (ht : t < vs.length) => And.intro (hr.2.2.2.2 _ (rowAt_mem ht)) (hav _ (rowAt_mem ht)))
  have hq16 : q.length ≤ 16 := hr.2.2.1
  have hq1 : 1 ≤ q.length := hr.2.1
  generalize gatherR q ks vs = l at hgl HG HIN
  have HLL := Aside0.mk hgl
  have hlb : ((l.length : Int) != (q.length : Int)) = false := by rw [bne_eq_false_iff_eq]; omega
  have HQ := Aside0.mk hq
  have HCQ := Aside0.mk hcq
  have HK := Aside0.mk hk
  have HCK := Aside0.mk hck
  have HV := Aside0.mk hv
  have HCV := Aside0.mk hcv
  have HL := Aside0.mk hl
  have HR := Aside0.mk hri
  have H2 := Aside0.mk (two_rows 21 22 29 hk hck hv hcv)
  clear hq hcq hk hck hv hcv hl hri h0 h40 hr haq hak hav hgl
  go_enter Try.func5, Try.ntmps5
  go_wp2_with (first
    | (go_at_call 11; (with_reducible refine (light2 H2.out HL.out).mono ?_); rintro e w1 ⟨rfl, ⟨nd1, rfl⟩⟩)
    | (go_at_call 13; (with_reducible refine (credenzaref14_Right.calls 2000 Aq cq q Ak ck ks Av cv vs 0 _ (Kd.C_below HQ.out (by repeat (first | exact Below.refl _ _ | apply below_alloc | apply pw_below_drewN | apply below_drew1))) HCQ.out (Kd.C_below HK.out (by repeat (first | exact Below.refl _ _ | apply below_alloc | apply pw_below_drewN | apply below_drew1))) HCK.out (Kd.C_below HV.out (by repeat (first | exact Below.refl _ _ | apply below_alloc | apply pw_below_drewN | apply below_drew1))) HCV.out HR.out).mono ?_); rintro e w2 ⟨rfl, ⟨nd2, rfl⟩⟩))
  refine (attn_Gather.calls 2000 Aq cq q Ak ck ks Av cv vs l 0 _ (Kd.C_below HQ.out (by repeat (first | exact Below.refl _ _ | apply below_alloc | apply pw_below_drewN | apply below_drew1))) HCQ.out (Kd.C_below HK.out (by repeat (first | exact Below.refl _ _ | apply below_alloc | apply pw_below_drewN | apply below_drew1))) HCK.out (Kd.C_below HV.out (by repeat (first | exact Below.refl _ _ | apply below_alloc | apply pw_below_drewN | apply below_drew1))) HCV.out HG.out).mono ?_
  rintro e w3 ⟨v7, rfl, hRl, hb3⟩
  have hB3 : Below w.heap.size w w3 := Below.trans (by repeat (first | exact Below.refl _ _ | apply below_alloc | apply pw_below_drewN | apply below_drew1)) (hb3.mono (Below.size (by repeat (first | exact Below.refl _ _ | apply below_alloc | apply pw_below_drewN | apply below_drew1))))
  obtain ⟨Al, cl, rfl, hll, hCl⟩ := Kd.R_reads hRl
  have HB3 := Aside0.mk hB3
  have HCl := Aside0.mk hCl
  have hll1 : 1 ≤ l.length := by have := HLL.out; omega
  have hll2 : l.length ≤ 16 := by have := HLL.out; omega
  obtain ⟨adl, rfl, -⟩ := Kd.at_int hCl 0 (by omega) (by omega)
  obtain ⟨adv, A00, c00, rfl, -, -, -⟩ := attn_row_at HV.out 0 hvl
  clear hRl hb3 hB3 hCl H2
  go_wp2
  go_loopw [47] (fun i wr => ∃ j : Nat, j ≤ l.length ∧ i = .int .i64 j ∧ Aside0 (Below w3.heap.size w3 wr)) (fun i _ => l.length - (intOf i).toNat)
  case atStart => exact ⟨0, Nat.zero_le _, rfl, ⟨Below.refl _ _⟩⟩
  case round =>
    obtain ⟨j, hj, rfl, HB⟩ := hrel
    have HBW := Aside0.mk (HB3.out.trans (HB.out.mono HB3.out.size))
    by_cases hlt : j < l.length
    · obtain ⟨adl', e', hcl⟩ := Kd.at_int (Kd.C_below HCl.out HB.out) (j : Int) (by omega) (by omega)
      cases e'
      simp only [Int.toNat_natCast] at hcl
      have HBET := Aside0.mk (HIN.out j (by have := HLL.out; omega))
      generalize rd l (j : Int) = z at hcl HBET
      obtain ⟨adv', A0, c0, e', hc0, hl0, hr0⟩ := attn_row_at (Kd.C_below HV.out HBW.out) 0 hvl
      cases e'
      have hrow0 := HROW.out 0 hvl
      change (Pure.rowAt vs ((0 : Nat) : Int)).length = q.length ∧ A32 (Pure.rowAt vs ((0 : Nat) : Int)) at hrow0
      change wr.cell? (adv.add 0) = some (.slice A0 (Pure.rowAt vs ((0 : Nat) : Int)).length c0) at hc0
      change (Pure.rowAt vs ((0 : Nat) : Int)).length ≤ c0 at hl0
      change Kd.C (Kd.int .i32) wr A0 (Pure.rowAt vs ((0 : Nat) : Int)).length (Pure.rowAt vs ((0 : Nat) : Int)) at hr0
      generalize hrw : Pure.rowAt vs ((0 : Nat) : Int) = row at hc0 hl0 hr0 hrow0
      have HN0 := Aside0.mk (ref_Narrow_some' row (by omega) hrow0.2 (k := 2000) (by omega))
      have hjl : j < (nars row).length := by rw [nars_length, hrow0.1]; have := HLL.out; omega
      have hjli : (j : Int) < ((nars row).length : Int) := by omega
      have hji : (0 : Int) ≤ (j : Int) := by omega
      have hc00 : wr.cell? adv = some (.slice A0 row.length c0) := by simpa [Addr.add] using hc0
      have HR0 := Aside0.mk hr0
      have HL0 := Aside0.mk hl0
      have HRW := Aside0.mk hrw
      have HR00 := Aside0.mk hrow0
      clear hr0 hl0 hrw hrow0
      have tok1 : True := trivial
      have tok2 : True := trivial
      go_wp2_with fail
      go_cut [11, 12, 47] from 47 to 92 (fun a b i wx => a = .int .i32 (rd (nars row) (j : Int)) ∧ b = .int .i32 (rd (nars row) (j : Int)) ∧ i = .int .i64 j ∧ Aside0 (Below w3.heap.size w3 wx))
      case first =>
        go_region_with (first
          | (have _t := tok1; go_at_call 16; (with_reducible refine (credenzaref14_Narrow.calls 2000 A0 c0 row (nars row) _ (by first | exact HR0.out | exact Kd.C_drew HR0.out | exact Kd.C_drewN HR0.out _) HL0.out HN0.out).mono ?_); rintro e wa ⟨va, rfl, hRa, hba'⟩; have hba : Below wr.heap.size wr wa := ⟨hba'.os, hba'.tape, hba'.output, hba'.size, hba'.block⟩; obtain ⟨Aa, ca, rfl, -, hCa⟩ := Kd.R_reads hRa; obtain ⟨ada, rfl, hca⟩ := Kd.at_int hCa (j : Int) hji hjli; simp only [Int.toNat_natCast] at hca; have hc0a := pw_cell_below hba hc00; clear tok1 hRa hba' hCa _t)
          | (have _t := tok2; go_at_call 16; (with_reducible refine (credenzaref14_Narrow.calls 2000 A0 c0 row (nars row) _ (Kd.C_below HR0.out hba) HL0.out HN0.out).mono ?_); rintro e wb ⟨vb, rfl, hRb, hbb⟩; obtain ⟨Ab, cb, rfl, -, hCb⟩ := Kd.R_reads hRb; obtain ⟨adb, rfl, hcb⟩ := Kd.at_int hCb (j : Int) hji hjli; simp only [Int.toNat_natCast] at hcb; have hca2 := pw_cell_below hbb hca; clear tok2 hRb hCb _t))
        all_goals (go_wp2_with fail)
        all_goals go_meet
        all_goals exact ⟨rfl, rfl, rfl, ⟨HB.out.trans ((hba.trans (hbb.mono hba.size)).mono HB.out.size)⟩⟩
      case rest =>
        obtain ⟨rfl, rfl, rfl, HBx⟩ := hcut
        have hz0 : -8388608 ≤ rd (nars row) (j : Int) ∧ rd (nars row) (j : Int) ≤ 8388608 := nars_nb row _ (rd_mem hjl)
        generalize rd (nars row) (j : Int) = z0 at hz0
        clear hc0 hc00 HB HBW hcl tok1 tok2
        go_wp2
        go_loopw [11, 12, 68] (fun a b i wr2 => ∃ (t : Nat) (lo hi : Int), t ≤ vs.length ∧ i = .int .i64 t ∧ a = .int .i32 lo ∧ b = .int .i32 hi ∧ (-8388608 ≤ lo ∧ lo ≤ 8388608) ∧ (-8388608 ≤ hi ∧ hi ≤ 8388608) ∧ Aside0 (∀ s : Nat, s < t → lo ≤ narR (rd (Pure.rowAt vs (s : Int)) (j : Int)) ∧ narR (rd (Pure.rowAt vs (s : Int)) (j : Int)) ≤ hi) ∧ Aside0 (Below w3.heap.size w3 wr2)) (fun _ _ i _ => vs.length - (intOf i).toNat)
        case atStart => exact ⟨0, z0, z0, Nat.zero_le _, rfl, rfl, rfl, hz0, hz0, ⟨fun s hs => absurd hs (Nat.not_lt_zero s)⟩, HBx⟩
        case round =>
          clear HBx hz0
          obtain ⟨t, lo, hi, ht, rfl, rfl, rfl, hlo, hhi, HI, HB⟩ := hrel
          have HBW := Aside0.mk (HB3.out.trans (HB.out.mono HB3.out.size))
          by_cases htl : t < vs.length
          · obtain ⟨adv', A1, c1, e', hc1, hl1, hr1⟩ := attn_row_at (Kd.C_below HV.out HBW.out) t htl
            cases e'
            have hrow1 := HROW.out t htl
            change wr.cell? (adv.add t) = some (.slice A1 (Pure.rowAt vs (t : Int)).length c1) at hc1
            change (Pure.rowAt vs (t : Int)).length ≤ c1 at hl1
            change Kd.C (Kd.int .i32) wr A1 (Pure.rowAt vs (t : Int)).length (Pure.rowAt vs (t : Int)) at hr1
            have HT := Aside0.mk (show ∀ s : Nat, s < t + 1 → s < t ∨ s = t from fun s hs => by omega)
            generalize hrw1 : Pure.rowAt vs (t : Int) = rowt at hc1 hl1 hr1 hrow1
            have HRW1 := Aside0.mk hrw1
            have HN1 := Aside0.mk (ref_Narrow_some' rowt (by omega) hrow1.2 (k := 2000) (by omega))
            have hjt : j < (nars rowt).length := by rw [nars_length, hrow1.1]; have := HLL.out; omega
            have hjti : (j : Int) < ((nars rowt).length : Int) := by omega
            have hz1 : -8388608 ≤ rd (nars rowt) (j : Int) ∧ rd (nars rowt) (j : Int) ≤ 8388608 := nars_nb rowt _ (rd_mem hjt)
            have HZ1 := Aside0.mk (rd_nars (l := rowt) (i := j) (by rw [nars_length] at hjt; exact hjt))
            have HR1 := Aside0.mk hr1
            have HL1 := Aside0.mk hl1
            clear hr1 hl1 hrw1 hrow1
            go_wp2_with (go_at_call 16; (with_reducible refine (credenzaref14_Narrow.calls 2000 A1 c1 rowt (nars rowt) _ HR1.out HL1.out HN1.out).mono ?_); rintro e wb ⟨vb, rfl, hRb, hbb⟩; obtain ⟨Ab, cb, rfl, -, hCb⟩ := Kd.R_reads hRb; obtain ⟨adb, rfl, hcb⟩ := Kd.at_int hCb (j : Int) hji hjti; simp only [Int.toNat_natCast] at hcb; clear hRb hCb)
            go_roundw
            case rel =>
              generalize rd (nars rowt) (j : Int) = z1 at hz1 HZ1
              refine ⟨t + 1, mn lo z1, mx hi z1, by omega, by go_num, rfl, rfl, by unfold mn; constructor <;> split <;> omega, by unfold mx; constructor <;> split <;> omega, ⟨fun s hs => ?_⟩, ⟨HB.out.trans (hbb.mono HB.out.size)⟩⟩
              have hmn : mn lo z1 ≤ lo ∧ mn lo z1 ≤ z1 := by unfold mn; constructor <;> split <;> omega
              have hmx : hi ≤ mx hi z1 ∧ z1 ≤ mx hi z1 := by unfold mx; constructor <;> split <;> omega
              rcases HT.out s hs with h | rfl
              · have := HI.out s h
                constructor <;> omega
              · rw [HRW1.out, ← HZ1.out]
                constructor <;> omega
            case measure => simp [intOf]; omega
          · obtain rfl : t = vs.length := by omega
            have hbz := HBET.out lo hi (fun v hv => by
              obtain ⟨s, hs, rfl⟩ := List.getElem_of_mem hv
              have := HI.out s hs
              rw [rowAt_at hs] at this
              exact this)
            obtain ⟨hz1, hz2⟩ := hbz
            have hz1b : decide (z < lo) = false := decide_eq_false (by omega)
            have hz2b : decide (hi < z) = false := decide_eq_false (by omega)
            go_wp2
            go_roundw
            case rel => exact ⟨j + 1, by omega, by go_num, HB⟩
            case measure => simp [intOf]; omega
    · obtain rfl : j = l.length := by omega
      go_wp2_with (go_at_call 8; (with_reducible refine (credenzalaw14_awake.calls 100 true _ awake14_at).mono ?_); rintro e w4 ⟨rfl, hb4⟩)
      go_ret
      exact ⟨rfl, HBW.out.trans (hb4.mono HBW.out.size)⟩

set_option maxRecDepth 100000 in
set_option maxHeartbeats 4000000 in
theorem between_light (Aq : Option Addr) (cq : Nat) (q : List Int) (Ak : Option Addr) (ck : Nat) (ks : List (List Int)) (Av : Option Addr) (cv : Nat) (vs : List (List Int)) (w : World)
    (hk : Kd.C (Kd.slice 21 (Kd.int .i32)) w Ak ks.length ks) (hck : ks.length ≤ ck) (hv : Kd.C (Kd.slice 21 (Kd.int .i32)) w Av vs.length vs) (hcv : vs.length ≤ cv) (hl : credenzalaw14_light.f 2000 [ks, vs] = some false) :
    Calls Try.prog 5 #[.slice Aq q.length cq, .slice Ak ks.length ck, .slice Av vs.length cv] w fun e w' => e = .returned (.bool true) ∧ Below w.heap.size w w' := by
  have HL := Aside0.mk hl
  have H2 := Aside0.mk (two_rows 21 22 29 hk hck hv hcv)
  clear hk hck hv hcv hl
  go_enter Try.func5, Try.ntmps5
  go_wp2_with (first
    | (go_at_call 11; (with_reducible refine (light2 H2.out HL.out).mono ?_); rintro e w1 ⟨rfl, ⟨nd1, rfl⟩⟩)
    | (go_at_call 8; (with_reducible refine (credenzalaw14_awake.calls 100 true _ awake14_at).mono ?_); rintro e w4 ⟨rfl, hb4⟩))
  go_ret
  exact ⟨rfl, Below.trans (by repeat (first | exact Below.refl _ _ | apply below_alloc | apply pw_below_drewN | apply below_drew1)) (hb4.mono (Below.size (by repeat (first | exact Below.refl _ _ | apply below_alloc | apply pw_below_drewN | apply below_drew1))))⟩

set_option maxRecDepth 100000 in
set_option maxHeartbeats 4000000 in
theorem between_wrong (Aq : Option Addr) (cq : Nat) (q : List Int) (Ak : Option Addr) (ck : Nat) (ks : List (List Int)) (Av : Option Addr) (cv : Nat) (vs : List (List Int)) (x : Int) (w : World)
    (hq : Kd.C (Kd.int .i32) w Aq q.length q) (hcq : q.length ≤ cq) (hk : Kd.C (Kd.slice 21 (Kd.int .i32)) w Ak ks.length ks) (hck : ks.length ≤ ck) (hv : Kd.C (Kd.slice 21 (Kd.int .i32)) w Av vs.length vs) (hcv : vs.length ≤ cv) (hl : credenzalaw14_light.f 2000 [ks, vs] = some true) (hri : credenzaref14_Right.f 2000 q ks vs = some x) (hx : x ≠ 0) :
    Calls Try.prog 5 #[.slice Aq q.length cq, .slice Ak ks.length ck, .slice Av vs.length cv] w fun e w' => e = .returned (.bool true) ∧ Below w.heap.size w w' := by
  have hxb : (x != 0) = true := by rw [bne_iff_ne]; exact hx
  clear hx
  have HQ := Aside0.mk hq
  have HCQ := Aside0.mk hcq
  have HK := Aside0.mk hk
  have HCK := Aside0.mk hck
  have HV := Aside0.mk hv
  have HCV := Aside0.mk hcv
  have HL := Aside0.mk hl
  have HR := Aside0.mk hri
  have H2 := Aside0.mk (two_rows 21 22 29 hk hck hv hcv)
  clear hq hcq hk hck hv hcv hl hri
  go_enter Try.func5, Try.ntmps5
  go_wp2_with (first
    | (go_at_call 11; (with_reducible refine (light2 H2.out HL.out).mono ?_); rintro e w1 ⟨rfl, ⟨nd1, rfl⟩⟩)
    | (go_at_call 13; (with_reducible refine (credenzaref14_Right.calls 2000 Aq cq q Ak ck ks Av cv vs x _ (Kd.C_below HQ.out (by repeat (first | exact Below.refl _ _ | apply below_alloc | apply pw_below_drewN | apply below_drew1))) HCQ.out (Kd.C_below HK.out (by repeat (first | exact Below.refl _ _ | apply below_alloc | apply pw_below_drewN | apply below_drew1))) HCK.out (Kd.C_below HV.out (by repeat (first | exact Below.refl _ _ | apply below_alloc | apply pw_below_drewN | apply below_drew1))) HCV.out HR.out).mono ?_); rintro e w2 ⟨rfl, ⟨nd2, rfl⟩⟩)
    | (go_at_call 8; (with_reducible refine (credenzalaw14_awake.calls 100 true _ awake14_at).mono ?_); rintro e w4 ⟨rfl, hb4⟩))
  go_ret
  exact ⟨rfl, Below.trans (by repeat (first | exact Below.refl _ _ | apply below_alloc | apply pw_below_drewN | apply below_drew1)) (hb4.mono (Below.size (by repeat (first | exact Below.refl _ _ | apply below_alloc | apply pw_below_drewN | apply below_drew1))))⟩

theorem between_any (Aq : Option Addr) (cq : Nat) (q : List Int) (Ak : Option Addr) (ck : Nat) (ks : List (List Int)) (Av : Option Addr) (cv : Nat) (vs : List (List Int)) (w : World)
    (hq : Kd.C (Kd.int .i32) w Aq q.length q) (hcq : q.length ≤ cq) (hk : Kd.C (Kd.slice 21 (Kd.int .i32)) w Ak ks.length ks) (hck : ks.length ≤ ck) (hv : Kd.C (Kd.slice 21 (Kd.int .i32)) w Av vs.length vs) (hcv : vs.length ≤ cv)
    (haq : ∀ x ∈ q, (Lit.int .i32 x).wf = true) (hak : ∀ r ∈ ks, ∀ x ∈ r, (Lit.int .i32 x).wf = true) (hav : ∀ r ∈ vs, ∀ x ∈ r, (Lit.int .i32 x).wf = true) :
    Calls Try.prog 5 #[.slice Aq q.length cq, .slice Ak ks.length ck, .slice Av vs.length cv] w fun e w' => e = .returned (.bool true) ∧ Below w.heap.size w w' := by
  obtain ⟨r, h1, h2⟩ := light_two ks vs (k := 2000) (by omega)
  cases r with
  | false => exact between_light Aq cq q Ak ck ks Av cv vs w hk hck hv hcv h1
  | true =>
    obtain ⟨hk40, hv40⟩ := h2 rfl
    obtain ⟨x, hx, hi⟩ := ref_Right_some (q := q) (keys := ks) (vals := vs) (k := 2000) (by omega)
    by_cases c : x = 0
    · subst c
      obtain ⟨h0, hn, hr⟩ : 0 < ks.length ∧ ks.length ≤ 1024 ∧ Right q ks vs := by
        unfold RightIs at hi
        rcases hi with ⟨_, h⟩ | ⟨_, _, h⟩ | ⟨h1, h2, h3, _⟩ | ⟨_, _, _, h⟩
        · cases h
        · cases h
        · exact ⟨h1, h2, h3⟩
        · cases h
      exact between_yes Aq cq q Ak ck ks Av cv vs w hq hcq hk hck hv hcv h0 hk40 hr (A32_of_wf haq) (fun r h => A32_of_wf (hak r h)) (fun r h => A32_of_wf (hav r h)) h1 hx
    · exact between_wrong Aq cq q Ak ck ks Av cv vs x w hq hcq hk hck hv hcv h1 hx c
end Go.Proofs.Yteflolamihhmdaa.Between

namespace Go.Proofs.Yteflolamihhmdaa.attnBetween
open Go.ChangeShapes Go.WideShapes Go.ChangeAt Go.RowKit Go.Proofs.YteflolamihhmdaaW.PrintWords Go.Proofs.YteflolamihhmdaaW.PrintLast
open Go.ChangeMaps (open_string shut_string)
set_option linter.unusedVariables false
theorem own : ownKnob Try.prog.godebug = none := by kernel_rfl
theorem laidOut : laidOutB Try.prog = true := by kernel_rfl
def IsRow (k : IntKind) (w : World) (a : Option Addr) (len cap : Nat) (zs : List Int) : Prop :=
  (a = none ∧ len = 0 ∧ cap = 0 ∧ zs = []) ∨
  ∃ x, a = some x ∧ len ≤ cap ∧ cap ≤ maxLen ∧ zs.length = cap ∧ (∀ i, i < zs.length → w.cell? (x.add i) = some (.int k (zs.getD i 0))) ∧ ∀ n ∈ zs, (Lit.int k n).wf = true
set_option maxRecDepth 100000 in
theorem lifted (os : Os) (started : os.Started) (H : Type) (enc : TypeId × Value → H) :
    ReturnsInHanded {} Try.checked os 5 .any (Rows.attnBetweenSpec.pre6 enc Try.prog Try.f5 Rows.attnBetweenRow.domain false) (Rows.attnBetweenSpec.post enc Try.prog Try.f5 false true false false) := by
  refine returnsInHanded_of_change_sized (C := Try.checked) own started (by kernel_rfl) Try.func5
    (ChangeSpec.witness6 (enc := enc) (C := Try.checked) false ⟨#[], #[.slice none 0 0, .slice none 0 0, .slice none 0 0], []⟩ 8 (by kernel_rfl) (by kernel_rfl) (by kernel_rfl) (by kernel_rfl)) ?_
  intro W base args ds gs before hval0 hW hcnd hsz0 _
  have hsz : (DataW.weightsEach Try.prog (Try.f5.params.toList ++ Rows.attnBetweenSpec.plain.varTypes Try.prog) (ds ++ gs)).all (· ≤ reachBytes) = true := hsz0
  have hval : ∀ (j : Nat) t v, Try.f5.params[j]? = some t → args[j]? = some v → Value.okWide Try.prog W .any base t v := hval0
  have hW' := hW
  obtain ⟨p, q, hA0, hV, rfl, hfz, hnd⟩ := hW
  have hA : DataW.TrodAll enc Try.prog W 0 (fun _ => true) true Try.f5.params.toList args.toList ds p := hA0
  rw [Try.params5] at hA hval hsz
  obtain ⟨v0, vs0, d0, ds0, p0, q0, hargs, rfl, rfl, h0, r0⟩ := trodAll_cons hA
  obtain ⟨v1, vs1, d1, ds1, p1, q1, rfl, rfl, rfl, h1, r1⟩ := trodAll_cons r0
  obtain ⟨v2, vs2, d2, ds2, p2, q2, rfl, rfl, rfl, h2, r2⟩ := trodAll_cons r1
  obtain ⟨rfl, rfl, rfl⟩ := trodAll_nil r2
  obtain rfl : args = #[v0, v1, v2] := by cases args; simp_all
  obtain ⟨rfl, rfl⟩ := trodVars_none hV
  obtain ⟨a0, len0, cap0, rfl⟩ := okWide_slice Try.underlying22 (hval 0 22 v0 rfl rfl)
  have k0 := h0
  have lt0 : ∀ x ∈ p0, x.block < W.heap.size := by obtain ⟨m, hm⟩ := k0; exact DataW.trod_lt m _ _ _ hm
  obtain ⟨z0, w0⟩ : ∃ zs, IsRow .i32 W a0 len0 cap0 zs := by
    obtain ⟨fuel, hf⟩ := h0
    rcases open_ints Try.underlying22 Try.underlying21 (by kernel_rfl) hf with ⟨hcs, _⟩ | ⟨x, l, c, zs, hcs, _, hl, hm, hz, _, hcell, hwz⟩
    · simp [Value.cells] at hcs
      obtain ⟨rfl, rfl, rfl⟩ := hcs
      exact ⟨[], .inl ⟨rfl, rfl, rfl, rfl⟩⟩
    · simp [Value.cells] at hcs
      obtain ⟨rfl, rfl, rfl⟩ := hcs
      exact ⟨zs, .inr ⟨_, rfl, hl, hm, by simpa using hz, hcell, hwz⟩⟩
  obtain ⟨l0, rfl, hr0, hm0, hw0, hc0⟩ := ReadsInt.ofRowC w0
  obtain ⟨a1, len1, cap1, rfl⟩ := okWide_slice Try.underlying29 (hval 1 29 v1 rfl rfl)
  have k1 := h1
  have lt1 : ∀ x ∈ p1, x.block < W.heap.size := by obtain ⟨m, hm⟩ := k1; exact DataW.trod_lt m _ _ _ hm
  obtain ⟨fuel1, hf1⟩ := h1
  obtain ⟨l1, rfl, hc1, hr1, hw1⟩ := open_rows 21 Try.underlying29 Try.underlying22 Try.underlying21 (by kernel_rfl) (by kernel_rfl) (by simpa [Value.cells] using hf1)
  obtain ⟨a2, len2, cap2, rfl⟩ := okWide_slice Try.underlying29 (hval 2 29 v2 rfl rfl)
  have k2 := h2
  have lt2 : ∀ x ∈ p2, x.block < W.heap.size := by obtain ⟨m, hm⟩ := k2; exact DataW.trod_lt m _ _ _ hm
  obtain ⟨fuel2, hf2⟩ := h2
  obtain ⟨l2, rfl, hc2, hr2, hw2⟩ := open_rows 21 Try.underlying29 Try.underlying22 Try.underlying21 (by kernel_rfl) (by kernel_rfl) (by simpa [Value.cells] using hf2)
  clear hA0 hval0 hsz0 hsz
  refine (Between.between_any _ _ l0 _ _ l1 _ _ l2 W (Kd.C_of_reads (d := (0 : Int)) (h1 := fun _ => rfl) hr0) hc0 hr1 hc1 hr2 hc2 hw0 hw1 hw2).mono ?_
  rintro e W' ⟨rfl, bel⟩
  exact ⟨_, rfl, _, _, _, [], _, [], hW', trodAll_mk1 (shut_bool Try.underlying4 _), (trodAll_cons_mk (Below.trod laidOut (by kernel_rfl) (of_decide_eq_true (by kernel_rfl)) k0 bel lt0) (trodAll_cons_mk (Below.trod laidOut (by kernel_rfl) (of_decide_eq_true (by kernel_rfl)) k1 bel lt1) (trodAll_cons_mk (Below.trod laidOut (by kernel_rfl) (of_decide_eq_true (by kernel_rfl)) k2 bel lt2) trodAll_mk0))), rfl, bel.frame _, fun h => by cases h⟩
theorem over : Rows.attnBetweenRow.holds Try.pinned (OpenSpec.ofChange Rows.attnBetweenSpec) :=
  OpenClaim.holds_of_wide 5 Try.f5 rfl rfl rfl rfl rfl rfl rfl ⟨rfl, rfl, rfl, rfl, rfl⟩ rfl rfl rfl rfl rfl (by kernel_rfl) Try.func5 (by kernel_rfl)
    (of_decide_eq_true (by kernel_rfl)) (by unfold Func.isWrapper; first | (rw [if_pos (by decide +kernel)]; kernel_rfl) | (rw [if_neg (by decide +kernel)]; exact ⟨rfl, rfl⟩))
    (fun os started H enc _ => lifted os started H enc)
theorem proved : Rows.AttnBetweenSaid := over
end Go.Proofs.Yteflolamihhmdaa.attnBetween
namespace Go.Proofs.Yteflolamihhmdaa
/-- The row, under a short name, for the claim. -/
theorem attnBetween_holds : Rows.AttnBetweenSaid := attnBetween.proved
end Go.Proofs.Yteflolamihhmdaa
