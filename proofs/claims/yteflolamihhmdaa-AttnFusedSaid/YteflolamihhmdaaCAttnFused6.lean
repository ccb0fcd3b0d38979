/- AttnFused: of any pages and plain tokens a query gathers just what it gathers of what they mean, as lists. Conditions: as each theorem states; the last one has none. -/
import Derived.Test.YteflolamihhmdaaRows
import Derived.WalkKit
import Derived.ProofKit
import Derived.OpenShut
import Derived.ShutString
import Derived.ChangeOld
import Derived.Below
import Derived.SizedLaws
import Derived.Test.YteflolamihhmdaaWSized
import Derived.Test.YteflolamihhmdaaCAttnFused1
import Derived.Test.YteflolamihhmdaaCAttnFused2
import Derived.Test.YteflolamihhmdaaCAttnFused3
import Derived.Test.YteflolamihhmdaaCAttnFused4
import Derived.Test.YteflolamihhmdaaCAttnFused5
set_option maxHeartbeats 8000000
set_option maxRecDepth 100000
set_option linter.unusedVariables false
set_option linter.unusedSimpArgs false
namespace Go.Proofs.Yteflolamihhmdaa.Pure.Pg
open Go.RowKit Go.Proofs.Yteflolamihhmdaa.Q Go.Proofs.YteflolamihhmdaaW.PrintWords Go.Proofs.YteflolamihhmdaaW.PrintLast Go.Proofs.YteflolamihhmdaaW.PrintMore
def lawEnd (k : Nat) (ps : List (List S125)) (K V : List (List Int)) (Q : List Int) (keys vals : List (List Int)) : Option Bool := (if K.length + keys.length < 5864062014805 then ((some (K ++ keys : List (List Int))).bind fun y550 => (if V.length + vals.length < 5864062014805 then ((some (V ++ vals : List (List Int))).bind fun y553 => ((attn_FusedP.f k Q ps keys vals).bind fun bt556 => ((credenzaref14_Right.f k Q y550 y553).bind fun t560 => (if t560 = 0 then ((attn_Gather.f k Q y550 y553).bind fun bt562 => (if bt556.2 = 0 then (if bt562.2 = 0 then ((credenzaref03_Same.f k bt556.1 bt562.1).bind fun t566 => (if t566 = true then ((credenzaref14_Gather.f k Q y550 y553).bind fun t567 => ((credenzaref03_Same.f k bt556.1 t567).bind fun t570 => (if t570 = true then ((credenzalaw14_awake.f k).bind fun t571 => (some t571)) else (some false)))) else (some false))) else (some false)) else (some false))) else (if bt556.2 = t560 then (if (bt556.1.length : Int) = 0 then ((credenzalaw14_awake.f k).bind fun t561 => (some t561)) else (some false)) else (some false)))))) else (none))) else (none))
def lawIn (k : Nat) (ps : List (List S125)) (K V : List (List Int)) (Q : List Int) (keys vals : List (List Int)) : Option Bool := ((attn_FusedP.f k Q ps keys vals).bind fun bt556 => ((credenzaref14_Right.f k Q K V).bind fun t560 => (if t560 = 0 then ((attn_Gather.f k Q K V).bind fun bt562 => (if bt556.2 = 0 then (if bt562.2 = 0 then ((credenzaref03_Same.f k bt556.1 bt562.1).bind fun t566 => (if t566 = true then ((credenzaref14_Gather.f k Q K V).bind fun t567 => ((credenzaref03_Same.f k bt556.1 t567).bind fun t570 => (if t570 = true then ((credenzalaw14_awake.f k).bind fun t571 => (some t571)) else (some false)))) else (some false))) else (some false)) else (some false))) else (if bt556.2 = t560 then (if (bt556.1.length : Int) = 0 then ((credenzalaw14_awake.f k).bind fun t561 => (some t561)) else (some false)) else (some false)))))
structure Big (t : List (List Int)) : Prop where
 len : t.length ≤ 9223372036854775807
 i32 : AA32 t
def PgOf (h : S53) (kt vt : List (List Int)) (p : List S125) : Prop :=
 ∃ n m : Nat, p = [pageR h.f0 h.f1 h.f4 h.f5 h.f6 kt vt n m] ∧ Tab kt n m ∧ Tab vt n m ∧ HeadOk h.f0 h.f1 (n : Int) (m : Int) h.f4 h.f5 h.f6 ∧ h.f2 = (n : Int) ∧ h.f3 = (m : Int)
theorem tab_of {l : List (List Int)} {n m : Nat} (hl : (l.length : Int) = (n : Int) ∧ ∀ r ∈ l, (r.length : Int) = (m : Int)) (ha : AA32 l) (hn : 1 ≤ (n : Int) ∧ (n : Int) ≤ 16) (hm : 1 ≤ (m : Int) ∧ (m : Int) ≤ 16) : Tab l n m :=
 ⟨by omega, fun r hr => by have := hl.2 r hr; omega, ha, by omega, by omega, by omega, by omega⟩
theorem quantize_total (h : S53) {kt vt : List (List Int)} (hk : Big kt) (hv : Big vt) : ∃ p e, Ev (fun k => page_Quantize.f k h.f0 h.f1 h.f2 h.f3 h.f4 h.f5 h.f6 kt vt) (p, e) ∧ (e = 0 → PgOf h kt vt p) := by
 obtain ⟨b, e1, i1⟩ := right_some h.f0 h.f1 h.f2 h.f3 h.f4 h.f5 h.f6
 cases b with
 | false =>
  refine ⟨[], 11, Ev.bind (a := ([], [], 11)) ⟨0, fun k _ => ?_⟩ ⟨0, fun k _ => rfl⟩, fun h => by cases h⟩
  show page_Quantize.g k h.f0 h.f1 h.f2 h.f3 h.f4 h.f5 h.f6 kt vt = _
  rw [page_Quantize.g, e1, Option.bind_some, if_neg (by simp)]
 | true =>
  have hh := i1.1 rfl
  obtain ⟨n, hn⟩ := Int.eq_ofNat_of_zero_le (show 0 ≤ h.f2 by have := hh.2.2.1; omega)
  obtain ⟨m, hm⟩ := Int.eq_ofNat_of_zero_le (show 0 ≤ h.f3 by have := hh.2.2.2.1; omega)
  obtain ⟨b1, n1, j1⟩ := numbers_ev kt hk.len h.f2 h.f3
  cases b1 with
  | false =>
   refine ⟨[], 25, Ev.bind (a := ([], [], 25)) ?_ ⟨0, fun k _ => rfl⟩, fun h => by cases h⟩
   refine Ev.congr (fun k => by rw [page_Quantize.g, e1, Option.bind_some, if_pos rfl]) (Ev.bind n1 ⟨0, fun k _ => ?_⟩)
   show ite _ _ _ = _
   rw [if_neg (by simp)]
  | true =>
   obtain ⟨b2, n2, j2⟩ := numbers_ev vt hv.len h.f2 h.f3
   cases b2 with
   | false =>
    refine ⟨[], 25, Ev.bind (a := ([], [], 25)) ?_ ⟨0, fun k _ => rfl⟩, fun h => by cases h⟩
    refine Ev.congr (fun k => by rw [page_Quantize.g, e1, Option.bind_some, if_pos rfl]) (Ev.bind n1 (Ev.congr (fun k => by rw [if_pos rfl]) (Ev.bind n2 ⟨0, fun k _ => ?_⟩)))
    show ite _ _ _ = _
    rw [if_neg (by simp)]
   | true =>
    have k1 := j1.1 rfl
    have k2 := j2.1 rfl
    rw [hn, hm] at hh k1 k2
    have t1 := tab_of k1 hk.i32 hh.2.2.1 hh.2.2.2.1
    have t2 := tab_of k2 hv.i32 hh.2.2.1 hh.2.2.2.1
    refine ⟨_, 0, ?_, fun _ => ⟨n, m, rfl, t1, t2, hh, hn, hm⟩⟩
    rw [hn, hm]
    exact quantize_ok t1 t2 hh
def rdH (l : List S53) (i : Nat) : S53 := rd_T53 l (i : Int)
def rdT (l : List (List (List Int))) (i : Nat) : List (List Int) := rd_L12 l (i : Int)
theorem rdT_mem {l : List (List (List Int))} {i : Nat} (h : i < l.length) : rdT l i ∈ l := by
 have : rdT l i = l[i] := by simp [rdT, rd_L12, List.getD_eq_getElem?_getD, List.getElem?_eq_getElem h]
 rw [this]
 exact List.getElem_mem h
section
variable {Q : List Int} {heads : List S53} {pk pv : List (List (List Int))} {keys vals : List (List Int)}
theorem rdP_left {a b : List (List S125)} {j : Nat} (h : j < a.length) : rdP (a ++ b) (j : Int) = rdP a (j : Int) := by
 simp [rdP, List.getD_eq_getElem?_getD, List.getElem?_append_left h]
theorem rdP_last {a : List (List S125)} {p : List S125} : rdP (a ++ [p]) (a.length : Int) = p := by
 simp [rdP, List.getD_eq_getElem?_getD]
theorem pages_loop (hpk : ∀ t ∈ pk, Big t) (hpv : ∀ t ∈ pv, Big t) (h1 : pk.length = heads.length) (h2 : pv.length = heads.length) (h3 : heads.length ≤ 20) : ∀ (d : Nat) (acc : List (List S125)), acc.length + d = heads.length → (∀ j : Nat, j < acc.length → PgOf (rdH heads j) (rdT pk j) (rdT pv j) (rdP acc (j : Int))) →
  ∃ ps ok, Ev (fun k => credenzalaw14_pages.l0 k acc heads (heads.length : Int) (acc.length : Int) Q heads pk pv keys vals) (ps, ok) ∧ (ok = true → ps.length = heads.length ∧ ∀ j : Nat, j < ps.length → PgOf (rdH heads j) (rdT pk j) (rdT pv j) (rdP ps (j : Int))) := by
 intro d
 induction d with
 | zero =>
  intro acc h hacc
  refine ⟨acc, true, Ev.step (fun k => ?_) (Ev.now _), fun _ => ⟨by omega, hacc⟩⟩
  rw [credenzalaw14_pages.l0, if_neg (by omega)]
 | succ d ih =>
  intro acc h hacc
  obtain ⟨p, e, he, hp⟩ := quantize_total (rdH heads acc.length) (hpk _ (rdT_mem (l := pk) (i := acc.length) (by omega))) (hpv _ (rdT_mem (l := pv) (i := acc.length) (by omega)))
  have hstep : ∀ k, credenzalaw14_pages.l0 (k + 1) acc heads (heads.length : Int) (acc.length : Int) Q heads pk pv keys vals = (page_Quantize.f k (rdH heads acc.length).f0 (rdH heads acc.length).f1 (rdH heads acc.length).f2 (rdH heads acc.length).f3 (rdH heads acc.length).f4 (rdH heads acc.length).f5 (rdH heads acc.length).f6 (rdT pk acc.length) (rdT pv acc.length)).bind (fun bt => (if bt.2 = 0 then (if acc.length < 17592186044416 then (credenzalaw14_pages.l0 k (acc ++ [bt.1]) heads (heads.length : Int) (wrap64 ((acc.length : Int) + 1)) Q heads pk pv keys vals) else (none)) else (some (([] : List (List S125)), false)))) := by
   intro k
   rw [credenzalaw14_pages.l0, if_pos (by omega), if_pos (by omega), if_pos (by omega), if_pos (by omega), if_pos (by omega)]
   rfl
  by_cases c : e = 0
  ·subst c
   obtain ⟨ps, ok, hps, hok⟩ := ih (acc ++ [p]) (by simp; omega) (fun j hj => by
    rw [List.length_append, List.length_singleton] at hj
    by_cases hja : j < acc.length
    ·rw [rdP_left hja]; exact hacc j hja
    ·obtain rfl : j = acc.length := by omega
     rw [rdP_last]; exact hp rfl)
   refine ⟨ps, ok, ?_, hok⟩
   rw [List.length_append, List.length_singleton] at hps
   refine Ev.step hstep (Ev.bind he (Ev.congr (f := fun k => credenzalaw14_pages.l0 k (acc ++ [p]) heads (heads.length : Int) ((acc.length + 1 : Nat) : Int) Q heads pk pv keys vals) (fun k => ?_) hps))
   rw [if_pos rfl, if_pos (by omega), pg_w1 (by omega)]
  ·refine ⟨[], false, Ev.step hstep (Ev.bind he ⟨0, fun k _ => ?_⟩), fun h => by cases h⟩
   show ite _ _ _ = _
   rw [if_neg c]
theorem pages_ev (hpk : ∀ t ∈ pk, Big t) (hpv : ∀ t ∈ pv, Big t) : ∃ ps ok, Ev (fun k => credenzalaw14_pages.f k Q heads pk pv keys vals) (ps, ok) ∧ (ok = true → heads.length ≤ 20 ∧ pk.length = heads.length ∧ pv.length = heads.length ∧ ps.length = heads.length ∧ ∀ j : Nat, j < ps.length → PgOf (rdH heads j) (rdT pk j) (rdT pv j) (rdP ps (j : Int))) := by
 have hno : Ev (fun k => credenzalaw14_pages.j0 k true Q heads pk pv keys vals) ([], false) := Ev.step (fun k => by rw [credenzalaw14_pages.j0, if_pos rfl]) (Ev.now _)
 by_cases c1 : (pk.length : Int) = (heads.length : Int)
 ·by_cases c2 : (pv.length : Int) = (heads.length : Int)
  ·by_cases c3 : (heads.length : Int) > 20
   ·exact ⟨[], false, Ev.congr (fun k => by rw [credenzalaw14_pages.f, if_pos c1, if_pos c2, decide_eq_true c3]) hno, fun h => by cases h⟩
   ·obtain ⟨ps, ok, h1, h2⟩ := pages_loop (Q := Q) (heads := heads) (keys := keys) (vals := vals) hpk hpv (by omega) (by omega) (by omega) heads.length [] (by simp) (fun j hj => absurd hj (Nat.not_lt_zero j))
    refine ⟨ps, ok, Ev.congr (fun k => by rw [credenzalaw14_pages.f, if_pos c1, if_pos c2, decide_eq_false c3]) (Ev.step (fun k => ?_) h1), fun h => ⟨by omega, by omega, by omega, (h2 h).1, (h2 h).2⟩⟩
    rw [credenzalaw14_pages.j0, if_neg (by simp)]
    rfl
  ·exact ⟨[], false, Ev.congr (fun k => by rw [credenzalaw14_pages.f, if_pos c1, if_neg c2]) hno, fun h => by cases h⟩
 ·exact ⟨[], false, Ev.congr (fun k => by rw [credenzalaw14_pages.f, if_neg c1]) hno, fun h => by cases h⟩
theorem oneR_i32 (z s c : Int) : I32 (oneR z s c) := wideR_bd _
theorem PgOf.shp {h : S53} {kt vt : List (List Int)} {p : List S125} (hp : PgOf h kt vt p) : ∃ x n m, p = [x] ∧ Shp x n m := by
 obtain ⟨n, m, rfl, t1, t2, hh, h2, h3⟩ := hp
 obtain ⟨o1, o2⟩ := page_means t1 t2 (h4 := h.f4) (h5 := h.f5) (h6 := h.f6) hh.1 hh.2.1
 refine ⟨_, n, m, rfl, o1, rfl, rfl, t1.n1, t1.n16, t1.m1, t1.m16, by rw [o2]; simp [srcR], by rw [o2]; simp [srcR, t2.rows], ?_, ?_, ?_, ?_⟩
 ·rw [o2]
  intro r hr
  obtain ⟨t, -, rfl⟩ := List.mem_map.1 hr
  simp [keyR]
 ·rw [o2]
  intro r hr
  obtain ⟨t, ht, rfl⟩ := List.mem_map.1 hr
  simp [valR, codesR, t2.cols t ht]
 ·rw [o2]
  intro r hr
  obtain ⟨t, -, rfl⟩ := List.mem_map.1 hr
  intro x hx
  obtain ⟨y, -, rfl⟩ := List.mem_map.1 hx
  exact oneR_i32 _ _ _
 ·rw [o2]
  intro r hr
  obtain ⟨t, -, rfl⟩ := List.mem_map.1 hr
  intro x hx
  obtain ⟨y, -, rfl⟩ := List.mem_map.1 hx
  exact oneR_i32 _ _ _
theorem shps_of {ps : List (List S125)} (h : ∀ j : Nat, j < ps.length → PgOf (rdH heads j) (rdT pk j) (rdT pv j) (rdP ps (j : Int))) : Shps ps := by
 intro p hp
 obtain ⟨j, hj, rfl⟩ := List.getElem_of_mem hp
 have e : rdP ps (j : Int) = ps[j] := by simp [rdP, List.getD_eq_getElem?_getD, List.getElem?_eq_getElem hj]
 have := (h j hj).shp
 rwa [e] at this
theorem awake_ev : Ev (fun k => (credenzalaw14_awake.f k).bind fun t => some t) true := Ev.bind ⟨100, fun _ hk => awake14 hk⟩ (Ev.now _)
theorem same_ev (l : List Int) (hl : l.length ≤ 1000000) : Ev (fun k => credenzaref03_Same.f k l l) true := ⟨l.length + 1, fun _ hk => same_refl l hl (by omega)⟩
theorem end_ev {ps : List (List S125)} (hs : Shps ps) (hp : ps.length ≤ 20) (hk : keys.length ≤ 40) (hv : vals.length ≤ 40) (hq : A32 Q) (hak : AA32 keys) (hav : AA32 vals) : Ev (fun k => lawEnd k ps (keysP ps) (valsP ps) Q keys vals) true := by
 obtain ⟨l1, l2, l3, l4⟩ := keysP_len ps hs
 obtain ⟨e, -, hi⟩ := right_ev (q := Q) (keys := keys) (vals := vals) hs hp hk hv
 have hf := fused_ev hs hp hk hv hq hak hav hi
 have haK : AA32 (keysP ps ++ keys) := fun r hr => (List.mem_append.1 hr).elim (l3 r) (hak r)
 have haV : AA32 (valsP ps ++ vals) := fun r hr => (List.mem_append.1 hr).elim (l4 r) (hav r)
 have hKl : (keysP ps ++ keys).length ≤ 1000 := by rw [List.length_append]; omega
 have hVl : (valsP ps ++ vals).length ≤ 1000 := by rw [List.length_append]; omega
 have hR : Ev (fun k => credenzaref14_Right.f k Q (keysP ps ++ keys) (valsP ps ++ vals)) e := by
  obtain ⟨e', he', hi'⟩ := ref_Right_some (q := Q) (keys := keysP ps ++ keys) (vals := valsP ps ++ vals) (k := 1027) (by omega)
  obtain rfl : e' = e := hi'.one hi
  exact Ev.of (credenzaref14_Right.mono _ _ _) he'
 have hE : Ev (fun k => lawIn k ps (keysP ps ++ keys) (valsP ps ++ vals) Q keys vals) true := by
  generalize keysP ps ++ keys = K at *
  generalize valsP ps ++ vals = V at *
  unfold lawIn
  by_cases c : e = 0
  ·subst c
   rw [if_pos rfl] at hf
   have hr : 0 < K.length ∧ K.length ≤ 1024 ∧ Right Q K V := by
    unfold RightIs at hi
    rcases hi with ⟨_, h⟩ | ⟨_, _, h⟩ | ⟨h1, h2, h3, _⟩ | ⟨_, _, _, h⟩
    ·cases h
    ·cases h
    ·exact ⟨h1, h2, h3⟩
    ·cases h
   obtain ⟨r0, r1, r2⟩ := hr
   have hG : Ev (fun k => attn_Gather.f k Q K V) (gatherR Q K V, 0) := ⟨1101, fun k hk => attn_Gather_some r0 r1 r2 hq haK haV (by omega)⟩
   have hGR := ref_Gather_ev r0 r1 r2 hq haK haV
   have hlen := gatherR_length (q := Q) (keys := K) r2.2.2.2.2
   have hq16 := r2.2.2.1
   have hS := same_ev (gatherR Q K V) (by omega)
   obtain ⟨N1, f1⟩ := hf
   obtain ⟨N2, f2⟩ := hR
   obtain ⟨N3, f3⟩ := hG
   obtain ⟨N4, f4⟩ := hGR
   obtain ⟨N5, f5⟩ := hS
   refine ⟨100 + N1 + N2 + N3 + N4 + N5, fun k hk => ?_⟩
   have g1 : attn_FusedP.f k Q ps keys vals = _ := f1 k (by omega)
   have g2 : credenzaref14_Right.f k Q K V = _ := f2 k (by omega)
   have g3 : attn_Gather.f k Q K V = _ := f3 k (by omega)
   have g4 : credenzaref14_Gather.f k Q K V = _ := f4 k (by omega)
   have g5 : credenzaref03_Same.f k (gatherR Q K V) (gatherR Q K V) = _ := f5 k (by omega)
   have g6 : credenzalaw14_awake.f k = _ := awake14 (by omega)
   show (attn_FusedP.f k Q ps keys vals).bind _ = _
   rw [g1, Option.bind_some, g2, Option.bind_some, if_pos rfl, g3, Option.bind_some, if_pos rfl, if_pos rfl, g5, Option.bind_some, if_pos rfl, g4, Option.bind_some, g5, Option.bind_some, if_pos rfl, g6, Option.bind_some]
  ·rw [if_neg c] at hf
   obtain ⟨N1, f1⟩ := hf
   obtain ⟨N2, f2⟩ := hR
   refine ⟨100 + N1 + N2, fun k hk => ?_⟩
   have g1 : attn_FusedP.f k Q ps keys vals = _ := f1 k (by omega)
   have g2 : credenzaref14_Right.f k Q K V = _ := f2 k (by omega)
   have g6 : credenzalaw14_awake.f k = _ := awake14 (by omega)
   show (attn_FusedP.f k Q ps keys vals).bind _ = _
   rw [g1, Option.bind_some, g2, Option.bind_some, if_neg c, if_pos rfl, if_pos (by simp), g6, Option.bind_some]
 refine Ev.congr (fun k => ?_) hE
 unfold lawEnd lawIn
 rw [if_pos (by omega), Option.bind_some, if_pos (by omega), Option.bind_some]
theorem law_l1 {ps : List (List S125)} {h : S53} {kt vt : List (List Int)} {n m : Nat} (t1 : Tab kt n m) (t2 : Tab vt n m) (hb0 : Bit h.f0) (hb1 : Bit h.f1) (i : Nat) (K V : List (List Int)) (hK : K.length ≤ 1000) (hV : V.length ≤ 1000) {r : Bool}
  (hr : Ev (fun k => credenzalaw14_AttnFused.l0 k ps (K ++ (srcR h.f0 h.f1 kt vt n m).keys) (V ++ (srcR h.f0 h.f1 kt vt n m).vals) ps (ps.length : Int) (wrap64 ((i : Int) + 1)) Q heads pk pv keys vals) r) (a0 a1 a2 a3 a4 a5 a6 : Int) :
  ∀ (d t : Nat), t + d = n → Ev (fun k => credenzalaw14_AttnFused.l1 k ps (K ++ (srcR h.f0 h.f1 kt vt n m).keys.take t) (V ++ (srcR h.f0 h.f1 kt vt n m).vals.take t) ps (ps.length : Int) (i : Int) (n : Int) (t : Int) Q heads pk pv keys vals a0 a1 a2 a3 a4 a5 a6 (k72R h.f0 kt m) (vt.map (g72 h.f1))) r := by
 have hn16 := t1.n16
 have lk : (srcR h.f0 h.f1 kt vt n m).keys.length = n := by simp [srcR]
 have lv : (srcR h.f0 h.f1 kt vt n m).vals.length = n := by simp [srcR, t2.rows]
 intro d
 induction d with
 | zero =>
  intro t ht
  rw [List.take_of_length_le (by omega), List.take_of_length_le (by omega)]
  refine Ev.step (fun k => ?_) hr
  rw [credenzalaw14_AttnFused.l1, if_neg (by omega)]
 | succ d ih =>
  intro t ht
  have hlt : t < n := by omega
  have ih := ih (t + 1) (by omega)
  have e1 : (srcR h.f0 h.f1 kt vt n m).keys.take (t + 1) = (srcR h.f0 h.f1 kt vt n m).keys.take t ++ [keyR h.f0 kt m t] := by
   rw [List.take_succ_eq_append_getElem (by omega)]
   congr 2
   simp [srcR]
  have e2 : (srcR h.f0 h.f1 kt vt n m).vals.take (t + 1) = (srcR h.f0 h.f1 kt vt n m).vals.take t ++ [valR h.f1 (rowAt vt (t : Int))] := by
   rw [List.take_succ_eq_append_getElem (by omega), rowAt_at (by rw [t2.rows]; exact hlt)]
   congr 2
   simp [srcR]
  rw [e1, e2, ← List.append_assoc, ← List.append_assoc] at ih
  have hk1 : (K ++ (srcR h.f0 h.f1 kt vt n m).keys.take t).length < 5864062014805 := by rw [List.length_append, List.length_take]; omega
  have hv1 : (V ++ (srcR h.f0 h.f1 kt vt n m).vals.take t).length < 5864062014805 := by rw [List.length_append, List.length_take]; omega
  have hstep : ∀ k, credenzalaw14_AttnFused.l1 (k + 1) ps (K ++ (srcR h.f0 h.f1 kt vt n m).keys.take t) (V ++ (srcR h.f0 h.f1 kt vt n m).vals.take t) ps (ps.length : Int) (i : Int) (n : Int) (t : Int) Q heads pk pv keys vals a0 a1 a2 a3 a4 a5 a6 (k72R h.f0 kt m) (vt.map (g72 h.f1)) = (credenzaref08_Page_Key.f k a0 a1 a2 a3 a4 a5 a6 (k72R h.f0 kt m) (vt.map (g72 h.f1)) (t : Int)).bind (fun x => (credenzaref08_Page_Value.f k a0 a1 a2 a3 a4 a5 a6 (k72R h.f0 kt m) (vt.map (g72 h.f1)) (t : Int)).bind (fun y => credenzalaw14_AttnFused.l1 k ps (K ++ (srcR h.f0 h.f1 kt vt n m).keys.take t ++ [x]) (V ++ (srcR h.f0 h.f1 kt vt n m).vals.take t ++ [y]) ps (ps.length : Int) (i : Int) (n : Int) ((t + 1 : Nat) : Int) Q heads pk pv keys vals a0 a1 a2 a3 a4 a5 a6 (k72R h.f0 kt m) (vt.map (g72 h.f1)))) := by
   intro k
   rw [credenzalaw14_AttnFused.l1, if_pos (by omega), pg_w1 (by omega)]
   simp only [if_pos hk1, if_pos hv1]
  exact Ev.step hstep (Ev.bind (refKey_ev t1 hb0 _ hlt) (Ev.bind (refVal_ev t2 hb1 _ hlt) ih))
theorem law_l0 {ps : List (List S125)} (h1 : pk.length = heads.length) (h2 : pv.length = heads.length) (h3 : heads.length ≤ 20) (hl : ps.length = heads.length) (hps : ∀ j : Nat, j < ps.length → PgOf (rdH heads j) (rdT pk j) (rdT pv j) (rdP ps (j : Int))) (hk : keys.length ≤ 40) (hv : vals.length ≤ 40) (hq : A32 Q) (hak : AA32 keys) (hav : AA32 vals) :
  ∀ (d i : Nat), i + d = ps.length → Ev (fun k => credenzalaw14_AttnFused.l0 k ps (keysP (ps.take i)) (valsP (ps.take i)) ps (ps.length : Int) (i : Int) Q heads pk pv keys vals) true := by
 have hs := shps_of hps
 intro d
 induction d with
 | zero =>
  intro i h
  rw [List.take_of_length_le (by omega)]
  refine Ev.step (fun k => ?_) (end_ev hs (by omega) hk hv hq hak hav)
  rw [credenzalaw14_AttnFused.l0, if_neg (by omega)]
  rfl
 | succ d ih =>
  intro i h
  have hlt : i < ps.length := by omega
  obtain ⟨hm, -, htk⟩ := ps_at hlt
  obtain ⟨n, m, hx, t1, t2, hh, e2, e3⟩ := hps i hlt
  have ih := ih (i + 1) (by omega)
  obtain ⟨l1, l2, -, -⟩ := keysP_len (ps.take i) (fun p hp => hs p (List.mem_of_mem_take hp))
  have hlt2 : (ps.take i).length ≤ 20 := by rw [List.length_take]; omega
  rw [htk, hx, (keysP_snoc _ _).1, (keysP_snoc _ _).2, (page_means t1 t2 hh.1 hh.2.1).2] at ih
  have ih' : Ev (fun k => credenzalaw14_AttnFused.l0 k ps (keysP (ps.take i) ++ (srcR (rdH heads i).f0 (rdH heads i).f1 (rdT pk i) (rdT pv i) n m).keys) (valsP (ps.take i) ++ (srcR (rdH heads i).f0 (rdH heads i).f1 (rdT pk i) (rdT pv i) n m).vals) ps (ps.length : Int) (wrap64 ((i : Int) + 1)) Q heads pk pv keys vals) true := by
   rw [pg_w1 (by omega)]
   exact ih
  have hl1 := law_l1 (Q := Q) (heads := heads) (pk := pk) (pv := pv) (keys := keys) (vals := vals) t1 t2 hh.1 hh.2.1 i (keysP (ps.take i)) (valsP (ps.take i)) (by omega) (by omega) ih' (rdH heads i).f0 (rdH heads i).f1 (n : Int) (m : Int) (rdH heads i).f4 (rdH heads i).f5 (rdH heads i).f6 n 0 (by omega)
  rw [List.take_zero, List.take_zero, List.append_nil, List.append_nil] at hl1
  have hQ := refQ_ev t1 t2 hh.1 hh.2.1 (rdH heads i).f4 (rdH heads i).f5 (rdH heads i).f6
  rw [← e2, ← e3] at hQ
  rw [← e2, ← e3] at hl1
  have hstep : ∀ k, credenzalaw14_AttnFused.l0 (k + 1) ps (keysP (ps.take i)) (valsP (ps.take i)) ps (ps.length : Int) (i : Int) Q heads pk pv keys vals = (credenzaref08_Quantize.f k (rdH heads i).f0 (rdH heads i).f1 (rdH heads i).f2 (rdH heads i).f3 (rdH heads i).f4 (rdH heads i).f5 (rdH heads i).f6 (rdT pk i) (rdT pv i)).bind (fun bt => credenzalaw14_AttnFused.l1 k ps (keysP (ps.take i)) (valsP (ps.take i)) ps (ps.length : Int) (i : Int) (rdH heads i).f2 0 Q heads pk pv keys vals bt.1 bt.2.1 bt.2.2.1 bt.2.2.2.1 bt.2.2.2.2.1 bt.2.2.2.2.2.1 bt.2.2.2.2.2.2.1 bt.2.2.2.2.2.2.2.1 bt.2.2.2.2.2.2.2.2) := by
   intro k
   rw [credenzalaw14_AttnFused.l0, if_pos (by omega), if_pos (by omega), if_pos (by omega), hx, if_neg (by simp), if_pos (by omega), credenzalaw14_head.f, Option.bind_some, if_pos (by omega), if_pos (by omega)]
   rfl
  exact Ev.step hstep (Ev.bind hQ hl1)
theorem law_j0 {ps : List (List S125)} (b : Bool) (hb : b = false → Ev (fun k => credenzalaw14_AttnFused.l0 k ps [] [] ps (ps.length : Int) 0 Q heads pk pv keys vals) true) : Ev (fun k => credenzalaw14_AttnFused.j0 k ps b Q heads pk pv keys vals) true := by
 cases b with
 | true => exact Ev.step (fun k => by rw [credenzalaw14_AttnFused.j0, if_pos rfl]) awake_ev
 | false => exact Ev.step (fun k => by rw [credenzalaw14_AttnFused.j0, if_neg (by simp)]) (hb rfl)
theorem law_true (hq : A32 Q) (hak : AA32 keys) (hav : AA32 vals) (hpk : ∀ t ∈ pk, Big t) (hpv : ∀ t ∈ pv, Big t) : Ev (fun k => credenzalaw14_AttnFused.f k Q heads pk pv keys vals) true := by
 obtain ⟨ps, ok, hp, hok⟩ := pages_ev (Q := Q) (heads := heads) (keys := keys) (vals := vals) hpk hpv
 cases ok with
 | false =>
  refine Ev.bind hp (Ev.congr (f := fun k => credenzalaw14_AttnFused.j0 k ps true Q heads pk pv keys vals) (fun k => ?_) (law_j0 true (fun h => by cases h)))
  rw [if_neg (by simp)]
 | true =>
  obtain ⟨h3, h1, h2, hl, hps⟩ := hok rfl
  obtain ⟨r, e1, e2⟩ := light_two keys vals (k := 100) (by omega)
  have hli : Ev (fun k => credenzalaw14_light.f k [keys, vals]) r := Ev.of (credenzalaw14_light.mono _) e1
  cases r with
  | false =>
   refine Ev.bind hp (Ev.congr (f := fun k => (credenzalaw14_light.f k [keys, vals]).bind fun t => (if t = true then (credenzalaw14_AttnFused.j0 k ps (decide ((Q.length : Int) > 100)) Q heads pk pv keys vals) else (credenzalaw14_AttnFused.j0 k ps true Q heads pk pv keys vals))) (fun k => by rw [if_pos rfl]) (Ev.bind hli (Ev.congr (f := fun k => credenzalaw14_AttnFused.j0 k ps true Q heads pk pv keys vals) (fun k => by rw [if_neg (by simp)]) (law_j0 true (fun h => by cases h)))))
  | true =>
   obtain ⟨hk40, hv40⟩ := e2 rfl
   have hl0 := law_l0 (Q := Q) (heads := heads) (pk := pk) (pv := pv) (keys := keys) (vals := vals) h1 h2 h3 hl hps hk40 hv40 hq hak hav ps.length 0 (by omega)
   refine Ev.bind hp (Ev.congr (f := fun k => (credenzalaw14_light.f k [keys, vals]).bind fun t => (if t = true then (credenzalaw14_AttnFused.j0 k ps (decide ((Q.length : Int) > 100)) Q heads pk pv keys vals) else (credenzalaw14_AttnFused.j0 k ps true Q heads pk pv keys vals))) (fun k => by rw [if_pos rfl]) (Ev.bind hli (Ev.congr (f := fun k => credenzalaw14_AttnFused.j0 k ps (decide ((Q.length : Int) > 100)) Q heads pk pv keys vals) (fun k => by rw [if_pos rfl]) (law_j0 _ (fun _ => hl0)))))
end
end Go.Proofs.Yteflolamihhmdaa.Pure.Pg

namespace Go.Proofs.Yteflolamihhmdaa.attnFused
open Go.ChangeShapes Go.WideShapes Go.ChangeAt Go.RowKit Go.Proofs.YteflolamihhmdaaW.PrintWords Go.Proofs.YteflolamihhmdaaW.PrintLast
open Go.ChangeMaps (open_string shut_string)
theorem own : ownKnob Try.prog.godebug = none := by kernel_rfl
theorem laidOut : laidOutB Try.prog = true := by kernel_rfl
def IsRow (k : IntKind) (w : World) (a : Option Addr) (len cap : Nat) (zs : List Int) : Prop :=
 (a = none ∧ len = 0 ∧ cap = 0 ∧ zs = []) ∨
 ∃ x, a = some x ∧ len ≤ cap ∧ cap ≤ maxLen ∧ zs.length = cap ∧ (∀ i, i < zs.length → w.cell? (x.add i) = some (.int k (zs.getD i 0))) ∧ ∀ n ∈ zs, (Lit.int k n).wf = true
theorem lifted (os : Os) (started : os.Started) (H : Type) (enc : TypeId × Value → H) :
  ReturnsInHanded {} Try.checked os 7 .any (Rows.attnFusedSpec.pre6 enc Try.prog Try.f7 Rows.attnFusedRow.domain false) (Rows.attnFusedSpec.post enc Try.prog Try.f7 false true false false) := by
 refine returnsInHanded_of_change_sized (C := Try.checked) own started (by kernel_rfl) Try.func7
  (ChangeSpec.witness6 (enc := enc) (C := Try.checked) false ⟨#[], #[.agg #[.slice none 0 0, .slice none 0 0, .slice none 0 0, .slice none 0 0, .slice none 0 0, .slice none 0 0]], []⟩ 8 (by kernel_rfl) (by kernel_rfl) (by kernel_rfl) (by kernel_rfl)) ?_
 intro W base args ds gs before hval0 hW hcnd hsz0 _
 have hsz : (DataW.weightsEach Try.prog (Try.f7.params.toList ++ Rows.attnFusedSpec.plain.varTypes Try.prog) (ds ++ gs)).all (· ≤ reachBytes) = true := hsz0
 have hval : ∀ (j : Nat) t v, Try.f7.params[j]? = some t → args[j]? = some v → Value.okWide Try.prog W .any base t v := hval0
 have hW' := hW
 obtain ⟨p, q, hA0, hV, rfl, hfz, hnd⟩ := hW
 have hA : DataW.TrodAll enc Try.prog W 0 (fun _ => true) true Try.f7.params.toList args.toList ds p := hA0
 rw [Try.params7] at hA hval hsz
 obtain ⟨v0, vs0, d0, ds0, p0, q0, hargs, rfl, rfl, h0, r0⟩ := trodAll_cons hA
 obtain ⟨rfl, rfl, rfl⟩ := trodAll_nil r0
 obtain rfl : args = #[v0] := by cases args; simp_all
 obtain ⟨rfl, rfl⟩ := trodVars_none hV
 have k0 := h0
 have lt0 : ∀ x ∈ p0, x.block < W.heap.size := by obtain ⟨m, hm⟩ := k0; exact DataW.trod_lt m _ _ _ hm
 obtain ⟨x0, x1, x2, x3, x4, x5, n0, rfl, hf⟩ := open_six Try.underlying41 (by kernel_rfl) (by kernel_rfl) rfl (hval 0 41 v0 rfl rfl) h0
 obtain ⟨y0, t0⟩ := hf 0 _ _ rfl rfl
 obtain ⟨y1, t1⟩ := hf 1 _ _ rfl rfl
 obtain ⟨y2, t2⟩ := hf 2 _ _ rfl rfl
 obtain ⟨y3, t3⟩ := hf 3 _ _ rfl rfl
 obtain ⟨y4, t4⟩ := hf 4 _ _ rfl rfl
 obtain ⟨y5, t5⟩ := hf 5 _ _ rfl rfl
 obtain ⟨A0, len0, cap0, e0⟩ := Go.Joins.slice_form Try.underlying22 t0
 obtain ⟨A1, len1, cap1, e1⟩ := Go.Joins.slice_form Try.underlying38 t1
 obtain ⟨A2, len2, cap2, e2⟩ := Go.Joins.slice_form Try.underlying39 t2
 obtain ⟨A3, len3, cap3, e3⟩ := Go.Joins.slice_form Try.underlying39 t3
 obtain ⟨A4, len4, cap4, e4⟩ := Go.Joins.slice_form Try.underlying29 t4
 obtain ⟨A5, len5, cap5, e5⟩ := Go.Joins.slice_form Try.underlying29 t5
 simp only [List.cons.injEq, and_true] at e0 e1 e2 e3 e4 e5
 subst e0 e1 e2 e3 e4 e5
 obtain ⟨z0, w0⟩ : ∃ zs, IsRow .i32 W A0 len0 cap0 zs := by
  rcases open_ints Try.underlying22 Try.underlying21 (by kernel_rfl) t0 with ⟨hcs, _⟩ | ⟨x, l, c, zs, hcs, _, hl, hm, hz, _, hcell, hwz⟩
  ·simp at hcs
   obtain ⟨rfl, rfl, rfl⟩ := hcs
   exact ⟨[], .inl ⟨rfl, rfl, rfl, rfl⟩⟩
  ·simp at hcs
   obtain ⟨rfl, rfl, rfl⟩ := hcs
   exact ⟨zs, .inr ⟨_, rfl, hl, hm, by simpa using hz, hcell, hwz⟩⟩
 obtain ⟨l0, rfl, hr0, hm0, hw0, hc0⟩ := ReadsInt.ofRowC w0
 obtain ⟨l1, rfl, hc1, hr1⟩ := open_heads t1
 obtain ⟨l2, rfl, hc2, hr2, hw2⟩ := open_tabs t2
 obtain ⟨l3, rfl, hc3, hr3, hw3⟩ := open_tabs t3
 obtain ⟨l4, rfl, hc4, hr4, hw4⟩ := open_rows 21 Try.underlying29 Try.underlying22 Try.underlying21 (by kernel_rfl) (by kernel_rfl) t4
 obtain ⟨l5, rfl, hc5, hr5, hw5⟩ := open_rows 21 Try.underlying29 Try.underlying22 Try.underlying21 (by kernel_rfl) (by kernel_rfl) t5
 clear hA0 hval0 hsz0 hsz
 obtain ⟨k, hk⟩ := Ev.rounds (Pure.Pg.law_true (Q := l0) (heads := l1) (pk := l2) (pv := l3) (keys := l4) (vals := l5) (Pure.A32_of_wf hw0) (fun r h => Pure.A32_of_wf (hw4 r h)) (fun r h => Pure.A32_of_wf (hw5 r h)) (fun t h => ⟨(hw2 t h).1, fun r hr => Pure.A32_of_wf ((hw2 t h).2 r hr)⟩) (fun t h => ⟨(hw3 t h).1, fun r hr => Pure.A32_of_wf ((hw3 t h).2 r hr)⟩))
 refine (Q.credenzalaw14_AttnFused.calls k _ _ l0 _ _ l1 _ _ l2 _ _ l3 (fun _ => True) _ _ l4 (fun _ => True) _ _ l5 true W (Kd.C_of_reads (d := (0 : Int)) (h1 := fun _ => rfl) hr0) hc0 hr1 hc1 hr2 hc2 hr3 hc3 (V_of_C (Kd.heap_slice _ (Kd.heap_int _)) rfl hc4 hr4) (V_of_C (Kd.heap_slice _ (Kd.heap_int _)) rfl hc5 hr5) hk rfl).mono ?_
 rintro e W' ⟨rfl, bel⟩
 exact ⟨_, rfl, _, _, _, [], _, [], hW', trodAll_mk1 (shut_bool Try.underlying4 _), (trodAll_cons_mk (Below.trod laidOut (by kernel_rfl) (of_decide_eq_true (by kernel_rfl)) k0 bel lt0) trodAll_mk0), rfl, bel.frame _, fun h => by cases h⟩
theorem over : Rows.attnFusedRow.holds Try.pinned (OpenSpec.ofChange Rows.attnFusedSpec) :=
 OpenClaim.holds_of_wide 7 Try.f7 rfl rfl rfl rfl rfl rfl rfl ⟨rfl, rfl, rfl, rfl, rfl⟩ rfl rfl rfl rfl rfl (by kernel_rfl) Try.func7 (by kernel_rfl)
  (of_decide_eq_true (by kernel_rfl)) (by unfold Func.isWrapper; first | (rw [if_pos (by decide +kernel)]; kernel_rfl) | (rw [if_neg (by decide +kernel)]; exact ⟨rfl, rfl⟩))
  (fun os started H enc _ => lifted os started H enc)
theorem proved : Rows.AttnFusedSaid := over
end Go.Proofs.Yteflolamihhmdaa.attnFused
namespace Go.Proofs.Yteflolamihhmdaa
theorem attnFused_holds : Rows.AttnFusedSaid := attnFused.proved
end Go.Proofs.Yteflolamihhmdaa
