/- credenza/credenzalaw21.GenEquals holds. (part 2: functions of the program as plain functions, and what is shown of them.) Conditions: as each theorem states; the last one has none. -/
import Derived.RangeFuncLeaves
import Derived.RangeFuncRecord
import Derived.Test.YtgapfnckannnfaaGreatCGenEquals1
namespace Go.Proofs.YtgapfnckannnfaaGreatD
open Go
noncomputable section

theorem ev_ok' {ι : Inj} {T : Tm} {a : Act} {x : Operand} {u : Value} (k : ∀ t v, x = .tmp t → tget T t = some v → ∃ v', a.tmps[t]? = some v' ∧ VR ι v v') (h : evA T x = some u) : VR ι u (a.eval x) := by
  cases x with
  | tmp t =>
    obtain ⟨v', h1, h2⟩ := k t u rfl h
    simpa [Act.eval, Array.getD_eq_getD_getElem?, h1] using h2
  | const c =>
    simp only [evA] at h
    split at h <;> cases h
    rename_i hp
    exact plain_ok hp
  | global g => simp [evA] at h
  | func f => simp only [evA, Option.some.injEq] at h; subst h; exact .fn (by simp) rfl (fun i h _ => by simp at h) rfl (fun i h _ => by simp at h)
theorem unready {listed : Array Bool} {i : Nat} (hi : i < listed.size) (h : listed.getD i true = false) : ¬ listed.getD i false = true := by
  simpa [Array.getD, hi] using h
theorem keep_pre {P : Program} {ι κ : Inj} {G : Hp} {w w1 w2 : World} {b : Nat} {o : Obj} (hb : ι b = .pre) (hk : Kept ι κ w w1) (hW : WR P κ G w2) (hg : G.get b = some o) : κ b = .pre := by
  rcases hk.le b (by simp [hb]) with e | e
  · rw [e, hb]
  · rw [hW.dead b e] at hg; cases hg

section
variable {P : Program} (hf : Fine P) {call : Tg → Hp → Option (Value × Hp)} (hcall : CallOK P call) (heff : CallEff call)
variable {ops : Array Oper} {π : List Nat} {Ts : Nat → Tm} {Gs : Nat → Hp} {vs : Nat → Value} {Qs Ls : List (Nat × List Nat)} (hst : StOK ops π)
  (hdid : ∀ j o, (ranked ops π)[j]? = some o → Did P call ops Ts Gs vs Qs Ls j o) (hcomp : compat (masks ops) π Qs Ls = true)
include hf hcall heff hst hdid hcomp
/-- One operation that may come up. -/
theorem drawn_step {F : Fence} (hw : Wide F) {m : Nat} {Q : Exit → Act → World → Prop} {ι0 : Inj} {a0 : Act} {w0 : World} (hsz : ∀ o ∈ ops.toList, ∀ d, o.dst = some d → d < a0.tmps.size) (hn0 : ∀ b, (Gs 0).next ≤ b → ι0 b = .unborn)
    {listed : Array Bool} {a : Act} {w : World} (hI : Inv P ops π Ts Gs vs ι0 a0 w0 listed a w) {i : Nat} (hr : i ∈ Region.ready .any ops listed) {K : Act → World → Prop}
    (hK : ∀ a' w', Inv P ops π Ts Gs vs ι0 a0 w0 (listed.setIfInBounds i true) a' w' → K a' w') : wpOpIn F m P ops Q i K a w := by
  classical
  obtain ⟨hs, hc, ι, s, q1, qs, q2, qb, q3, q4, q5, q6, q7, q8⟩ := hI
  obtain ⟨hun, o, ho, hall⟩ := mem_ready.1 hr
  have hi : i < ops.size := (Array.getElem?_eq_some_iff.1 ho).1
  have hil : i < listed.size := by omega
  have hun := unready hil hun
  obtain ⟨r, hrr⟩ := hst.cover i hi
  have hro := at_ranked hrr ho
  have hrl : r < (ranked ops π).length := (List.getElem?_eq_some_iff.1 hro).1
  have hgr : π.getD r 0 = i := by simp [List.getD, hrr]
  have hund : ¬ Dn π listed r := by unfold Dn; rw [hgr]; exact hun
  have hord : ∀ k, ordR (masks ops) π k r = true → Dn π listed k := fun k h => hc.ord i _ o ho (fun e he hb => hall e (by simpa using he) hb) (by unfold ordR at h; rwa [hgr] at h)
  have hlt : ∀ k p, (ranked ops π)[k]? = some p → ordR (masks ops) π k r = true → k < r := fun k p hp h => hst.before r k o hro (rk_lt hp) h
  have hclo : ∀ k p j, (ranked ops π)[k]? = some p → ordR (masks ops) π j k = true → Dn π listed k → Dn π listed j := fun k p j hp h hk => by
    obtain ⟨x, hx, hxo⟩ := ranked_at hst.lt hp
    have e : π.getD k 0 = x := by simp [List.getD, hx]
    unfold Dn at hk ⊢; unfold ordR at h
    rw [e] at hk h
    exact hc.ordD hk (hst.lt k x hx) h
  have hup : ∀ k p, (ranked ops π)[k]? = some p → ordR (masks ops) π r k = true → r < k ∧ ¬ Dn π listed k := fun k p hp h =>
    ⟨hst.before k r p hp (rk_lt hro) h, fun hk => hund (hclo k p r hp h hk)⟩
  have htmp : ∀ t v, t ∈ tmpNames ops o → tget (Ts r) t = some v → ∃ v', a.tmps[t]? = some v' ∧ VR ι v v' := by
    intro t v hn hv
    rcases did_tmp hdid (Nat.le_of_lt hrl) hv with ⟨j, p, h1, h2, h3, rfl⟩ | ⟨h1, h2⟩
    · rcases hst.name r j o p t hro h2 (by omega) h3 hn with h | h
      · have := (hup j p h2 h).1; omega
      · exact q7 j p t h2 (hord j h) h3
    · refine q8 t v (fun j p hp hl hd => ?_) h2
      have hji : j ≠ r := fun e => hund (e ▸ hl)
      by_cases hlt' : j < r
      · exact h1 j p hlt' hp hd
      · rcases hst.name r j o p t hro hp (Ne.symm hji) hd hn with h | h
        · exact (hup j p hp h).2 hl
        · exact hlt' (hlt j p hp h)
  have hev : ∀ x u, evA (Ts r) x = some u → x ∈ o.op.operands → VR ι u (a.eval x) := fun x u hx hm =>
    ev_ok' (fun t v e hv => htmp t v (by
      unfold tmpNames
      refine List.mem_append.2 (.inl (List.mem_filterMap.2 ⟨x, by simpa using hm, ?_⟩))
      rw [e]) hv) hx
  have hwant : ∀ b, wantA ops o (Ts r) = some b → Region.wanted o (yielded ops a.tmps) = b := fun b hb =>
    want_ok' (fun j want d hg hd v hv => htmp d v (by
      unfold tmpNames
      refine List.mem_append.2 (.inr ?_)
      rw [hg]; simp only [hd]; simp) hv) hb
  have pre : ∀ j p, (ranked ops π)[j]? = some p → birthB p = true → j < s → ¬ Dn π listed j → ∃ x, (Gs s).get (Gs j).next = some x := fun j p hp hb hj hnd => by
    obtain ⟨t, c, h, _⟩ := content heff hst hdid hcomp hp hb hj q1 fun k y _ h2 hy hl => by
      cases e : ordR (masks ops) π j k with
      | false => rfl
      | true => exact absurd (hclo k y j hy e ((q2 k y hy hl).2 h2)) hnd
    exact ⟨_, h⟩
  obtain ⟨H1, d1, d2, d3, d4, d5, d6⟩ := hdid r o hro
  cases hq : quietOp o.op with
  | true =>
    have hnl : loudB o = false := by simp [loudB, hq]
    have hnb : birthB o = false := by cases h : birthB o with | false => rfl | true => rw [(birth_noisy h).1] at hq; cases hq
    have hquiet : ∀ j p W, (ranked ops π)[j]? = some p → (j, W) ∈ Ls → ∀ b ∈ touched (evA (Ts r)) o.op, b ∈ W → ordR (masks ops) π r j = true ∨ ordR (masks ops) π j r = true := by
      intro j p W _ hW b hb hbW
      have := List.all_eq_true.1 (List.all_eq_true.1 hcomp _ (d4 hq)) _ hW
      simp only [Bool.or_eq_true] at this
      rcases this with (h | h) | h
      · exact .inl h
      · exact .inr h
      · have := List.all_eq_true.1 h b hb
        simp [hbW] at this
    have hget : ∀ b ∈ touched (evA (Ts r)) o.op, ∀ ob, (Gs r).get b = some ob → (Gs s).get b = some ob := by
      intro b hb ob hg
      rcases Nat.le_total s r with h | h
      · have hbs : b < (Gs s).next := by
          obtain ⟨x, hx, hxb⟩ := touched_op hb
          cases hv : evA (Ts r) x with
          | none => rw [hv] at hxb; simp [refs1] at hxb
          | some u =>
            rw [hv] at hxb
            exact q3.lt_of (refs_born (hev x u hv hx) hxb)
        rw [← did_keep heff hdid h (Nat.le_of_lt hrl) hbs ?_]
        · exact hg
        · intro j p W h1 h2 hp hpq hpb hW hbW
          rcases hquiet j p W hp hW b hb hbW with k | k
          · have := (hup j p hp k).1; omega
          · have := (q2 j p hp (loud_split.2 ⟨hpq, hpb⟩)).1 (hord j k); omega
      · rw [did_keep heff hdid h q1 (Hp.lt_of_get hg) ?_]
        · exact hg
        · intro j p W h1 h2 hp hpq hpb hW hbW
          have hl := (q2 j p hp (loud_split.2 ⟨hpq, hpb⟩)).2 h2
          rcases hquiet j p W hp hW b hb hbW with k | k
          · exact (hup j p hp k).2 hl
          · have := hlt j p hp k; omega
    have hstep : step1 P call ops o (Ts r) (marked (Gs s)) = some (vs r, marked (Gs s)) := by
      unfold step1 at d1 ⊢
      cases hwt : wantA ops o (Ts r) with
      | none => simp [hwt] at d1
      | some b =>
        cases b with
        | false =>
          simp only [hwt, Option.some.injEq, Prod.mk.injEq] at d1 ⊢
          exact ⟨d1.1, trivial⟩
        | true =>
          simp only [hwt] at d1 ⊢
          cases hop : opA P (evA (Ts r)) o.op o.type (marked (Gs r)) with
          | none => simp [hop] at d1
          | some nx =>
            obtain ⟨v, rfl, hG⟩ := opA_quiet hq hop
            simp only [hop, Option.some.injEq, Prod.mk.injEq] at d1
            rw [hG (marked (Gs s)) fun b hb ob hg => hget b hb ob hg]
            simp only [d1.1]
    refine step_ok hf hcall hw ho hstep hev hwant (q3.same (marked_same _)) fun v' κ w1 r1 r2 r3 => hK _ _ ?_
    have r2' := r2.same (marked_same _).symm
    refine inv_next hst hsz hs hc ho hrr hall q5 q6 q7 q8 r1 (q4.trans r3) r3.le q1 qs (fun j p hp hl => ?_) (fun j p hp hb => ⟨?_, fun h1 h2 => ?_⟩) r2'
    · constructor
      · rintro (rfl | h)
        · rw [hro] at hp; cases hp; rw [hnl] at hl; cases hl
        · exact (q2 j p hp hl).1 h
      · exact fun h => .inr ((q2 j p hp hl).2 h)
    · rintro (rfl | h)
      · rw [hro] at hp; cases hp; rw [hnb] at hb; cases hb
      · exact (qb j p hp hb).1 h
    · have hnd : ¬ Dn π listed j := fun h => h2 (.inr h)
      obtain ⟨x, hx⟩ := pre j p hp hb h1 hnd
      exact keep_pre ((qb j p hp hb).2 h1 hnd) r3 r2' hx
  | false =>
    cases hb : birthB o with
    | true =>
      have hnl : loudB o = false := by simp [loudB, hb]
      have hrs : r < s := by
        rcases Nat.lt_or_ge r s with h | h
        · exact h
        · exfalso
          rcases qs with qs | ⟨p, hp, hl⟩
          · omega
          · by_cases e : s = r
            · subst e; rw [hro] at hp; cases hp; rw [hnl] at hl; cases hl
            · have := hord s (hst.birth r s o p hro hp hb hl (by omega))
              have := (q2 s p hp hl).1 this; omega
      have hpre := (qb r o hro hb).2 hrs hund
      obtain ⟨t, c, hget, hop⟩ := content heff hst hdid hcomp hro hb hrs q1 fun k y _ h2 hy hl => by
        cases e : ordR (masks ops) π r k with
        | false => rfl
        | true => exact absurd ((q2 k y hy hl).2 h2) (hup k y hy e).2
      have hop' : opA P (fun x => if x ∈ o.op.operands then evA (Ts r) x else none) o.op o.type (marked (Gs r)) = some (.val (vs r) ((marked (Gs r)).push (.cells c t (0, 0)))) := by
        rw [← hop]; exact opA_congr fun x hx => if_pos hx
      obtain ⟨r', ⟨t', c', c'', f, e1, e2, e3, e4, e5⟩, hrun⟩ := birth_ok (ι := ι) (w := w) (ρ := a.eval) (fun x v hx => by
        split at hx
        · rename_i hmem; exact hev x v hx hmem
        · cases hx) (birth_noisy hb).2.1 hop'
      have e6 : Obj.cells c t (0, 0) = Obj.cells c' t' (0, 0) := by
        have h1 := Hp.get_push (marked (Gs r)) (.cells c t (0, 0)) (marked (Gs r)).next
        have h2 := Hp.get_push (marked (Gs r)) (.cells c' t' (0, 0)) (marked (Gs r)).next
        rw [e1] at h1
        rw [if_pos rfl] at h1 h2
        rw [h2] at h1
        exact (Option.some.inj h1).symm
      cases e6
      have hW' := pre_born q3 hpre hget e2
      have hb0 : ι0 (Gs r).next = .unborn := hn0 _ (did_next heff hdid (Nat.zero_le _) (Nat.le_of_lt hrl))
      have hsub : ι.sub (upd ι (Gs r).next (.live w.heap.size 0 c.size (P.cellsOf t) 0)) := fun k hk => .inl (upd_other _ _ (fun e => hk.2 (by rw [e]; exact hpre)))
      have hkept : Kept ι0 (upd ι (Gs r).next (.live w.heap.size 0 c.size (P.cellsOf t) 0)) w0 (w.alloc (.cells c'' t (0, 0))) := by
        refine ⟨q4.os, q4.tape, q4.output, by rw [World.size_alloc]; have := q4.size; omega, fun g hg hn => ?_, fun g hg => ?_, fun k hk => ?_⟩
        · rw [Go.RowKit.Below.heap_alloc w _ g (by have := q4.size; omega)]; exact q4.old g hg hn
        · obtain ⟨k, s1, n1, z1, x1, hk⟩ := hg
          by_cases e : k = (Gs r).next
          · subst e
            simp only [upd_same, Ent.live.injEq] at hk
            have := q4.size
            exact .inr (by omega)
          · rw [upd_other _ _ e] at hk; exact q4.img g ⟨k, s1, n1, z1, x1, hk⟩
        · rw [upd_other _ _ (fun e => hk (by rw [e]; exact hb0))]; exact q4.le k hk
      have step := hK _ _ (inv_next (r := r) (v' := f ⟨w.heap.size, 0, none⟩) hst hsz hs hc ho hrr hall q5 q6 q7 q8 (by rw [e3]; exact e5 _ _ _ ⟨c.size, P.cellsOf t, by simp [marked]⟩) hkept hsub q1 qs (fun j p hp hl => ?_) (fun j p hp hbp => ⟨?_, fun h1 h2 => ?_⟩) hW')
      · unfold wpOpIn
        simp only [ho]
        have hwt : wantA ops o (Ts r) = some true := by unfold wantA; rw [(birth_noisy hb).2.2]
        rw [hwant _ hwt, if_pos rfl]
        refine ⟨fun f _ => hw.fn f, ?_⟩
        have hnd : ∀ c, o.op ≠ .defer c := by intro c e; rw [e] at hop; cases hop
        rw [Oper.semAt_eq _ _ _ hnd, hrun, e4]
        exact step
      · constructor
        · rintro (rfl | h)
          · rw [hro] at hp; cases hp; rw [hnl] at hl; cases hl
          · exact (q2 j p hp hl).1 h
        · exact fun h => .inr ((q2 j p hp hl).2 h)
      · rintro (rfl | h)
        · exact hrs
        · exact (qb j p hp hbp).1 h
      · have hnd : ¬ Dn π listed j := fun h => h2 (.inr h)
        have hne : (Gs j).next ≠ (Gs r).next := by
          have nx : ∀ {k y}, (ranked ops π)[k]? = some y → birthB y = true → (Gs k).next + 1 = (Gs (k + 1)).next := fun hk hy => by
            obtain ⟨_, _, h, _⟩ := (did_step heff hdid hk).2.2.1 (birth_noisy hy).1 hy
            exact h.next
          have a1 := nx hp hbp
          have a2 := nx hro hb
          rcases Nat.lt_trichotomy j r with h | h | h
          · have := did_next heff hdid (p := j + 1) (q := r) (by omega) (by omega); omega
          · exact absurd (.inl h) h2
          · have := did_next heff hdid (p := r + 1) (q := j) (by omega) (Nat.le_of_lt (List.getElem?_eq_some_iff.1 hp).1); omega
        rw [upd_other _ _ hne]; exact (qb j p hp hbp).2 h1 hnd
    | false =>
      have hl : loudB o = true := loud_split.2 ⟨hq, hb⟩
      have hrs : r = s := by
        have h1 : s ≤ r := by
          rcases Nat.lt_or_ge r s with h | h
          · exact absurd ((q2 r o hro hl).2 h) hund
          · exact h
        rcases Nat.eq_or_lt_of_le h1 with e | h2
        · exact e.symm
        · exfalso
          rcases qs with qs | ⟨p, hp, hlp⟩
          · omega
          · rcases hst.loud r s o p hro hp (by omega) hl hlp with h | h
            · have := (hup s p hp h).1; omega
            · have := (q2 s p hp hlp).1 (hord s h); omega
      subst hrs
      refine step_ok hf hcall hw ho d1 hev hwant (q3.same (marked_same _)) fun v' κ w1 r1 r2 r3 => ?_
      have hW1 : WR P κ (Gs (r + 1)) w1 := by rw [d2]; exact r2.same (unmarked_same _ _)
      obtain ⟨s', n1, n2, n3, n4⟩ := next_loud (ranked ops π) ((ranked ops π).length - (r + 1)) (r + 1) (by omega)
      obtain ⟨κ', k1, k2, k3, k4⟩ := advance heff hdid hW1 (s' - (r + 1)) (by omega) (fun j p h1 h2 => n3 j p h1 (by omega))
      rw [show r + 1 + (s' - (r + 1)) = s' by omega] at k1 k4
      refine hK _ _ (inv_next hst hsz hs hc ho hrr hall q5 q6 q7 q8 (r1.mono k2.le) ((q4.trans r3).trans k2) (Inj.le_trans r3.le k2.le) n2 n4 (fun j p hp hlp => ?_) (fun j p hp hbp => ⟨?_, fun h1 h2 => ?_⟩) k1)
      · constructor
        · rintro (rfl | h)
          · omega
          · have := (q2 j p hp hlp).1 h; omega
        · intro h
          rcases Nat.lt_trichotomy j r with h' | h' | h'
          · exact .inr ((q2 j p hp hlp).2 h')
          · exact .inl h'
          · have := n3 j p (by omega) h hp; rw [hlp] at this; cases this
      · rintro (rfl | h)
        · rw [hro] at hp; cases hp; rw [hb] at hbp; cases hbp
        · have := (qb j p hp hbp).1 h; omega
      · have hnd : ¬ Dn π listed j := fun h => h2 (.inr h)
        rcases Nat.lt_or_ge j (r + 1) with h' | h'
        · have hjr : j < r := by
            rcases Nat.eq_or_lt_of_le (Nat.le_of_lt_succ h') with e | e
            · exact absurd (.inl e) h2
            · exact e
          obtain ⟨t, c, hx, _⟩ := content heff hst hdid hcomp hp hbp h' (by omega) fun k y _ h2 hy hly => by
            cases e : ordR (masks ops) π j k with
            | false => rfl
            | true =>
              by_cases hk : k = r
              · subst hk; exact absurd (hord j e) hnd
              · exact absurd (hclo k y j hy e ((q2 k y hy hly).2 (by omega))) hnd
          rw [k3 _ (Hp.lt_of_get hx)]
          exact keep_pre ((qb j p hp hbp).2 hjr hnd) r3 hW1 hx
        · exact k4 j p h' h1 hp hbp
omit hf hcall heff hst hcomp in
theorem inv_done {ι0 : Inj} {a0 : Act} {w0 : World} {listed : Array Bool} {a : Act} {w : World} (h : Inv P ops π Ts Gs vs ι0 a0 w0 listed a w) (hall : ∀ r o, (ranked ops π)[r]? = some o → Dn π listed r) : Post P ι0 a0 w0 (Ts (ranked ops π).length) (Gs (ranked ops π).length) a w := by
  obtain ⟨_, _, ι, s, q1, qs, q2, qb, q3, q4, q5, q6, q7, q8⟩ := h
  have e : s = (ranked ops π).length := by
    rcases qs with h | ⟨p, hp, hl⟩
    · exact h
    · have := (q2 s p hp hl).1 (hall s p hp); omega
  subst e
  refine ⟨ι, fun t v hv => ?_, q5, q6, q3, q4⟩
  rcases did_tmp hdid (Nat.le_refl _) hv with ⟨j, o, h1, h2, h3, rfl⟩ | ⟨h1, h2⟩
  · exact q7 j o t h2 (hall j o h2) h3
  · exact q8 t v (fun j o ho _ => h1 j o (List.getElem?_eq_some_iff.1 ho).1 ho) h2
omit hf hcall heff hdid hcomp in
theorem ready_nil {listed : Array Bool} (hs : listed.size = ops.size) (hr : Region.ready .any ops listed = []) : ∀ r o, (ranked ops π)[r]? = some o → Dn π listed r := by
  intro r
  induction r using Nat.strongRecOn with
  | _ r ih =>
    intro o ho
    obtain ⟨i, hi, hio⟩ := ranked_at hst.lt ho
    have hgr : π.getD r 0 = i := by simp [List.getD, hi]
    have his := hst.lt r i hi
    unfold Dn
    rw [hgr]
    cases hd : listed.getD i false with
    | true => rfl
    | false =>
      exfalso
      have hm : i ∈ Region.ready .any ops listed := mem_ready.2 ⟨by
        have : i < listed.size := by omega
        simpa [Array.getD, this] using hd, o, hio, fun e he hb => by
          obtain ⟨k, hk, hke⟩ := hst.edge r o ho e (by simpa using he) hb
          have := ih k hk _ (at_ranked hke (Array.getElem?_eq_getElem (hst.lt k _ hke)))
          unfold Dn at this
          rwa [show π.getD k 0 = e.on by simp [List.getD, hke]] at this⟩
      rw [hr] at hm; cases hm
/-- Any order. -/
theorem drawn_any {F : Fence} (hw : Wide F) {m : Nat} {Q : Exit → Act → World → Prop} {ι0 : Inj} {a0 : Act} {w0 : World} (hsz : ∀ o ∈ ops.toList, ∀ d, o.dst = some d → d < a0.tmps.size) (hn0 : ∀ b, (Gs 0).next ≤ b → ι0 b = .unborn)
    (hQ : ∀ a' w', Post P ι0 a0 w0 (Ts (ranked ops π).length) (Gs (ranked ops π).length) a' w' → Q .normal a' w') : ∀ (fuel : Nat) (listed : Array Bool) (a : Act) (w : World), Inv P ops π Ts Gs vs ι0 a0 w0 listed a w → cntB listed ops.size + fuel = ops.size →
      wpAnyIn F m P .any ops Q fuel listed a w
  | 0, listed, a, w, hI, hn => by
    have hall := cntB_all listed ops.size (by omega)
    have hall' : ∀ r o, (ranked ops π)[r]? = some o → Dn π listed r := fun r o ho => by
      obtain ⟨i, hi, hio⟩ := ranked_at hst.lt ho
      unfold Dn; rw [show π.getD r 0 = i by simp [List.getD, hi]]; exact hall i (hst.lt r i hi)
    refine ⟨?_, hQ a w (inv_done hdid hI hall')⟩
    cases hr : Region.ready .any ops listed with
    | nil => rfl
    | cons j l =>
      exfalso
      obtain ⟨hun, o, ho, _⟩ := mem_ready.1 (show j ∈ Region.ready .any ops listed by rw [hr]; simp)
      have hj := (Array.getElem?_eq_some_iff.1 ho).1
      exact unready (by rw [hI.size]; exact hj) hun (hall j hj)
  | fuel + 1, listed, a, w, hI, hn => by
    refine ⟨fun hr => hQ a w (inv_done hdid hI (ready_nil hst hI.size hr)), fun i hi => ?_⟩
    refine drawn_step hf hcall heff hst hdid hcomp hw hsz hn0 hI hi fun a' w' hI' => drawn_any hw hsz hn0 hQ fuel _ a' w' hI' ?_
    obtain ⟨hun, o, ho, _⟩ := mem_ready.1 hi
    have hj := (Array.getElem?_eq_some_iff.1 ho).1
    have hil : i < listed.size := by rw [hI.size]; exact hj
    rw [cntB_set hil (unready hil hun), if_pos hj]
    omega
end

/-- A region whose order is drawn. -/
theorem drawn_ok {P : Program} (hf : Fine P) {call : Tg → Hp → Option (Value × Hp)} (hcall : CallOK P call) (heff : CallEff call) {F : Fence} (hw : Wide F) {m : Nat} {id : Nat} {ops : Array Oper} {T T1 : Tm} {H H1 : Hp}
    (h : drawA P call ops T H = some (T1, H1)) {ι : Inj} {a : Act} {w : World} (hsz : ∀ o ∈ ops.toList, ∀ d, o.dst = some d → d < a.tmps.size) (hT : TmR ι T a.tmps) (hW : WR P ι H w)
    {Q : Exit → Act → World → Prop} (hQ : ∀ a' w', Post P ι a w T1 H1 a' w' → Q .normal a' w') : (Code.region id ops true).wpIn F m P Q a w := by
  unfold drawA at h
  split at h <;> try cases h
  rename_i hst
  split at h <;> try cases h
  rename_i T2 H2 Q2 L2 hd
  split at h <;> try cases h
  rename_i hcomp
  have hst := stOK_ok hst
  generalize orderL ops = π at hst hd hcomp
  obtain ⟨Ts, Gs, vs, e1, e2, e3, e4, e5, _, _⟩ := drA_can (ol := ranked ops π) (ranked ops π) 0 T T1 H H1 [] [] Q2 L2 (fun j => by simp) hd
  simp only [Nat.zero_add] at e3 e4
  have hdid := fun j o ho => e5 j o (Nat.zero_le _) ho
  have no : ∀ j, ¬ (Array.replicate ops.size false).getD j false = true := by
    intro j
    by_cases h : j < ops.size
    · simp [Array.getD, h]
    · simp [Array.getD, h]
  have hW0 : WR P ι (Gs 0) { w with drawn := w.drawn + 1 } := by rw [e2]; exact hW.drew
  obtain ⟨s, n1, n2, n3, n4⟩ := next_loud (ranked ops π) (ranked ops π).length 0 (by omega)
  obtain ⟨κ, k1, k2, k3, k4⟩ := advance heff hdid hW0 s (by omega) (fun j p h1 h2 => n3 j p h1 (by omega))
  rw [Nat.zero_add] at k1 k4
  refine wpIn_region_any hf.mixed ?_
  refine drawn_any hf hcall heff hst hdid hcomp hw hsz (ι0 := ι) (a0 := a) (w0 := w) (fun b hb => hW.bnd b (by rw [← e2]; exact hb)) (fun a' w' hp => hQ a' w' (by rw [e3, e4] at hp; exact hp)) ops.size _ a _ ?_ (by rw [cntB_zero]; omega)
  exact ⟨by simp, fun j o _ hj => absurd hj (no j), κ, s, n2, n4, fun j o ho hl => ⟨fun h => absurd h (no _), fun h => by have := n3 j o (Nat.zero_le _) h ho; rw [hl] at this; cases this⟩,
    fun j o ho hb => ⟨fun h => absurd h (no _), fun h _ => k4 j o (Nat.zero_le _) h ho hb⟩, k1, (Kept.drew ι w).trans k2, rfl, rfl,
    fun j o t _ hj => absurd hj (no _), fun t v _ hv => let ⟨v', h1, h2⟩ := hT t v (by rw [← e1]; exact hv); ⟨v', h1, h2.mono k2.le⟩⟩
end
end Go.Proofs.YtgapfnckannnfaaGreatD

namespace Go.Proofs.YtgapfnckannnfaaGreatD
open Go
noncomputable section

section
variable {P : Program} (hf : Fine P) {call : Tg → Hp → Option (Value × Hp)} (hcall : CallOK P call) (heff : CallEff call) {nr : Bool} {ds0 : List Deferred}
include hf hcall heff

omit hf hcall heff in
/-- A loop's round to come. -/
theorem loop_round {F : Fence} {n : Nat} {c : Code} {Q : Exit → Act → World → Prop} (R : Act → World → Prop)
    (hR : ∀ a w, R a w → ∀ (b : Frame) (k : List Item) (cs : List Frame), b.roundOf = F.round → F.fn b.fn → F.room (cs.length + 1 + n) →
      ∃ e a' w', Q e a' w' ∧ ArrivesIn (Machine.fenced P F) P (lone (b.atR a (.code c :: .inLoop c :: k)) cs w) b k cs e a' w') {a : Act} {w : World}
    (h : c.wpIn F n P (Exit.then R Q) a w) (b : Frame) (k : List Item) (cs : List Frame) (hro : b.roundOf = F.round) (hb : F.fn b.fn) (hr : F.room (cs.length + 1 + n)) :
    ∃ e a' w', Q e a' w' ∧ ArrivesIn (Machine.fenced P F) P (lone (b.atR a (.code c :: .inLoop c :: k)) cs w) b k cs e a' w' := by
  obtain ⟨e, a₁, w₁, hq, harr⟩ := h b (.inLoop c :: k) cs hro hb hr
  cases e with
  | normal =>
    obtain ⟨e₂, a₂, w₂, hq₂, harr₂⟩ := hR a₁ w₁ hq b k cs hro hb hr
    exact ⟨e₂, a₂, w₂, hq₂, .of_steps (StepsIn.trans harr (.one (fenced_calm hb hr rfl) stepR_inLoop)) harr₂⟩
  | exit id => exact ⟨_, a₁, w₁, hq, .pass (x := .inLoop c) rfl (fun _ _ => .inl (by simp)) harr⟩
  | goto l => exact ⟨_, a₁, w₁, hq, .pass (x := .inLoop c) rfl (fun _ _ => .inl (by simp)) harr⟩
  | ret => exact ⟨_, a₁, w₁, hq, .pass (x := .inLoop c) rfl (fun _ _ => .inl (by simp)) harr⟩
  | panic ch => exact ⟨_, a₁, w₁, hq, .pass (x := .inLoop c) rfl (fun _ _ => .inl (by simp)) harr⟩
  | outgrown => exact ⟨_, a₁, w₁, hq, .pass (x := .inLoop c) rfl (fun _ _ => .inl (by simp)) harr⟩

def Out.ex : Out → Exit
  | .norm => .normal
  | .exit id => .exit id
  | .ret => .ret
omit hf hcall heff in
/-- A block that is not ours. -/
theorem wr_alloc {ι : Inj} {H : Hp} {w : World} (h : WR P ι H w) (o : Obj) : WR P ι H (w.alloc o) ∧ Kept ι ι w (w.alloc o) :=
  ⟨⟨h.bnd, fun b g s n z e hb => by
      obtain ⟨o1, o2, h1, h2, h3⟩ := h.live b g s n z e hb
      exact ⟨o1, o2, h1, by rw [Go.RowKit.Below.heap_alloc w o g (Array.getElem?_eq_some_iff.1 h2).1]; exact h2, h3⟩, h.dead, h.inj⟩,
   ⟨rfl, rfl, rfl, by simp, fun g hg _ => Go.RowKit.Below.heap_alloc w o g hg, fun _ hh => .inl hh, ι.le_refl⟩⟩
def mkD (r : Nat) : Deferred := { target := .collected r, args := #[] }
/-- What is deferred are marks, each of an empty block of its own, from B on. -/
def Marked (nr : Bool) (ds0 : List Deferred) (B : Nat) (w : World) (ds : List Deferred) : Prop := ∃ rs : List Nat, ds = rs.map mkD ++ ds0 ∧ rs.Nodup ∧ (∀ r ∈ rs, B ≤ r ∧ w.heap[r]? = some (.deferred (some []))) ∧ (nr = true → rs = [])
omit hf hcall heff in
theorem not_ours {ι : Inj} {H : Hp} {w : World} (h : WR P ι H w) {r : Nat} {x : Option (List Deferred)} (hr : w.heap[r]? = some (.deferred x)) : ¬ ι.has r := by
  rintro ⟨b, s, n, z, e, hb⟩
  obtain ⟨o, o', g1, g2, g3⟩ := h.live b r s n z e hb
  rw [hr] at g2; cases g2
  cases o <;> simp [OR] at g3
omit hf hcall heff in
theorem Marked.kept {B : Nat} {ι κ : Inj} {H : Hp} {w w' : World} (h : WR P ι H w) (k : Kept ι κ w w') {ds : List Deferred} (m : Marked nr ds0 B w ds) : Marked nr ds0 B w' ds := by
  obtain ⟨rs, h1, h2, h3, h4⟩ := m
  refine ⟨rs, h1, h2, fun r hr => ⟨(h3 r hr).1, ?_⟩, h4⟩
  rw [k.old r (Array.getElem?_eq_some_iff.1 (h3 r hr).2).1 (not_ours h (h3 r hr).2)]
  exact (h3 r hr).2
omit hf hcall heff in
theorem Marked.more {B : Nat} {w : World} {ds : List Deferred} (m : Marked false ds0 B w ds) (hB : B ≤ w.heap.size) : Marked false ds0 B (w.alloc (.deferred (some []))) (mkD w.heap.size :: ds) := by
  obtain ⟨rs, h1, h2, h3, _⟩ := m
  refine ⟨w.heap.size :: rs, by simp [h1], List.nodup_cons.2 ⟨fun hm => ?_, h2⟩, fun r hr => ?_, fun e => by cases e⟩
  · have := (Array.getElem?_eq_some_iff.1 (h3 _ hm).2).1; omega
  · rcases List.mem_cons.1 hr with rfl | hr
    · exact ⟨hB, World.alloc_heap_new w _⟩
    · refine ⟨(h3 r hr).1, ?_⟩
      rw [Go.RowKit.Below.heap_alloc w _ r (Array.getElem?_eq_some_iff.1 (h3 r hr).2).1]
      exact (h3 r hr).2
/-- What code comes to, of related temporaries and memory. -/
def Ends (P : Program) (nr : Bool) (ds0 : List Deferred) (B : Nat) (ι : Inj) (a : Act) (w : World) (r : Out × Tm × Hp) (e : Exit) (a' : Act) (w' : World) : Prop :=
  e = r.1.ex ∧ ∃ κ, TmR κ r.2.1 a'.tmps ∧ a'.tmps.size = a.tmps.size ∧ Marked nr ds0 B w' a'.defers ∧ WR P κ r.2.2 w' ∧ Kept ι κ w w'
omit hf hcall heff in
theorem Ends.trans {B : Nat} {ι κ : Inj} {a a1 a' : Act} {w w1 w' : World} {r : Out × Tm × Hp} {e : Exit} (h1 : a1.tmps.size = a.tmps.size) (h3 : Kept ι κ w w1) (h : Ends P nr ds0 B κ a1 w1 r e a' w') : Ends P nr ds0 B ι a w r e a' w' := by
  obtain ⟨q0, μ, q1, q2, q3, q4, q5⟩ := h
  exact ⟨q0, μ, q1, by rw [q2, h1], q3, q4, h3.trans q5⟩
omit hf hcall heff in
theorem post_ends {B : Nat} {ι : Inj} {a a' : Act} {w w' : World} {H H1 : Hp} {T1 : Tm} (hW : WR P ι H w) (hm : Marked nr ds0 B w a.defers) (h : Post P ι a w T1 H1 a' w') : Ends P nr ds0 B ι a w (.norm, T1, H1) .normal a' w' := by
  obtain ⟨κ, q1, q2, q3, q4, q5⟩ := h
  exact ⟨rfl, κ, q1, q2, by rw [q3]; exact hm.kept hW q5, q4, q5⟩

omit hf hcall heff in
theorem encL_ok {ι : Inj} {T : Tm} {x : Array Value} (h : TmR ι T x) : ∀ (l : List Nat) (u : Value), u ∈ encL T l → ∀ t v, u = .tuple #[.int .i64 (Int.ofNat t), v] → ∃ v', x[t]? = some v' ∧ VR ι v v'
  | [], u, hu, _, _, _ => by cases hu
  | k :: l, u, hu, t, v, e => by
    unfold encL at hu
    split at hu
    · rename_i v1 hv1
      rcases List.mem_cons.1 hu with rfl | hu
      · simp only [Value.tuple.injEq, Array.mk.injEq, List.cons.injEq, Value.int.injEq, true_and, and_true, Int.ofNat.injEq] at e
        obtain ⟨rfl, rfl⟩ := e
        exact h _ _ hv1
      · exact encL_ok h l u hu t v e
    · exact encL_ok h l u hu t v e
omit hf hcall heff in
theorem encT_ok {ι : Inj} {T : Tm} {x : Array Value} (h : TmR ι T x) : TsR ι (encT T) x := fun i t v hi =>
  encL_ok h _ _ (by have := Array.mem_of_getElem? hi; simpa [encT] using this) t v rfl

omit hf hcall heff in
theorem szOps_ok {N : Nat} {l : List Oper} (h : szOps N l = true) : ∀ o ∈ l, ∀ d, o.dst = some d → d < N := by
  intro o ho d hd
  have := List.all_eq_true.1 h o ho
  rw [hd] at this
  simpa [Nat.blt_eq] using this

omit heff in
theorem range_ok {F : Fence} (hw : Wide F) (hro : F.round = none) {m B : Nat} {g : Operand} {ps : Array Tmp} {x y : Code} {T : Tm} {H : Hp} {r : Out × Tm × Hp} (hr : rangeA P call g ps x y T H = some r) {ι : Inj} {a : Act} {w : World}
    (hsz : szCode a.tmps.size (.rangeFunc g ps x y) = true) (hT : TmR ι T a.tmps) (hW : WR P ι H w) (hm : Marked false ds0 B w a.defers) (hB : B ≤ w.heap.size) : (Code.rangeFunc g ps x y).wpIn F m P (Ends P false ds0 B ι a w r) a w := by
  simp only [szCode, Bool.and_eq_true] at hsz
  unfold rangeA at hr
  split at hr <;> try cases hr
  rename_i hnr
  split at hr <;> try cases hr
  rename_i f first captured hg
  split at hr <;> try cases hr
  rename_i body hbody
  split at hr <;> try cases hr
  rename_i v H2 hc
  have hv := ev_ok hT g _ hg
  generalize hρ : a.eval g = u at hv
  cases hv with
  | @fn _ _ x' _ y' _ h1 h2 h3 h4 =>
  obtain ⟨fn0, hfn, hfb⟩ := Option.bind_eq_some_iff.1 hbody
  have hnm : fn0.name ≠ "runtime.NumGoroutine" := by simpa using hf.nn f fn0 hfn
  obtain ⟨hW0, hk0⟩ := wr_alloc hW (.deferred (some []))
  have hm0 := hm.more hB
  refine wpIn_rangeFunc fun fn _ => ?_
  obtain ⟨hW1, hk1⟩ := hW0.push (o := .loop { state := .ready, pending := none, fn := 0, tmps := encT T, params := ps, assign := x, body := y, defers := 0 })
    (o' := .loop { state := .ready, pending := none, fn := fn, tmps := a.tmps, params := ps, assign := x, body := y, defers := w.heap.size }) (n := 0) (z := 0) (e := 0)
    ⟨rfl, rfl, encT_ok hT, rfl, rfl, rfl, hsz.2.1, hsz.2.2, hsz.1⟩
  have hm1 := hm0.kept hW0 hk1
  rw [World.size_alloc] at hW1 hk1
  have henter := run_enterLoop_outer (P := P) (w := w) fn a.tmps ps x y
  generalize hw1 : (w.alloc (.deferred (some []))).alloc (.loop { state := .ready, pending := none, fn := fn, tmps := a.tmps, params := ps, assign := x, body := y, defers := w.heap.size }) = w1 at henter hW1 hk1 hm1
  refine ⟨w.heap.size + 1, [mkD w.heap.size], w1, { target := .fn (.func f) y', args := x' ++ #[.func (.yield (w.heap.size + 1)) #[] #[]] }, w1, f, x' ++ #[.func (.yield (w.heap.size + 1)) #[] #[]] ++ y', w1, by rw [hro]; exact henter, ?_, fun f' _ => hw.fn f', ?_, fun h => (by rw [hw.depth] at h; cases h), ?_⟩
  · have hcst : ∀ u, a.eval (.const u) = u := fun _ => rfl
    simp [resolve, hρ, Deferred.ofValue, hcst]
  · simp [invoke, callFunc, hfn, hnm, hfb]
  have hb1 : BR (upd ι H.next (.live (w.heap.size + 1) 0 0 0 0)) H.next (w.heap.size + 1) := by simp [BR]
  have hle : ι.le (upd ι H.next (.live (w.heap.size + 1) 0 0 0 0)) := hk1.le
  have hargs : AsR (upd ι H.next (.live (w.heap.size + 1) 0 0 0 0)) (first ++ #[.func (.yield H.next) #[] #[]] ++ captured) (x' ++ #[.func (.yield (w.heap.size + 1)) #[] #[]] ++ y') :=
    AsR.append (AsR.append ⟨h1, fun i h h' => (h2 i h h').mono hle⟩ (AsR.one (.yield hb1))) ⟨h3, fun i h h' => (h4 i h h').mono hle⟩
  refine CallsIn.mono (hcall _ _ _ _ hc _ _ hW1 F hw (m - 1) _ hargs) ?_
  rintro e w3 ⟨μ, v', rfl, hvr, hW3, hk3⟩
  unfold endA at hr
  split at hr <;> try cases hr
  rename_i lp hlp
  have hμ : μ H.next = .live (w.heap.size + 1) 0 0 0 0 := by
    rcases hk3.le H.next (by simp) with e | e
    · simpa using e
    · rw [hW3.dead _ e] at hlp; cases hlp
  obtain ⟨o, o', g1, g2, g3⟩ := hW3.live _ _ _ _ _ _ hμ
  rw [hlp] at g1; cases g1
  cases o' <;> simp only [OR] at g3
  rename_i lp'
  obtain ⟨r1, r2, r3, r4, r5, r6, r7, r8, r9⟩ := g3
  have hm3 := hm1.kept hW1 hk3
  have hput := hW3.put hμ (o := .loop { lp with state := .exhausted }) (o' := .loop { lp' with state := .exhausted }) (w' := w3.putObj (w.heap.size + 1) (.loop { lp' with state := .exhausted })) ⟨rfl, r2, r3, r4, r5, r6, r7, r8, r9⟩
    (World.putObj_heap_same (Array.getElem?_eq_some_iff.1 g2).1) (fun j hj => World.putObj_heap_other hj) (by simp [World.putObj]) rfl rfl rfl
  have hm4 := hm3.kept hW3 hput.2
  have hk : Kept ι μ w (w3.putObj (w.heap.size + 1) (.loop { lp' with state := .exhausted })) := ((hk0.trans hk1).trans hk3).trans hput.2
  have fin : ∀ o, Ends P false ds0 B ι a w (o, T, H2.put H.next (.loop { lp with state := .exhausted })) o.ex { a with defers := [mkD w.heap.size] ++ a.defers } (w3.putObj (w.heap.size + 1) (.loop { lp' with state := .exhausted })) :=
    fun o => ⟨rfl, μ, hT.mono hk.le, rfl, hm4, hput.1, hk⟩
  split at hr <;> try cases hr
  rename_i hbusy
  have hend : (Instr.endLoop (w.heap.size + 1)).run P w3 = .ok lp.pending (w3.putObj (w.heap.size + 1) (.loop { lp' with state := .exhausted })) := by
    rw [r2]; exact run_endLoop g2 (by rw [← r1]; exact hbusy)
  generalize w3.putObj (w.heap.size + 1) (.loop { lp' with state := .exhausted }) = w4 at fin hend
  generalize H2.put H.next (.loop { lp with state := .exhausted }) = H4 at fin hr
  refine ⟨_, _, hend, ?_⟩
  split at hr
  · rename_i hp
    cases hr
    rw [hp]
    exact fin .norm
  · rename_i hp
    cases hr
    rw [hp]
    exact wpIn_ret (fin .ret)
  · rename_i id hp
    cases hr
    rw [hp]
    exact wpIn_exit (fin (.exit id))
  · cases hr

theorem code_ok : ∀ (n : Nat) (c : Code) (T : Tm) (H : Hp) (r : Out × Tm × Hp), codeA P call n c T H = some r → ∀ (F : Fence), Wide F → (F.round = none ∨ noRange c = true) → (nr = true → noRange c = true) → ∀ (m B : Nat) (ι : Inj) (a : Act) (w : World),
    szCode a.tmps.size c = true → TmR ι T a.tmps → WR P ι H w → Marked nr ds0 B w a.defers → B ≤ w.heap.size → c.wpIn F m P (Ends P nr ds0 B ι a w r) a w
  | 0, c, T, H, r, h, _, _, _, _, _, _, _, _, _, _, _, _, _, _ => by cases h
  | n + 1, c, T, H, r, h, F, hw, hro, hnr, m, B, ι, a, w, hsz, hT, hW, hm, hB => by
    have self : ∀ o : Out, Ends P nr ds0 B ι a w (o, T, H) o.ex a w := fun o => ⟨rfl, ι, hT, rfl, hm, hW, .refl ι w⟩
    cases c with
    | skip => cases h; exact wpIn_skip (self .norm)
    | label l => cases h; exact wpIn_label (self .norm)
    | exit id => cases h; exact wpIn_exit (self (.exit id))
    | ret => cases h; exact wpIn_ret (self .ret)
    | goto l => cases h
    | refuse s => cases h
    | scope b => cases h
    | rangeFunc g ps x y =>
      cases nr with
      | true => have := hnr rfl; cases this
      | false =>
      rcases hro with hro | hro
      · exact range_ok hf hcall hw hro h hsz hT hW hm hB
      · cases hro
    | region id ops dr =>
      cases dr with
      | true =>
        simp only [codeA] at h
        split at h <;> cases h
        rename_i T1 H1 hops
        exact drawn_ok hf hcall heff hw hops (szOps_ok hsz) hT hW fun a' w' hp => post_ends hW hm hp
      | false =>
        simp only [codeA] at h
        split at h <;> cases h
        rename_i T1 H1 hops
        refine wpIn_region ?_
        rw [List.range_eq_range', ← Array.length_toList]
        exact ops_ok hf hcall hw ops.toList 0 T T1 H H1 ι a w (by simp) hops (szOps_ok hsz) hT hW fun a' w' hp => post_ends hW hm hp
    | seq x y =>
      simp only [szCode, Bool.and_eq_true] at hsz
      simp only [codeA] at h
      have hro1 : F.round = none ∨ noRange x = true := hro.imp id fun h => by simp only [noRange, Bool.and_eq_true] at h; exact h.1
      have hro2 : F.round = none ∨ noRange y = true := hro.imp id fun h => by simp only [noRange, Bool.and_eq_true] at h; exact h.2
      have hnr1 : nr = true → noRange x = true := fun e => by have h := hnr e; simp only [noRange, Bool.and_eq_true] at h; exact h.1
      have hnr2 : nr = true → noRange y = true := fun e => by have h := hnr e; simp only [noRange, Bool.and_eq_true] at h; exact h.2
      refine wpIn_seq ?_
      cases hx : codeA P call n x T H with
      | none => simp [hx] at h
      | some r1 =>
        obtain ⟨o1, T1, H1⟩ := r1
        have ih := code_ok n x T H _ hx F hw hro1 hnr1 m B ι a w hsz.1 hT hW hm hB
        refine wpIn_mono ih ?_
        rintro e a1 w1 ⟨he, κ, q1, q2, q3, q4, q5⟩
        cases o1 with
        | norm =>
          simp only [hx] at h
          subst he
          have ih2 := code_ok n y T1 H1 r h F hw hro2 hnr2 m B κ a1 w1 (by rw [q2]; exact hsz.2) q1 q4 q3 (Nat.le_trans hB q5.size)
          exact wpIn_mono ih2 fun e a' w' hE => hE.trans q2 q5
        | exit i =>
          simp only [hx] at h; cases h; subst he
          exact ⟨rfl, κ, q1, q2, q3, q4, q5⟩
        | ret =>
          simp only [hx] at h; cases h; subst he
          exact ⟨rfl, κ, q1, q2, q3, q4, q5⟩
    | cond cnd x y =>
      simp only [szCode, Bool.and_eq_true] at hsz
      simp only [codeA] at h
      have hro1 : F.round = none ∨ noRange x = true := hro.imp id fun h => by simp only [noRange, Bool.and_eq_true] at h; exact h.1
      have hro2 : F.round = none ∨ noRange y = true := hro.imp id fun h => by simp only [noRange, Bool.and_eq_true] at h; exact h.2
      have hnr1 : nr = true → noRange x = true := fun e => by have h := hnr e; simp only [noRange, Bool.and_eq_true] at h; exact h.1
      have hnr2 : nr = true → noRange y = true := fun e => by have h := hnr e; simp only [noRange, Bool.and_eq_true] at h; exact h.2
      split at h <;> try cases h
      · rename_i hc
        have hv := ev_ok hT cnd _ hc
        generalize hρ : a.eval cnd = u at hv
        cases hv
        exact wpIn_cond_true hρ (code_ok n x T H r h F hw hro1 hnr1 m B ι a w hsz.1 hT hW hm hB)
      · rename_i hc
        have hv := ev_ok hT cnd _ hc
        generalize hρ : a.eval cnd = u at hv
        cases hv
        exact wpIn_cond_false hρ (code_ok n y T H r h F hw hro2 hnr2 m B ι a w hsz.2 hT hW hm hB)
    | block id b =>
      simp only [codeA] at h
      refine wpIn_block ?_
      cases hx : codeA P call n b T H with
      | none => simp [hx] at h
      | some r1 =>
        obtain ⟨o1, T1, H1⟩ := r1
        refine wpIn_mono (code_ok n b T H _ hx F hw hro hnr m B ι a w hsz hT hW hm hB) ?_
        rintro e a1 w1 ⟨he, hp⟩
        subst he
        cases o1 with
        | norm => simp only [hx] at h; cases h; exact ⟨rfl, hp⟩
        | ret => simp only [hx] at h; cases h; exact ⟨rfl, hp⟩
        | exit i =>
          simp only [hx] at h
          show (if i = id then _ else _)
          split at h <;> cases h
          · rename_i e; rw [if_pos e]; exact ⟨rfl, hp⟩
          · rename_i e; rw [if_neg e]; exact ⟨rfl, hp⟩
    | loop b =>
      have key : ∀ (j : Nat) (T : Tm) (H : Hp), codeA P call j (.loop b) T H = some r → j ≤ n + 1 → ∀ (κ : Inj) (a1 : Act) (w1 : World), a1.tmps.size = a.tmps.size → Marked nr ds0 B w1 a1.defers → TmR κ T a1.tmps → WR P κ H w1 → Kept ι κ w w1 →
          ∀ (fr : Frame) (k : List Item) (cs : List Frame), fr.roundOf = F.round → F.fn fr.fn → F.room (cs.length + 1 + m) →
          ∃ e a' w', Ends P nr ds0 B ι a w r e a' w' ∧ ArrivesIn (Machine.fenced P F) P (lone (fr.atR a1 (.code b :: .inLoop b :: k)) cs w1) fr k cs e a' w' := by
        intro j
        induction j with
        | zero => intro T H h; cases h
        | succ j ihj =>
          intro T H h hj κ a1 w1 e1 e2 hT1 hW1 hk1
          simp only [codeA] at h
          cases hx : codeA P call j b T H with
          | none => simp [hx] at h
          | some r1 =>
            obtain ⟨o1, T1, H1⟩ := r1
            have ih := code_ok j b T H _ hx F hw hro hnr m B κ a1 w1 (by rw [e1]; exact hsz) hT1 hW1 e2 (Nat.le_trans hB hk1.size)
            refine loop_round (fun a2 w2 => o1 = .norm ∧ ∃ μ, TmR μ T1 a2.tmps ∧ a2.tmps.size = a.tmps.size ∧ Marked nr ds0 B w2 a2.defers ∧ WR P μ H1 w2 ∧ Kept ι μ w w2) ?_ (wpIn_mono ih ?_)
            · rintro a2 w2 ⟨rfl, μ, q1, q2, q3, q4, q5⟩
              simp only [hx] at h
              exact ihj T1 H1 h (by omega) μ a2 w2 q2 q3 q1 q4 q5
            · rintro e a2 w2 ⟨he, μ, q1, q2, q3, q4, q5⟩
              subst he
              cases o1 with
              | norm => exact ⟨rfl, μ, q1, by rw [q2, e1], q3, q4, hk1.trans q5⟩
              | exit i => simp only [hx] at h; cases h; exact ⟨rfl, μ, q1, by rw [q2, e1], q3, q4, hk1.trans q5⟩
              | ret => simp only [hx] at h; cases h; exact ⟨rfl, μ, q1, by rw [q2, e1], q3, q4, hk1.trans q5⟩
      intro fr k cs hro hb hr
      obtain ⟨e, a', w', q1, q2⟩ := key (n + 1) T H h (Nat.le_refl _) ι a w rfl hm hT hW (.refl ι w) fr k cs hro hb hr
      exact ⟨e, a', w', q1, .of_steps (.one (fenced_calm hb hr rfl) stepR_loop) q2⟩
end
end
end Go.Proofs.YtgapfnckannnfaaGreatD

namespace Go.Proofs.YtgapfnckannnfaaGreatD
open Go
noncomputable section

theorem szOps_mono {N M : Nat} (h : N ≤ M) {l : List Oper} (k : szOps N l = true) : szOps M l = true := by
  refine List.all_eq_true.2 fun o ho => ?_
  have := List.all_eq_true.1 k o ho
  split at this
  · rw [Nat.blt_eq] at this ⊢; omega
  · rfl
theorem szCode_mono {N M : Nat} (h : N ≤ M) : ∀ (c : Code), szCode N c = true → szCode M c = true
  | .region _ ops _, k => szOps_mono h k
  | .seq a b, k => by simp only [szCode, Bool.and_eq_true] at k ⊢; exact ⟨szCode_mono h a k.1, szCode_mono h b k.2⟩
  | .cond _ a b, k => by simp only [szCode, Bool.and_eq_true] at k ⊢; exact ⟨szCode_mono h a k.1, szCode_mono h b k.2⟩
  | .rangeFunc _ ps a b, k => by
    simp only [szCode, Bool.and_eq_true] at k ⊢
    exact ⟨List.all_eq_true.2 fun t ht => by have := List.all_eq_true.1 k.1 t ht; rw [Nat.blt_eq] at this ⊢; omega, szCode_mono h a k.2.1, szCode_mono h b k.2.2⟩
  | .block _ b, k => szCode_mono (c := b) h k
  | .loop b, k => szCode_mono (c := b) h k
  | .scope b, k => szCode_mono (c := b) h k
  | .skip, _ => rfl
  | .exit _, _ => rfl
  | .label _, _ => rfl
  | .goto _, _ => rfl
  | .ret, _ => rfl
  | .refuse _, _ => rfl
/-- Each function has as many temporaries as it names. -/
def Sized (P : Program) : Prop := ∀ (f : FuncId) (fn : Func) (c : Code), P.funcs[f]? = some fn → fn.body = some c → szCode fn.ntmps c = true

theorem tget_skel {α : Type} : ∀ (n t : Nat), tget (skel n : Tr α) t = none
  | 0, _ => rfl
  | n + 1, t => by
    have e : tget (.node none (skel n) (skel n) : Tr α) t = Bool.rec (motive := fun _ => Option α) (Bool.rec (motive := fun _ => Option α) (tget (skel n) (Nat.sub (Nat.div t 2) 1)) (tget (skel n) (Nat.div t 2)) (Nat.beq (Nat.mod t 2) 1)) none (Nat.beq t 0) := rfl
    show tget (.node none (skel n) (skel n) : Tr α) t = none
    rw [e, tget_skel n, tget_skel n]
    cases Nat.beq t 0
    · cases Nat.beq (Nat.mod t 2) 1 <;> rfl
    · rfl
theorem init_ok {ι : Inj} : ∀ (l : List Value) (i : Nat) (T : Tm) (x : Array Value), TmR ι T x → (∀ j (v : Value), l[j]? = some v → ∃ v', x[i + j]? = some v' ∧ VR ι v v') → TmR ι (initA i l T) x
  | [], _, _, _, h, _ => h
  | v :: l, i, T, x, h, hl => by
    refine init_ok l (i + 1) _ x (fun t u hu => ?_) (fun j u hj => by have := hl (j + 1) u (by simpa using hj); rwa [show i + (j + 1) = i + 1 + j by omega] at this)
    rcases tget_tput _ _ _ _ _ hu with ⟨rfl, e⟩ | ⟨_, e⟩
    · cases e; simpa using hl 0 v rfl
    · exact h t u e
/-- A result. -/
def resV (x : Array Value) : ResultVar → Sem Value
  | .tmp t => pure (x.getD t undef)
  | .cell a t => do loadVar t (← asAddr (x.getD a undef))
theorem results_eq (fn : Func) (x : Array Value) : results fn x = (do let vs ← fn.results.mapM (resV x); pure (if h : vs.size = 1 then vs[0] else .tuple vs)) := by
  unfold results
  have e : (fun r : ResultVar => (match r with | .tmp t => pure (x.getD t undef) | .cell a t => do loadVar t (← asAddr (x.getD a undef)) : Sem Value)) = resV x := by
    funext r; cases r <;> rfl
  rw [← e]
  rfl
theorem res_ok {P : Program} {ι : Inj} {T : Tm} {x : Array Value} (h : TmR ι T x) {H : Hp} {w : World} (hW : WR P ι H w) : ∀ (l : List ResultVar) (vs : List Value), resA P T H l = some vs →
    ∃ vs' : List Value, (l.mapM (resV x)).run P w = .ok vs' w ∧ AsR ι vs.toArray vs'.toArray
  | [], vs, hr => by simp [resA] at hr; subst hr; exact ⟨[], rfl, .nil⟩
  | .cell a t :: l, vs, hr => by
    unfold resA at hr
    split at hr <;> try cases hr
    rename_i p hp
    split at hr <;> try cases hr
    rename_i v hv
    split at hr <;> cases hr
    rename_i k hk
    obtain ⟨p', h1, h2⟩ := h a p hp
    obtain ⟨v', h5, h6⟩ := ld_ok hW h2 hv
    obtain ⟨vs', h3, h4⟩ := res_ok h hW l k hk
    have hl : (do loadVar t (← asAddr p') : Sem Value).run P w = .ok v' w := by
      rw [← h5]
      unfold ldA at hv
      split at hv <;> try cases hv
      cases h2 with
      | ptr _ => simp [Instr.loadAt, Instr.sureAddr, asAddr]
    refine ⟨v' :: vs', ?_, ?_⟩
    · have hr : (resV x (.cell a t)).run P w = .ok v' w := by rw [← hl]; simp [resV, Array.getD_eq_getD_getElem?, h1]
      simp [List.mapM_cons, hr, h3]
    · simpa using (AsR.one h6).append h4
  | .tmp t :: l, vs, hr => by
    unfold resA at hr
    split at hr <;> try cases hr
    rename_i v hv
    split at hr <;> cases hr
    rename_i k hk
    obtain ⟨v', h1, h2⟩ := h t v hv
    obtain ⟨vs', h3, h4⟩ := res_ok h hW l k hk
    refine ⟨v' :: vs', ?_, ?_⟩
    · simp [List.mapM_cons, resV, h3, Array.getD_eq_getD_getElem?, h1]
    · simpa using (AsR.one h2).append h4
theorem ret_ok {P : Program} {ι : Inj} {T : Tm} {x : Array Value} (h : TmR ι T x) {H : Hp} {w : World} (hW : WR P ι H w) {fn : Func} {v : Value} (hr : retA P T H fn.results.toList = some v) : ∃ v', (results fn x).run P w = .ok v' w ∧ VR ι v v' := by
  unfold retA at hr
  have key : ∀ vs, resA P T H fn.results.toList = some vs → ∃ vs' : List Value, (results fn x).run P w = .ok (if h : vs'.toArray.size = 1 then vs'.toArray[0] else .tuple vs'.toArray) w ∧ AsR ι vs.toArray vs'.toArray := by
    intro vs hvs
    obtain ⟨vs', h1, h2⟩ := res_ok h hW _ _ hvs
    refine ⟨vs', ?_, h2⟩
    rw [results_eq, Array.mapM_eq_mapM_toList]
    simp only [Sem.run_bind, Sem.run_map, h1, Result.andThen_ok]
    rfl
  split at hr
  · rename_i u hvs
    cases hr
    obtain ⟨vs', h1, h2⟩ := key _ hvs
    have hs := h2.1
    have h1s : vs'.toArray.size = 1 := by rw [← hs]; rfl
    refine ⟨_, h1, ?_⟩
    rw [dif_pos h1s]
    exact h2.2 0 (by simp) (by omega)
  · rename_i l hne hvs
    cases hr
    obtain ⟨vs', h1, h2⟩ := key _ hvs
    have hs := h2.1
    have h1s : ¬ vs'.toArray.size = 1 := by
      intro e
      rw [← hs] at e
      match l, e with
      | [u], _ => exact hne u rfl
    refine ⟨_, h1, ?_⟩
    rw [dif_neg h1s]
    exact .tuple h2.1 h2.2
  · cases hr

theorem args_ok {ι : Inj} {as0 as' : Array Value} {k : Nat} (ha : AsR ι as0 as') : TmR ι (initA 0 as0.toList (skel 10)) (as' ++ Array.replicate k undef) := by
  refine init_ok _ 0 _ _ (fun t v hv => by rw [tget_skel] at hv; cases hv) fun j u hj => ?_
  obtain ⟨u', h1, h2⟩ := ha.get (i := j) (v := u) (by simpa using hj)
  have hj' : j < as'.size := (Array.getElem?_eq_some_iff.1 h1).1
  exact ⟨u', by rw [Nat.zero_add, Array.getElem?_append_left hj', h1], h2⟩

/-- What is deferred. -/
inductive Dfs (ι : Inj) : Dfr → List Deferred → Prop where
  | nil : Dfs ι [] []
  | cons {f : FuncId} {as0 cap' args' : Array Value} {D : Dfr} {ds : List Deferred} : AsR ι as0 (args' ++ cap') → Dfs ι D ds → Dfs ι ((f, as0) :: D) ({ target := .fn (.func f) cap', args := args' } :: ds)
theorem Dfs.mono {ι κ : Inj} (h : ι.le κ) {D : Dfr} {ds : List Deferred} (k : Dfs ι D ds) : Dfs κ D ds := by
  induction k with
  | nil => exact .nil
  | cons a _ ih => exact .cons ⟨a.1, fun i x y => (a.2 i x y).mono h⟩ ih
def PostD (P : Program) (ι : Inj) (a : Act) (w : World) (T : Tm) (H : Hp) (D : Dfr) (a' : Act) (w' : World) : Prop :=
  ∃ κ, TmR κ T a'.tmps ∧ a'.tmps.size = a.tmps.size ∧ Dfs κ D a'.defers ∧ WR P κ H w' ∧ Kept ι κ w w'
theorem PostD.trans {P : Program} {ι κ : Inj} {a a1 a' : Act} {w w1 w' : World} {T : Tm} {H : Hp} {D : Dfr} (h1 : a1.tmps.size = a.tmps.size) (h3 : Kept ι κ w w1) (h : PostD P κ a1 w1 T H D a' w') : PostD P ι a w T H D a' w' := by
  obtain ⟨μ, q1, q2, q3, q4, q5⟩ := h
  exact ⟨μ, q1, by rw [q2, h1], q3, q4, h3.trans q5⟩

section
variable {P : Program} (hf : Fine P) {call : Tg → Hp → Option (Value × Hp)} (hcall : CallOK P call)
include hf hcall
theorem opsD_ok {F : Fence} (hw : Wide F) (hro : F.round = none) {m : Nat} {ops : Array Oper} {Q : Exit → Act → World → Prop} :
    ∀ (l : List Oper) (k : Nat) (T T' : Tm) (H H' : Hp) (D D' : Dfr) (ι : Inj) (a : Act) (w : World), (∀ j, l[j]? = ops[k + j]?) → opsD P call ops l T H D = some (T', H', D') →
      (∀ o ∈ l, ∀ d, o.dst = some d → d < a.tmps.size) → TmR ι T a.tmps → WR P ι H w → Dfs ι D a.defers → (∀ a' w', PostD P ι a w T' H' D' a' w' → Q .normal a' w') → wpOpsIn F m P ops Q (List.range' k l.length) a w
  | [], k, T, T', H, H', D, D', ι, a, w, _, hr, _, hT, hW, hD, hQ => by
    simp only [opsD, Option.some.injEq, Prod.mk.injEq] at hr
    obtain ⟨rfl, rfl, rfl⟩ := hr
    exact hQ a w ⟨ι, hT, rfl, hD, hW, .refl ι w⟩
  | o :: l, k, T, T', H, H', D, D', ι, a, w, hl, hr, hd, hT, hW, hD, hQ => by
    have h0 : ops[k]? = some o := by simpa using (hl 0).symm
    have hl' : ∀ j, l[j]? = ops[k + 1 + j]? := fun j => by have := hl (j + 1); simpa [Nat.add_assoc, Nat.add_comm 1 j] using this
    have hd0 : ∀ i, o.dst = some i → i < a.tmps.size := fun i hi => hd o (by simp) i hi
    simp only [opsD] at hr
    simp only [List.length_cons, List.range'_succ]
    rw [wpOpsIn_cons]
    split at hr
    · rename_i c hop
      split at hr <;> try cases hr
      rename_i hg
      split at hr <;> try cases hr
      rename_i d hda
      unfold deferA at hda
      split at hda <;> try cases hda
      rename_i fv hcal
      split at hda <;> try cases hda
      rename_i f first captured hev
      split at hda <;> cases hda
      rename_i as0 hevs
      have hv := ev_ok hT fv _ hev
      generalize hρ : a.eval fv = u at hv
      cases hv with
      | @fn _ _ x' _ y' _ h1 h2 h3 h4 =>
      have hargs : AsR ι as0.toArray (c.args.map a.eval) := by
        have := evs_ok (ρ := a.eval) (fun x u hx => ev_ok hT x u hx) hevs
        rwa [show (c.args.toList.map a.eval).toArray = c.args.map a.eval by apply Array.ext'; simp] at this
      unfold wpOpIn
      simp only [h0]
      have hwant : Region.wanted o (yielded ops a.tmps) = true := by simp [Region.wanted, hg]
      rw [hwant, if_pos rfl]
      refine ⟨fun f _ => hw.fn f, ?_⟩
      have hsem : (o.semAt F.round a.eval).run P w = .ok (.defer { target := .fn (.func f) y', args := x' ++ c.args.map a.eval }) w := by
        rw [hro, Oper.semAt_none]
        simp [execOp, hop, resolve, hcal, hρ, Deferred.ofValue]
      rw [hsem, Oper.uponIn_defer]
      refine opsD_ok hw hro l (k + 1) _ T' H H' _ D' ι _ w hl' hr (fun o' ho' d he => by rw [put_size]; exact hd o' (by simp [ho']) d he) (TmR.put (a := { a with defers := { target := .fn (.func f) y', args := x' ++ c.args.map a.eval } :: a.defers }) hT hd0 (undef_ok ι)) hW ?_ ?_
      · rw [put_defers]
        refine .cons ?_ hD
        exact AsR.append (AsR.append ⟨h1, h2⟩ hargs) ⟨h3, h4⟩
      · rintro a' w' ⟨μ, q1, q2, q3, q4, q5⟩
        exact hQ a' w' ⟨μ, q1, by rw [q2, put_size], q3, q4, q5⟩
    · split at hr <;> try cases hr
      rename_i v H1 hst
      refine step_ok hf hcall hw h0 hst (fun x u hx _ => ev_ok hT x u hx) (fun b hb => want_ok hT hb) hW fun v' κ w1 h2 h3 h4 => ?_
      refine opsD_ok hw hro l (k + 1) _ T' H1 H' D D' κ (a.put o.dst v') w1 hl' hr (fun o' ho' d he => by rw [put_size]; exact hd o' (by simp [ho']) d he) ((hT.mono h4.le).put hd0 h2) h3 (by rw [put_defers]; exact hD.mono h4.le) ?_
      rintro a' w' ⟨μ, q1, q2, q3, q4, q5⟩
      exact hQ a' w' ⟨μ, q1, by rw [q2, put_size], q3, q4, h4.trans q5⟩
variable (heff : CallEff call)
include heff
theorem codeD_ok : ∀ (n : Nat) (c : Code) (T : Tm) (H : Hp) (D : Dfr) (o : Out) (T' : Tm) (H' : Hp) (D' : Dfr), codeD P call n c T H D = some (o, T', H', D') → ∀ (F : Fence), Wide F → F.round = none → noRange c = true → ∀ (m : Nat) (ι : Inj) (a : Act) (w : World),
    szCode a.tmps.size c = true → TmR ι T a.tmps → WR P ι H w → Dfs ι D a.defers → c.wpIn F m P (fun e a' w' => e = o.ex ∧ PostD P ι a w T' H' D' a' w') a w
  | 0, _, _, _, _, _, _, _, _, h, _, _, _, _, _, _, _, _, _, _, _, _ => by cases h
  | n + 1, c, T, H, D, o, T', H', D', h, F, hw, hro, hnr, m, ι, a, w, hsz, hT, hW, hD => by
    simp only [codeD] at h
    split at h
    · split at h <;> cases h
      rename_i o1 T1 H1 hcode
      refine wpIn_mono (code_ok hf hcall heff (nr := true) (ds0 := a.defers) n c T H _ hcode F hw (.inl hro) (fun _ => hnr) m 0 ι a w hsz hT hW ⟨[], rfl, List.nodup_nil, (fun _ h => by cases h), fun _ => rfl⟩ (Nat.zero_le _)) ?_
      rintro e a' w' ⟨he, κ, q1, q2, ⟨rs, r1, _, _, r4⟩, q4, q5⟩
      refine ⟨he, κ, q1, q2, ?_, q4, q5⟩
      rw [r1, r4 rfl]
      exact hD.mono q5.le
    · split at h <;> try cases h
      · rename_i id ops _
        split at h <;> cases h
        rename_i T1 H1 D1 hops
        refine wpIn_region ?_
        rw [List.range_eq_range', ← Array.length_toList]
        exact opsD_ok hf hcall hw hro ops.toList 0 T _ H _ D _ ι a w (by simp) hops (szOps_ok hsz) hT hW hD fun a' w' hp => ⟨rfl, hp⟩
      · rename_i x y _
        simp only [szCode, Bool.and_eq_true] at hsz
        simp only [noRange, Bool.and_eq_true] at hnr
        refine wpIn_seq ?_
        cases hx : codeD P call n x T H D with
        | none => simp [hx] at h
        | some r1 =>
          obtain ⟨o1, T1, H1, D1⟩ := r1
          refine wpIn_mono (codeD_ok n x T H D _ _ _ _ hx F hw hro hnr.1 m ι a w hsz.1 hT hW hD) ?_
          rintro e a1 w1 ⟨he, κ, q1, q2, q3, q4, q5⟩
          subst he
          simp only [hx] at h
          cases o1 with
          | norm =>
            refine wpIn_mono (codeD_ok n y T1 H1 D1 _ _ _ _ h F hw hro hnr.2 m κ a1 w1 (by rw [q2]; exact hsz.2) q1 q4 q3) ?_
            rintro e a' w' ⟨he, hp⟩
            exact ⟨he, hp.trans q2 q5⟩
          | exit i => cases h; exact ⟨rfl, κ, q1, q2, q3, q4, q5⟩
          | ret => cases h; exact ⟨rfl, κ, q1, q2, q3, q4, q5⟩
      · rename_i cnd x y _
        simp only [szCode, Bool.and_eq_true] at hsz
        simp only [noRange, Bool.and_eq_true] at hnr
        split at h <;> try cases h
        · rename_i hc
          have hv := ev_ok hT cnd _ hc
          generalize hρ : a.eval cnd = u at hv
          cases hv
          exact wpIn_cond_true hρ (codeD_ok n x T H D _ _ _ _ h F hw hro hnr.1 m ι a w hsz.1 hT hW hD)
        · rename_i hc
          have hv := ev_ok hT cnd _ hc
          generalize hρ : a.eval cnd = u at hv
          cases hv
          exact wpIn_cond_false hρ (codeD_ok n y T H D _ _ _ _ h F hw hro hnr.2 m ι a w hsz.2 hT hW hD)
      · rename_i id b _
        refine wpIn_block ?_
        cases hx : codeD P call n b T H D with
        | none => simp [hx] at h
        | some r1 =>
          obtain ⟨o1, T1, H1, D1⟩ := r1
          refine wpIn_mono (codeD_ok n b T H D _ _ _ _ hx F hw hro hnr m ι a w hsz hT hW hD) ?_
          rintro e a1 w1 ⟨he, hp⟩
          subst he
          simp only [hx] at h
          cases o1 with
          | norm => cases h; exact ⟨rfl, hp⟩
          | ret => cases h; exact ⟨rfl, hp⟩
          | exit i =>
            dsimp only at h
            show (if i = id then _ else _)
            split at h <;> cases h
            · rename_i e; rw [if_pos e]; exact ⟨rfl, hp⟩
            · rename_i e; rw [if_neg e]; exact ⟨rfl, hp⟩
/-- A deferred call: it leaves the mode of the frame below alone. -/
theorem late_ok (hs : Sized P) {n : Nat} {f : FuncId} {fn : Func} {c : Code} (hfn : P.funcs[f]? = some fn) (hc : fn.body = some c) (hnr : noRange c = true) {as0 as' : Array Value} {H H1 : Hp} {T : Tm} {o : Out} {v : Value}
    (h : codeA P call n c (initA 0 as0.toList (skel 10)) H = some (o, T, H1)) (ho : o = .norm ∨ o = .ret) (hret : retA P T H1 fn.results.toList = some v) {ι : Inj} {w : World} (hW : WR P ι H w) (ha : AsR ι as0 as') {F : Fence} (hF : Wide F) (hro : F.round = none) {m : Nat} {u : FrameMode} :
    CallsDIn F m P f as' u w fun e u' w' => u' = u ∧ RetR P ι w v H1 e w' := by
  have hsz : szCode (as' ++ Array.replicate (fn.ntmps - as'.size) undef).size c = true := szCode_mono (by simp; omega) c (hs f fn c hfn hc)
  refine callsDIn_of_wp hfn hc (hF.fn f) (wpIn_mono (code_ok hf hcall heff (nr := true) (ds0 := []) n c _ H _ h F hF (.inl hro) (fun _ => hnr) m 0 ι { tmps := as' ++ Array.replicate (fn.ntmps - as'.size) undef, defers := [] } w hsz (args_ok ha) hW ⟨[], rfl, List.nodup_nil, (fun _ h => by cases h), fun _ => rfl⟩ (Nat.zero_le _)) ?_) hro
  rintro e a' w' ⟨he, κ, q1, q2, ⟨rs, r1, _, _, r4⟩, q4, q5⟩
  subst he
  have hd : a'.defers = [] := by rw [r1, r4 rfl]; rfl
  obtain ⟨v', s1, s2⟩ := ret_ok q1 q4 hret
  rcases ho with rfl | rfl
  · exact ⟨hd, v', s1, κ, v', rfl, s2, q4, q5⟩
  · exact ⟨hd, v', s1, κ, v', rfl, s2, q4, q5⟩
theorem late_all (hs : Sized P) {F : Fence} (hF : Wide F) (hro : F.round = none) {m n : Nat} {fn : Func} {tmps : Array Value} {R : Ending → World → Prop} : ∀ (D : Dfr) (ds : List Deferred) (H H' : Hp) (ι : Inj) (w : World), runD P call n D H = some H' → Dfs ι D ds → WR P ι H w →
    (∀ κ w', WR P κ H' w' → Kept ι κ w w' → ∃ v, (results fn tmps).run P w' = .ok v w' ∧ R (.returned v) w') → LeavesInM F m P fn tmps R ds .returning w
  | [], ds, H, H', ι, w, h, hd, hW, hK => by
    cases hd
    cases h
    exact hK ι w hW (.refl ι w)
  | (f, as0) :: D, ds, H, H', ι, w, h, hd, hW, hK => by
    cases hd with
    | @cons _ _ cap' args' _ ds' hargs hrest =>
    simp only [runD] at h
    split at h <;> try cases h
    rename_i fn1 hfn
    split at h <;> try cases h
    rename_i c hc
    split at h <;> try cases h
    rename_i hnn
    simp only [Bool.and_eq_true] at hnn
    have hnm := hf.nn f fn1 hfn
    have main : ∀ o T H1 v, codeA P call n c (initA 0 as0.toList (skel 10)) H = some (o, T, H1) → (o = .norm ∨ o = .ret) → retA P T H1 fn1.results.toList = some v → runD P call n D H1 = some H' →
        LeavesInM F m P fn tmps R ({ target := .fn (.func f) cap', args := args' } :: ds') .returning w := by
      intro o T H1 v h1 h2 h3 h4
      refine ⟨by simp, .inr ⟨fun h => (by rw [hF.depth] at h; cases h), .func f, cap', f, args' ++ cap', rfl, ?_, fun g _ => hF.fn g, ?_⟩⟩
      · simp [invoke, callFunc, hfn, hc]; simpa using hnm
      · refine CallsDIn.mono (late_ok hf hcall heff hs hfn hc hnn.2 h1 h2 h3 hW hargs hF hro) ?_
        rintro e u' w' ⟨rfl, κ, v', rfl, s1, s2, s3⟩
        exact late_all hs hF hro D ds' H1 H' κ w' h4 (hrest.mono s3.le) s2 fun μ w2 k1 k2 => hK μ w2 k1 (s3.trans k2)
    split at h <;> try cases h
    rename_i o T H1 hne hcode
    split at h <;> try cases h
    rename_i v hret
    refine main o T H1 v hcode ?_ hret h
    cases o with
    | norm => exact .inl rfl
    | ret => exact .inr rfl
    | exit i => exact absurd rfl (hne i)
end
end
end Go.Proofs.YtgapfnckannnfaaGreatD

namespace Go.Proofs.YtgapfnckannnfaaGreatD
open Go
noncomputable section

/-! ### a function's end -/
theorem leaves_ok {P : Program} {F : Fence} {n B : Nat} {fn : Func} {tmps : Array Value} {R : Ending → World → Prop} {J : World → Prop} (hJ : ∀ w r x, J w → B ≤ r → w.heap[r]? = some (.deferred x) → J (w.putObj r (.deferred none)))
    (hfin : ∀ w, J w → ∃ v, (results fn tmps).run P w = .ok v w ∧ R (.returned v) w) : ∀ (rs : List Nat) (w : World), rs.Nodup → (∀ r ∈ rs, B ≤ r ∧ w.heap[r]? = some (.deferred (some []))) → J w → LeavesInM F n P fn tmps R (rs.map mkD) .returning w
  | [], w, _, _, h => hfin w h
  | r :: rs, w, hn, hr, h => by
    obtain ⟨h1, h2⟩ := hr r (by simp)
    obtain ⟨hn1, hn2⟩ := List.nodup_cons.1 hn
    refine ⟨by simp, .inl ⟨r, _, rfl, run_takeDeferred h2, leaves_ok hJ hfin rs _ hn2 (fun k hk => ?_) (hJ w r _ h h1 h2)⟩⟩
    obtain ⟨q1, q2⟩ := hr k (by simp [hk])
    exact ⟨q1, by rw [World.putObj_heap_other (fun (e : k = r) => hn1 (by rw [← e]; exact hk))]; exact q2⟩
theorem shut_ok {P : Program} {ι κ : Inj} {H : Hp} {w0 w : World} (hW : WR P κ H w) (hk : Kept ι κ w0 w) {r : Nat} {x : Option (List Deferred)} (hB : w0.heap.size ≤ r) (hr : w.heap[r]? = some (.deferred x)) :
    WR P κ H (w.putObj r (.deferred none)) ∧ Kept ι κ w0 (w.putObj r (.deferred none)) := by
  have hno := not_ours hW hr
  refine ⟨⟨hW.bnd, fun b g s n z e hb => ?_, hW.dead, hW.inj⟩, ⟨hk.os, hk.tape, hk.output, by simpa [World.putObj] using hk.size, fun g hg hn => ?_, hk.img, hk.le⟩⟩
  · obtain ⟨o, o', h1, h2, h3⟩ := hW.live b g s n z e hb
    exact ⟨o, o', h1, by rw [World.putObj_heap_other (fun e1 => hno ⟨b, s, n, z, e, by rw [← e1]; exact hb⟩)]; exact h2, h3⟩
  · rw [World.putObj_heap_other (by omega)]; exact hk.old g hg hn

/-! ### a round -/
theorem dec_ok {ι : Inj} {x x' : Array Value} (h : TsR ι x x') : ∀ (l : List Value) (T : Tm), (∀ u ∈ l, u ∈ x.toList) → TmR ι T x' → TmR ι (decT l T) x'
  | [], T, _, hT => hT
  | u :: l, T, hl, hT => by
    have hl' : ∀ v ∈ l, v ∈ x.toList := fun v hv => hl v (by simp [hv])
    unfold decT
    split
    · rename_i a
      split
      · rename_i t v ha
        refine dec_ok h l _ hl' ?_
        intro k y hy
        rcases tget_tput _ _ _ _ _ hy with ⟨rfl, e⟩ | ⟨_, e⟩
        · cases e
          have : a = #[.int .i64 (Int.ofNat k), v] := by apply Array.ext'; simpa using ha
          subst this
          obtain ⟨i, hi, hx⟩ := List.mem_iff_getElem.1 (hl (.tuple #[.int .i64 (Int.ofNat k), v]) List.mem_cons_self)
          exact h i k v (by rw [Array.getElem?_eq_some_iff]; exact ⟨by simpa using hi, by simpa using hx⟩)
        · exact hT k y e
      · exact dec_ok h l _ hl' hT
    · exact dec_ok h l _ hl' hT
theorem par_ok {ι : Inj} : ∀ (ps : List Tmp) (vs vs' : List Value) (T : Tm) (x : Array Value), TmR ι T x → (∀ t ∈ ps, t < x.size) → vs.length = vs'.length → (∀ i (h : i < vs.length) (h' : i < vs'.length), VR ι vs[i] vs'[i]) →
    TmR ι (parT ps vs T) ((ps.zip vs').foldl (fun tmps (t, a) => tmps.setIfInBounds t a) x) ∧ ((ps.zip vs').foldl (fun tmps (t, a) => tmps.setIfInBounds t a) x).size = x.size
  | [], vs, vs', T, x, hT, _, _, _ => by cases vs <;> simpa [parT] using hT
  | p :: ps, [], vs', T, x, hT, _, hl, _ => by
    have : vs' = [] := by simpa using hl.symm
    subst this
    simpa [parT] using hT
  | p :: ps, v :: vs, [], T, x, hT, _, hl, _ => by simp at hl
  | p :: ps, v :: vs, v' :: vs', T, x, hT, hp, hl, hv => by
    simp only [List.zip_cons_cons, List.foldl_cons, parT]
    have hpx := hp p (by simp)
    have := par_ok ps vs vs' (tput (some v) T p) (x.setIfInBounds p v') (fun t u hu => by
      rcases tget_tput _ _ _ _ _ hu with ⟨rfl, e⟩ | ⟨hne, e⟩
      · cases e
        exact ⟨v', by simp [hpx], hv 0 (by simp) (by simp)⟩
      · obtain ⟨u', h1, h2⟩ := hT t u e
        exact ⟨u', by simp [Ne.symm hne, h1], h2⟩) (fun t ht => by simpa using hp t (by simp [ht])) (by simpa using hl) (fun i h h' => hv (i + 1) (by simpa using h) (by simpa using h'))
    exact ⟨this.1, by rw [this.2]; simp⟩
theorem loop_at {P : Program} {ι κ : Inj} {H : Hp} {w : World} {l g s n z e : Nat} (hι : ι l = .live g s n z e) (hle : ι.le κ) (hW : WR P κ H w) {r : Loop} (hr : H.get l = some (.loop r)) :
    κ l = .live g s n z e ∧ ∃ r', w.heap[g]? = some (.loop r') ∧ OR P κ s n z e (.loop r) (.loop r') := by
  have hk : κ l = .live g s n z e := by
    rcases hle l (by simp [hι]) with e | e
    · rw [e, hι]
    · rw [hW.dead _ e] at hr; cases hr
  obtain ⟨o, o', g1, g2, g3⟩ := hW.live _ _ _ _ _ _ hk
  rw [hr] at g1; cases g1
  cases o' <;> try (simp only [OR] at g3; done)
  exact ⟨hk, _, g2, g3⟩
theorem loop_put {P : Program} {κ : Inj} {H : Hp} {w : World} {l g s n z e : Nat} (hκ : κ l = .live g s n z e) (hW : WR P κ H w) {r r' : Loop} (hg : w.heap[g]? = some (.loop r')) (h : OR P κ s n z e (.loop r) (.loop r')) (t : LoopState) (p : Option Code) :
    WR P κ (H.put l (.loop { r with state := t, pending := p })) (w.putObj g (.loop { r' with state := t, pending := p })) ∧ Kept κ κ w (w.putObj g (.loop { r' with state := t, pending := p })) := by
  simp only [OR] at h
  exact hW.put hκ (o := .loop { r with state := t, pending := p }) (o' := .loop { r' with state := t, pending := p }) ⟨rfl, rfl, h.2.2⟩ (World.putObj_heap_same (Array.getElem?_eq_some_iff.1 hg).1) (fun j hj => World.putObj_heap_other hj) (by simp [World.putObj]) rfl rfl rfl

theorem callA_ok {P : Program} (hf : Fine P) (hs : Sized P) : ∀ n, CallOK P (callA P n)
  | 0 => by intro tg H v H1 h; cases h
  | n + 1 => by
    intro tg H v H1 h ι w hW F hF m
    cases tg with
    | rd l args =>
      intro l' args' hb ha
      simp only [callA] at h
      split at h <;> try cases h
      rename_i r hr
      split at h <;> try cases h
      rename_i hst
      split at h <;> try cases h
      rename_i hsz
      split at h <;> try cases h
      rename_i hnr
      split at h <;> try cases h
      rename_i T1 H2 hc1
      split at h <;> try cases h
      rename_i r1 hr1
      split at h <;> try cases h
      rename_i hst1
      split at h <;> try cases h
      rename_i o T2 H3 hc2
      split at h <;> cases h
      rename_i r2 hr2
      simp only [Bool.and_eq_true] at hnr
      have hu : ι.born l := by constructor <;> (intro e; simp [BR, e] at hb)
      obtain ⟨g, s, k, z, e, o', hlv, hg, hor⟩ := hW.ofGet hr hu
      have : l' = g := by simpa [BR, hlv] using hb
      subst this
      cases o' <;> try (simp only [OR] at hor; done)
      rename_i r'
      have hor' := hor
      simp only [OR] at hor'
      obtain ⟨e1, e2, e3, e4, e5, e6, e7, e8, e9⟩ := hor'
      have hpar := par_ok (ι := ι) r'.params.toList args.toList args'.toList (decT r.tmps.toList (skel 10)) r'.tmps (dec_ok e3 _ _ (fun _ h => h) fun t v hv => by rw [tget_skel] at hv; cases hv)
        (fun t ht => by have := List.all_eq_true.1 e9 t ht; simpa [Nat.blt_eq] using this) (by simpa using ha.1) (fun i h h' => by simpa using ha.2 i (by simpa using h) (by simpa using h'))
      have hzip : ∀ x : Array Value, (r'.params.zip args').foldl (fun tmps (t, a) => tmps.setIfInBounds t a) x = (r'.params.toList.zip args'.toList).foldl (fun tmps (t, a) => tmps.setIfInBounds t a) x := fun x => by
        rw [← Array.foldl_toList, Array.toList_zip]
      refine ⟨r'.fn, _, r'.assign, r'.body, run_yield hg (by rw [← ha.1, hsz, e4]), roundIn_of_wpIn (hF.fn _) ?_⟩
      rw [hzip]
      have hm0 : ∀ w, Marked false [] 0 w [] := fun w => ⟨[], rfl, List.nodup_nil, (fun _ h => by cases h), fun e => by cases e⟩
      rw [e4] at hc1
      have w1 := code_ok hf (callA_ok hf hs n) (callA_eff P n) n r.assign _ H _ hc1 (F.inRound l') (hF.inRound l') (.inr hnr.1) (fun e => by cases e) m 0 ι { tmps := (r'.params.toList.zip args'.toList).foldl (fun tmps (t, a) => tmps.setIfInBounds t a) r'.tmps, defers := [] } w
        (by rw [hpar.2, e5]; exact e7) hpar.1 hW (hm0 w) (Nat.zero_le _)
      rw [← e5, ← e6]
      refine wpIn_mono w1 ?_
      rintro x a1 u1 ⟨rfl, κ, p1, p2, p3, p4, p5⟩
      obtain ⟨hκ, r1', hg1, hor1⟩ := loop_at hlv p5.le p4 hr1
      have hst1' : r1'.state = .ready := by have := hor1; simp only [OR] at this; rw [← this.1]; exact hst1
      obtain ⟨hW2, hk2⟩ := loop_put hκ p4 hg1 hor1 .busy r1.pending
      have hpend : r1.pending = r1'.pending := by have := hor1; simp only [OR] at this; exact this.2.1
      rw [hpend] at hk2 hW2
      have hk2' : Kept κ κ u1 (u1.putObj l' (.loop { r1' with state := .busy })) := hk2
      have hW2' : WR P κ (H2.put l (.loop { r1 with state := .busy })) (u1.putObj l' (.loop { r1' with state := .busy })) := by
        have e : ({ r1 with state := .busy } : Loop) = { r1 with state := .busy, pending := r1'.pending } := by rw [← hpend]
        rw [e]; exact hW2
      refine ⟨_, run_beginRound hg1 hst1', ?_⟩
      have w2 := code_ok hf (callA_ok hf hs n) (callA_eff P n) n r.body T1 _ _ hc2 (F.inRound l') (hF.inRound l') (.inr hnr.2) (fun e => by cases e) m 0 κ a1 (u1.putObj l' (.loop { r1' with state := .busy }))
        (by rw [p2, hpar.2, e6]; exact e8) p1 hW2' (p3.kept p4 hk2') (Nat.zero_le _)
      refine wpIn_mono w2 ?_
      rintro x a2 u2 ⟨rfl, μ, q1, q2, q3, q4, q5⟩
      obtain ⟨hμ, r2', hg2, hor2⟩ := loop_at hκ q5.le q4 hr2
      obtain ⟨hW3, hk3⟩ := loop_put hμ q4 hg2 hor2 (if (jmp o).isNone then .ready else .done) (jmp o)
      have hend := run_endRound (P := P) (w := u2) (jmp o) hg2
      have fin : RetR P ι w (.bool (jmp o).isNone) (H3.put l (.loop { r2 with state := if (jmp o).isNone then .ready else .done, pending := jmp o })) (.returned (.bool (jmp o).isNone)) (u2.putObj l' (.loop { r2' with state := if (jmp o).isNone then .ready else .done, pending := jmp o })) :=
        ⟨μ, _, rfl, .bool _, hW3, (p5.trans (hk2'.trans q5)).trans hk3⟩
      cases o with
      | norm => exact ⟨_, _, hend, fin⟩
      | ret => exact ⟨_, _, hend, fin⟩
      | exit id => exact ⟨_, _, hend, fin⟩
    | fn f args =>
      intro args' ha
      simp only [callA] at h
      split at h <;> try cases h
      rename_i fn hfn
      split at h <;> try cases h
      rename_i c hc
      have hsz := hs f fn c hfn hc
      have hT : TmR ι (initA 0 args.toList (skel 10)) (args' ++ Array.replicate (fn.ntmps - args'.size) undef) := args_ok ha
      have hsz' : szCode (args' ++ Array.replicate (fn.ntmps - args'.size) undef).size c = true := szCode_mono (by simp; omega) c hsz
      split at h
      · have main : ∀ o T H2, codeA P (callA P n) n c (initA 0 args.toList (skel 10)) H = some (o, T, H2) → (o = .norm ∨ o = .ret) → retA P T H2 fn.results.toList = some v → H1 = H2 → CallsIn F m P f args' w (RetR P ι w v H1) := by
          intro o T H2 hcode ho hret hH
          subst hH
          have hwp := code_ok hf (callA_ok hf hs n) (callA_eff P n) (nr := false) (ds0 := []) n c _ H _ hcode F.plain hF.plain (.inl rfl) (fun e => by cases e) m w.heap.size ι { tmps := args' ++ Array.replicate (fn.ntmps - args'.size) undef, defers := [] } w hsz' hT hW ⟨[], rfl, List.nodup_nil, (fun _ h => by cases h), fun e => by cases e⟩ (Nat.le_refl _)
          have : CallsIn F.plain m P f args' w (RetR P ι w v H1) := by
            refine callsIn_of_wp_marks hfn hc (hF.fn f) (wpIn_mono hwp ?_) rfl
            rintro e a' w' ⟨he, κ, q1, q2, ⟨rs, q3, q3', q3'', _⟩, q4, q5⟩
            subst he
            have key : LeavesInM F.plain m P fn a'.tmps (RetR P ι w v H1) a'.defers .returning w' := by
              rw [q3, List.append_nil]
              refine leaves_ok (J := fun u => WR P κ H1 u ∧ Kept ι κ w u) (B := w.heap.size) (fun u r x hu hB hr => shut_ok hu.1 hu.2 hB hr) (fun u hu => ?_) rs w' q3' q3'' ⟨q4, q5⟩
              obtain ⟨v', r1, r2⟩ := ret_ok q1 hu.1 hret
              exact ⟨v', r1, κ, v', rfl, r2, hu.1, hu.2⟩
            rcases ho with rfl | rfl
            · exact key
            · exact key
          exact this
        cases hcode : codeA P (callA P n) n c (initA 0 args.toList (skel 10)) H with
        | none => simp [hcode] at h
        | some r =>
          obtain ⟨o, T, H2⟩ := r
          cases o with
          | exit i => simp [hcode] at h
          | norm =>
            simp only [hcode] at h
            split at h <;> cases h
            rename_i hret
            exact main .norm T _ hcode (.inl rfl) hret rfl
          | ret =>
            simp only [hcode] at h
            split at h <;> cases h
            rename_i hret
            exact main .ret T _ hcode (.inr rfl) hret rfl
      · split at h <;> try cases h
        rename_i hnr
        have main : ∀ o T H2 D, codeD P (callA P n) n c (initA 0 args.toList (skel 10)) H [] = some (o, T, H2, D) → (o = .norm ∨ o = .ret) → runD P (callA P n) n D H2 = some H1 → retA P T H1 fn.results.toList = some v → CallsIn F m P f args' w (RetR P ι w v H1) := by
          intro o T H2 D hcode ho hrun hret
          have hwp := codeD_ok hf (callA_ok hf hs n) (callA_eff P n) n c _ H [] _ _ _ _ hcode F.plain hF.plain rfl hnr m ι { tmps := args' ++ Array.replicate (fn.ntmps - args'.size) undef, defers := [] } w hsz' hT hW .nil
          have : CallsIn F.plain m P f args' w (RetR P ι w v H1) := by
            refine callsIn_of_wp_marks hfn hc (hF.fn f) (wpIn_mono hwp ?_) rfl
            rintro e a' w' ⟨he, κ, q1, q2, q3, q4, q5⟩
            subst he
            have key : LeavesInM F.plain m P fn a'.tmps (RetR P ι w v H1) a'.defers .returning w' := by
              refine late_all hf (callA_ok hf hs n) (callA_eff P n) hs hF.plain rfl D a'.defers H2 H1 κ w' hrun q3 q4 fun μ w2 k1 k2 => ?_
              obtain ⟨v', r1, r2⟩ := ret_ok (q1.mono k2.le) k1 hret
              exact ⟨v', r1, μ, v', rfl, r2, k1, q5.trans k2⟩
            rcases ho with rfl | rfl
            · exact key
            · exact key
          exact this
        unfold endD at h
        split at h <;> try cases h
        rename_i o T H2 D hne hcode
        split at h <;> try cases h
        rename_i H3 hrun
        split at h <;> cases h
        rename_i hret
        refine main o T H2 D hcode ?_ hrun hret
        cases o with
        | norm => exact .inl rfl
        | ret => exact .inr rfl
        | exit i => exact absurd rfl (hne i)

/-- WHAT THE SECOND MACHINE ANSWERS, THE MODEL ANSWERS. -/
theorem det_calls {P : Program} (hf : Fine P) (hs : Sized P) {n : Nat} {f : FuncId} {args args' : Array Value} {H H1 : Hp} {v : Value} (h : callA P n (.fn f args) H = some (v, H1)) {ι : Inj} {w : World} (hW : WR P ι H w) (ha : AsR ι args args') :
    Calls P f args' w (RetR P ι w v H1) := callsIn_wide.1 (callA_ok hf hs n _ _ _ _ h ι w hW Fence.wide ⟨fun _ => trivial, rfl⟩ 0 args' ha)

/-- No memory. -/
def H0 : Hp := { next := 0, tr := Bk.nil }
def ι0 : Inj := fun _ => .unborn
theorem wr0 (P : Program) (w : World) : WR P ι0 H0 w := ⟨fun b => (by simp [ι0, H0]), fun b g s n z e h => (by cases h), fun b h => (by cases h), fun b c g s n z e s' n' z' e' h => (by cases h)⟩
/-- A call without arguments' memory leaves all that there was. -/
theorem det_pure {P : Program} (hf : Fine P) (hs : Sized P) {n : Nat} {f : FuncId} {args : Array Value} {v : Value} (hp : args.toList.all plain = true) (hv : plain v = true) (h : (callA P n (.fn f args) H0).map (·.1) = some v) (w : World) :
    Calls P f args w fun e w' => e = .returned v ∧ w'.os = w.os ∧ w'.tape = w.tape ∧ w'.output = w.output ∧ w.heap.size ≤ w'.heap.size ∧ ∀ k, k < w.heap.size → w'.heap[k]? = w.heap[k]? := by
  obtain ⟨⟨v1, H1⟩, h1, h2⟩ := Option.map_eq_some_iff.1 h
  cases h2
  have ha : AsR ι0 args args := ⟨rfl, fun i a b => plain_ok (List.all_eq_true.1 hp _ (by simp))⟩
  refine (det_calls hf hs h1 (wr0 P w) ha).mono ?_
  rintro e w' ⟨κ, v', rfl, q1, q2, q3⟩
  rw [plain_eq hv q1]
  exact ⟨rfl, q3.os, q3.tape, q3.output, q3.size, fun k hk => q3.old k hk (by rintro ⟨b, s, n, z, e, hb⟩; cases hb)⟩
end
end Go.Proofs.YtgapfnckannnfaaGreatD
