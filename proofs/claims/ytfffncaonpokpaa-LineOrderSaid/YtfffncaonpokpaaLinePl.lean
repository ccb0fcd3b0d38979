/- LinePlays: the walk; no condition but that the calls can be read. -/
import Derived.Test.YtfffncaonpokpaaLineQ
import Derived.Test.YtfffncaonpokpaaLineA
namespace Go.Proofs.Ytfffncaonpokpaa
open Go.RowKit

/-- a slice of calls, each of two numbers, that came in -/
def CallsAt24 (w : World) (A : Option Addr) (ops : List (List Int)) : Prop :=
  ∀ i, i < ops.length → ∃ b off, A = some ⟨b, off, none⟩ ∧ b < w.heap.size ∧ w.cell? ⟨b, off + i * 2, none⟩ = some (.int .i64 ((ops[i]?.getD [])[0]?.getD 0)) ∧ w.cell? ⟨b, off + i * 2 + 1, none⟩ = some (.int .i64 ((ops[i]?.getD [])[1]?.getD 0))

theorem wpList_append_when {P : Program} {w : World} {ops : Array Oper} {rest : List Oper} {o : Oper} {a : Act} {Q : Exit → Act → World → Prop} (hgd : Region.wanted o (yielded ops a.tmps) = true) (s x : Operand) (t : TypeId)
    (ho : o.op = .call { callee := .builtin .append, args := #[s, x], argTypes := #[t, t] })
    (base : Nat) (e : TypeId) (i : TypeInfo) (z : Value) (size bytes : Nat) (ht : P.underlying t = some (.slice e)) (hi : P.info? e = some i) (hz : i.zero = some z)
    (hsize : i.size = size) (hby : i.bytes = bytes) (hzs : z.cells.size = size) (hsz : 0 < size)
    (v : Value) (n : Nat) (xs : List Value) (hs : a.eval s = v) (hown : w.ownsRow base e size v n xs)
    (B : Nat) (A : Option Addr) (m c : Nat) (news : List Value) (hx : a.eval x = .slice A m c) (hr : Reads w B size A m news) (h1 : ∀ u ∈ news, u.oneCell' = true)
    (h63 : n + m ≤ maxLen) (hbytes : (n + m) * bytes ≤ 140737488355328) (hbase : base ≤ w.heap.size)
    (h : ∀ v' w', w'.ownsRow base e size v' (n + m) (xs ++ news) → w.grownBy w' v.ownBlock → (v'.ownBlock = v.ownBlock ∨ v'.ownBlock = some w.heap.size) → wpList P ops Q rest (a.put o.dst v') w') : wpList P ops Q (o :: rest) a w :=
  wpList_step fun _ hK => by
    rw [if_pos hgd]
    exact wp_append_any w s x t ho base e i z size bytes ht hi hz hsize hby hzs hsz v n xs hs hown B A m c news hx hr h1 h63 hbytes hbase fun v' w' h2 h3 h4 => hK _ _ (h v' w' h2 h3 h4)

set_option maxRecDepth 100000 in
set_option maxHeartbeats 4000000 in
theorem linePlays_in (most : Int) (A : Option Addr) (cap : Nat) (ops : List (List Int)) (w : World) (hm1 : 1 ≤ most) (hm2 : most ≤ 32) (h100 : ops.length ≤ 100) (hops : CallsAt24 w A ops) :
    Calls Try.prog 9 #[.int .i64 most, .slice A ops.length cap] w fun e w' => e = .returned (.bool true) ∧ Below w.heap.size w w' := by
  obtain ⟨i0, hi, hz0, hz1, hz2⟩ := info_parts info_int
  have f1 : ¬ (most < 1) := by omega
  have f2 : ¬ (32 < most) := by omega
  have f3 : ¬ (100 < (ops.length : Int)) := by omega
  go_enter Try.func9, Try.ntmps9
  go_wp2_with fail
  refine (lineR_new most hm1 hm2 _).mono ?_
  rintro e w1 ⟨rfl, hI1, hb1⟩
  have HI1 := Lib.hid hI1
  have HB1 := Lib.hid hb1
  clear hI1 hb1
  go_wp2_with fail
  go_loopw [7, 8, 44] (fun v1 v2 i wr => ∃ (k : Nat) (r : Option Nat) (xs ys : List Int), k ≤ ops.length ∧ i = .int .i64 k ∧ Hid (Lst wr w.heap.size (rowOr w.heap.size r) v1 xs ∧ Lst wr w.heap.size (rowOr w.heap.size r) v2 ys ∧ IsLineR wr w.heap.size w.heap.size r most (xs ++ ys) xs.length ∧ Below w.heap.size w wr)) (fun _ _ i _ => ops.length - (intOf i).toNat)
  case atStart => exact ⟨0, none, [], [], by omega, rfl, Lib.hid ⟨⟨none, 0, rfl, Nat.le_refl _, fun h => by simp at h⟩, ⟨none, 0, rfl, Nat.le_refl _, fun h => by simp at h⟩, HI1.out, HB1.out⟩⟩
  case round =>
    obtain ⟨k, r, xs, ys, hk, rfl, HH⟩ := hrel
    by_cases hlt : k < ops.length
    · obtain ⟨hL1, hL2, hI, hb⟩ := HH.out
      obtain ⟨b, off, rfl, hbl, hc0, hc1⟩ := hops k hlt
      have hd0 := (hb.cell (p := ⟨b, off + k * 2, none⟩) hbl).trans hc0
      have hd1 := (hb.cell (p := ⟨b, off + k * 2 + 1, none⟩) hbl).trans hc1
      generalize (ops[k]?.getD [])[0]?.getD 0 = kind at hd0
      generalize (ops[k]?.getD [])[1]?.getD 0 = N at hd1
      clear hc0 hc1 hops
      have hba := (Below.refl wr.heap.size wr).alloc (Nat.le_refl _) (.cells #[.int .i64 kind, .int .i64 N] 29)
      have HIa := Lib.hid (hI.below hba)
      have HLa1 := Lib.hid (hL1.below hba)
      have HLa2 := Lib.hid (hL2.below hba)
      have HBb := Lib.hid (hb.trans (hba.mono hb.size))
      clear hba hI hL1 hL2 hb HH
      go_wp2_with fail
      refine (step24 kind N _ HIa.out HLa1.out HLa2.out hm2).mono ?_
      rintro e w2 ⟨r', v1', v2', xs2, ys2, rfl, hI2, hM1, hM2, ho2⟩
      have hb2 : Below w.heap.size w w2 := HBb.out.trans (Only.below (B := w.heap.size) ho2.1 HBb.out.size (by
        intro j hj
        rcases List.mem_cons.1 hj with e | e
        · omega
        · exact (HIa.out.lt.2 j (by cases r with
            | none => simp at e
            | some q => simp at e; rw [e])).1))
      obtain ⟨A1, c1, rfl, hcc1, _⟩ : ∃ A c, v1' = .slice A xs2.length c ∧ xs2.length ≤ c ∧ True := by obtain ⟨A, c, e, h, _⟩ := hM1; exact ⟨A, c, e, h, trivial⟩
      obtain ⟨A2, c2, rfl, hcc2, _⟩ : ∃ A c, v2' = .slice A ys2.length c ∧ ys2.length ≤ c ∧ True := by obtain ⟨A, c, e, h, _⟩ := hM2; exact ⟨A, c, e, h, trivial⟩
      have hle2 : xs2.length + ys2.length ≤ 32 := by have := hI2.le; rw [List.length_append] at this; omega
      have HI2 := Lib.hid hI2
      have HM1 := Lib.hid hM1
      have HM2 := Lib.hid hM2
      have HB2 := Lib.hid hb2
      clear hI2 hM1 hM2 hb2 ho2 HIa HLa1 HLa2 HBb
      go_wp2_with fail
      refine (line_running _ HI2.out.line).mono ?_
      rintro e w3 ⟨rfl, rfl⟩
      go_wp2_with fail
      refine (line_len _ HI2.out.line).mono ?_
      rintro e w3 ⟨rfl, rfl⟩
      go_wp2_with fail
      refine (list24 _ HI2.out.line (by rw [List.length_append]; omega)).mono ?_
      rintro e w4 ⟨v4, rfl, hv4, hb4⟩
      obtain ⟨A4, c4, rfl, _⟩ := own_form hv4
      have HI4 := Lib.hid (HI2.out.below hb4)
      have HM14 := Lib.hid (HM1.out.below hb4)
      have HM24 := Lib.hid (HM2.out.below hb4)
      have HB4 := Lib.hid (HB2.out.trans (hb4.mono HB2.out.size))
      have HV4 := Lib.hid (intsAt_own hv4)
      clear hv4 hb4 HI2 HM1 HM2 HB2
      go_wp2_with (at_builtin; first
        | (refine wpList_append_when rfl _ _ 34 rfl w4.heap.size 3 i0 (.int .i64 0) 1 8 Try.underlying34 hi hz0 hz1 hz2 rfl (by decide) _ 0 [] rfl (ownsRow_fresh' _ w4.heap.size rfl) w4.heap.size A1 xs2.length c1 (ints xs2) rfl (HM14.out.reads.alloc (Nat.le_refl _) _) ints_one (by unfold maxLen; omega) (by omega) (by simp) ?_; intro va wa howna hgrowa hvba; have hOa : Only [] w4 wa := (Only.refl.alloc (.cells #[] 3)).grown hgrowa (by intro j e; cases e; exact .inr (Nat.le_refl _)); have hsa := hOa.size)
        | (refine wpList_append_when rfl _ _ 34 rfl w4.heap.size 3 i0 (.int .i64 0) 1 8 Try.underlying34 hi hz0 hz1 hz2 rfl (by decide) va _ _ rfl howna w4.heap.size A2 ys2.length c2 (ints ys2) rfl (HM24.out.reads.below (hOa.below (Nat.le_refl _) (by simp))) ints_one (by unfold maxLen; omega) (by omega) (by omega) ?_; intro vb wb hownb hgrowb hvbb; have hOb : Only [] w4 wb := hOa.grown hgrowb (by intro j e; exact .inr (howna.lt j e).1); have hsb := hOb.size; rw [Nat.zero_add, List.nil_append] at hownb; obtain ⟨A5, c5, rfl, _⟩ := own_form hownb))
      have hbb : Below w4.heap.size w4 wb := hOb.below (Nat.le_refl _) (by simp)
      have hab : IntsAt wb A5 (xs2 ++ ys2) := intsAt_own (by rw [show ints (xs2 ++ ys2) = ints xs2 ++ ints ys2 by simp [ints]]; exact hownb)
      refine (same24n wb A4 A5 c4 c5 _ _ (xs2 ++ ys2) (by first | rfl | rw [List.length_append]) (by rw [List.length_append]) (HV4.out.below hbb (Nat.le_refl _)) hab (by rw [List.length_append]; omega)).mono ?_
      rintro e w5 ⟨rfl, n5, rfl⟩
      go_wp2
      go_roundw
      case rel => exact ⟨k + 1, r', xs2, ys2, by omega, by go_num, Lib.hid ⟨(HM14.out.below hbb).drewN n5, (HM24.out.below hbb).drewN n5, (HI4.out.below hbb).drewN n5, below_drewN (HB4.out.trans (hbb.mono HB4.out.size)) n5⟩⟩
      case measure => simp [intOf]; omega
    · obtain rfl : k = ops.length := by omega
      go_wp2_with (go_at_call 14; refine (awake24 _).mono ?_; rintro e w' ⟨rfl, hb'⟩)
      go_ret
      exact ⟨rfl, HH.out.2.2.2.trans (hb'.mono HH.out.2.2.2.size)⟩

set_option maxRecDepth 100000 in
set_option maxHeartbeats 4000000 in
theorem linePlays_any (most : Int) (A : Option Addr) (cap : Nat) (rows : List (List Int)) (w : World) (_hm : (Lit.int .i64 most).wf = true)
    (h : ∀ i, i < rows.length → ∃ b off, A = some ⟨b, off, none⟩ ∧ b < w.heap.size ∧ ∀ j, j < 2 →
      w.cell? ⟨b, off + (i * 2 + j), none⟩ = some (.int .i64 ((rows[i]?.getD [])[j]?.getD 0)) ∧ (Lit.int .i64 ((rows[i]?.getD [])[j]?.getD 0)).wf = true) (_hc : rows.length ≤ cap) :
    Calls Try.prog 9 #[.int .i64 most, .slice A rows.length cap] w fun e w' => e = .returned (.bool true) ∧ Below w.heap.size w w' := by
  have hops : CallsAt24 w A rows := fun i hi => by
    obtain ⟨b, off, h1, h2, h3⟩ := h i hi
    exact ⟨b, off, h1, h2, by have := (h3 0 (by omega)).1; simpa using this, by have := (h3 1 (by omega)).1; simpa [Nat.add_assoc] using this⟩
  clear h
  by_cases h80 : 100 < (rows.length : Int)
  · go_enter Try.func9, Try.ntmps9
    go_wp2_with (go_at_call 14; refine (awake24 _).mono ?_; rintro e w' ⟨rfl, hb'⟩)
    go_ret
    exact ⟨rfl, hb'⟩
  by_cases h1 : most < 1
  · go_enter Try.func9, Try.ntmps9
    go_wp2_with fail
    refine (line_new_no most (.inl h1) _).mono ?_
    rintro e w1 ⟨rfl, rfl⟩
    go_wp2_with (go_at_call 14; refine (awake24 _).mono ?_; rintro e w' ⟨rfl, hb'⟩)
    go_ret
    exact ⟨rfl, hb'⟩
  by_cases h2 : 32 < most
  · go_enter Try.func9, Try.ntmps9
    go_wp2_with fail
    refine (line_new_no most (.inr h2) _).mono ?_
    rintro e w1 ⟨rfl, rfl⟩
    go_wp2_with (go_at_call 14; refine (awake24 _).mono ?_; rintro e w' ⟨rfl, hb'⟩)
    go_ret
    exact ⟨rfl, hb'⟩
  exact linePlays_in most A cap rows w (by omega) (by omega) (by omega) hops

end Go.Proofs.Ytfffncaonpokpaa
