/- Any seed and index have the draw that the document says; of one seed no two indices that part in a bit have one, nor of one index two seeds. Conditions: as each theorem states; the last one has none. -/
import Derived.Laws.Bits64
import Derived.IntWalk
import Derived.Test.YtmldhpnkkkmloaaRows
import Derived.WalkKit
import Derived.ProofKit
import Derived.OpenShut
import Derived.ShutString
import Derived.ChangeOld
import Derived.Below
import Derived.SizedLaws
import Derived.Test.YtmldhpnkkkmloaaCPickDraws1
import Derived.Test.YtmldhpnkkkmloaaCPickDraws2
namespace Go.Proofs.Ytmldhpnkkkmloaa.Pure
open Go.RowKit Go.Proofs.Ytmldhpnkkkmloaa.K Go.Proofs.YtmldhpnkkkmloaaW.PrintWords Go.Proofs.YtmldhpnkkkmloaaW.PrintLast
set_option linter.unusedVariables false

/-- A number that is odd can be divided by, modulo 2^64. -/
theorem mul_inj0 (M c i q : Nat) (h : c * i = M * q + 1) (a b : Nat) (ha : a < M) (hb : b < M) (e : a * c % M = b * c % M) : a = b := by
  have key : ∀ x : Nat, x * c % M * i % M = x % M := by
    intro x
    rw [Nat.mod_mul_mod, Nat.mul_assoc, h, Nat.mul_add, Nat.mul_one, ← Nat.mul_assoc, Nat.mul_comm x, Nat.mul_assoc, Nat.mul_add_mod]
  have h1 := key a
  have h2 := key b
  rw [e, h2] at h1
  rw [Nat.mod_eq_of_lt ha, Nat.mod_eq_of_lt hb] at h1
  exact h1.symm
def InvOK (c i q : Nat) : Bool := c * i == 18446744073709551616 * q + 1
theorem mul_inj (c i q : Nat) (h : InvOK c i q = true) (a b : Nat) (ha : a < 18446744073709551616) (hb : b < 18446744073709551616) (e : a * c % 18446744073709551616 = b * c % 18446744073709551616) : a = b :=
  mul_inj0 18446744073709551616 c i q (by simpa [InvOK] using h) a b ha hb e

theorem inv0 : InvOK 11400714819323198485 17428512612931826493 10771413168148108919 = true := by kernel_rfl
theorem inv1 : InvOK 13787848793156543929 10871156337175269513 8125545580553827436 = true := by kernel_rfl
theorem inv2 : InvOK 10723151780598845931 3573116690164977347 2077064247507883091 = true := by kernel_rfl
theorem shift_inj (s : Nat) (hs : 0 < s) (a b : Nat) (e : a ^^^ a / 2 ^ s = b ^^^ b / 2 ^ s) : a = b := by
  have h : a ^^^ b = (a ^^^ b) / 2 ^ s := by
    rw [← Nat.shiftRight_eq_div_pow, Nat.shiftRight_xor_distrib]
    rw [← Nat.shiftRight_eq_div_pow, ← Nat.shiftRight_eq_div_pow] at e
    have h1 : a ^^^ b = (a ^^^ a >>> s) ^^^ (a >>> s ^^^ b) := by
      rw [← Nat.xor_assoc, Nat.xor_assoc a, Nat.xor_self, Nat.xor_zero]
    rw [h1, e, Nat.xor_comm (a >>> s) b, ← Nat.xor_assoc, Nat.xor_comm b, Nat.xor_assoc (b >>> s), Nat.xor_self, Nat.xor_zero, Nat.xor_comm]
  have h0 : a ^^^ b = 0 := by
    rcases Nat.eq_zero_or_pos (a ^^^ b) with h1 | h1
    · exact h1
    · have : (a ^^^ b) / 2 ^ s < a ^^^ b := Nat.div_lt_self h1 (Nat.one_lt_two_pow (by omega))
      omega
  have := congrArg (· ^^^ b) h0
  simpa [Nat.xor_assoc] using this

theorem shift_inj' (s d : Nat) (hs : 0 < s) (hd : (d == 2 ^ s) = true) (a b : Nat) (e : a ^^^ a / d = b ^^^ b / d) : a = b := by
  have : d = 2 ^ s := by simpa using hd
  subst this
  exact shift_inj s hs a b e
theorem p31 : (2147483648 == 2 ^ 31) = true := by kernel_rfl
theorem p27 : (134217728 == 2 ^ 27) = true := by kernel_rfl
theorem p30 : (1073741824 == 2 ^ 30) = true := by kernel_rfl
def fin (X : Nat) : Nat :=
  let y := (X ^^^ X / 1073741824) * 13787848793156543929 % 18446744073709551616
  let z := (y ^^^ y / 134217728) * 10723151780598845931 % 18446744073709551616
  z ^^^ z / 2147483648
theorem xs_lt (X s : Nat) (hX : X < 18446744073709551616) : X ^^^ X / s < 18446744073709551616 := by
  have : X ^^^ X / s < 2 ^ 64 := Nat.xor_lt_two_pow (by omega) (Nat.lt_of_le_of_lt (Nat.div_le_self _ _) (by omega))
  omega
def st (d c X : Nat) : Nat := (X ^^^ X / d) * c % 18446744073709551616
theorem st_lt (d c X : Nat) : st d c X < 18446744073709551616 := Nat.mod_lt _ (Nat.succ_pos _)
theorem st_inj (s d c i q : Nat) (hs : 0 < s) (hd : (d == 2 ^ s) = true) (hi : InvOK c i q = true) (a b : Nat) (ha : a < 18446744073709551616) (hb : b < 18446744073709551616) (e : st d c a = st d c b) : a = b :=
  shift_inj' s d hs hd a b (mul_inj c i q hi _ _ (xs_lt a d ha) (xs_lt b d hb) e)
theorem fin_st (X : Nat) : fin X = st 134217728 10723151780598845931 (st 1073741824 13787848793156543929 X) ^^^ st 134217728 10723151780598845931 (st 1073741824 13787848793156543929 X) / 2147483648 := rfl
theorem fin_inj (a b : Nat) (ha : a < 18446744073709551616) (hb : b < 18446744073709551616) (e : fin a = fin b) : a = b := by
  rw [fin_st, fin_st] at e
  have e1 := shift_inj' 31 2147483648 (by omega) p31 _ _ e
  have e2 := st_inj 27 134217728 _ _ _ (by omega) p27 inv2 _ _ (st_lt _ _ _) (st_lt _ _ _) e1
  exact st_inj 30 1073741824 _ _ _ (by omega) p30 inv1 _ _ ha hb e2

/-- Where the draw begins. -/
def seedOf (a0 a1 : Int) : Nat := ((a0 + ((a1 % 18446744073709551616 + 1) % 18446744073709551616 * 11400714819323198485) % 18446744073709551616) % 18446744073709551616).toNat
theorem seedOf_lt (a0 a1 : Int) : seedOf a0 a1 < 18446744073709551616 := by unfold seedOf; omega
theorem seedOf_eq (a0 a1 : Int) : IntKind.u64.wrap (a0 + (IntKind.u64.wrap ((IntKind.u64.wrap ((IntKind.u64.wrap (a1)) + 1)) * 11400714819323198485))) = (seedOf a0 a1 : Int) := by
  unfold seedOf
  rw [IntKind.wrap_u64, IntKind.wrap_u64, IntKind.wrap_u64, IntKind.wrap_u64]
  omega
theorem seedOf_seed (a b i : Int) (ha : 0 ≤ a) (ha' : a < 18446744073709551616) (hb : 0 ≤ b) (hb' : b < 18446744073709551616) (e : seedOf a i = seedOf b i) : a = b := by
  unfold seedOf at e
  generalize ((i % 18446744073709551616 + 1) % 18446744073709551616 * 11400714819323198485) % 18446744073709551616 = x at e
  omega
theorem gold (x y : Nat) (hx : x < 18446744073709551616) (hy : y < 18446744073709551616) (h : x * 11400714819323198485 % 18446744073709551616 = y * 11400714819323198485 % 18446744073709551616) : x = y :=
  mul_inj _ _ _ inv0 x y hx hy h
def idx (i : Int) : Nat := ((i % 18446744073709551616 + 1) % 18446744073709551616).toNat
theorem idx_lt (i : Int) : idx i < 18446744073709551616 := by unfold idx; omega
theorem idx_eq (i : Int) : (i % 18446744073709551616 + 1) % 18446744073709551616 = (idx i : Int) := by unfold idx; omega
theorem seedOf_idx (a i : Int) : seedOf a i = ((a + ((idx i * 11400714819323198485 % 18446744073709551616 : Nat) : Int)) % 18446744073709551616).toNat := by
  unfold seedOf
  rw [idx_eq]
  congr 2
theorem add_inj (a : Int) (u v : Nat) (hu : u < 18446744073709551616) (hv : v < 18446744073709551616) (e : ((a + (u : Int)) % 18446744073709551616).toNat = ((a + (v : Int)) % 18446744073709551616).toNat) : u = v := by omega
theorem seedOf_index (a i j : Int) (hi : -9223372036854775808 ≤ i) (hi' : i < 9223372036854775808) (hj : -9223372036854775808 ≤ j) (hj' : j < 9223372036854775808) (e : seedOf a i = seedOf a j) : i = j := by
  rw [seedOf_idx, seedOf_idx] at e
  have h1 := add_inj a _ _ (Nat.mod_lt _ (Nat.succ_pos _)) (Nat.mod_lt _ (Nat.succ_pos _)) e
  have h := gold _ _ (idx_lt i) (idx_lt j) h1
  have e1 := idx_eq i
  have e2 := idx_eq j
  rw [h] at e1
  rw [← e1] at e2
  clear h h1 e e1
  omega

theorem draw_some (a0 a1 : Int) : pick_Draw.f a0 a1 = some (fin (seedOf a0 a1) : Int) := by
  unfold pick_Draw.f
  rw [seedOf_eq]
  generalize hX : seedOf a0 a1 = X
  have hlt : X < 18446744073709551616 := by rw [← hX]; exact seedOf_lt _ _
  have m1 := mixStep_u64 X 1073741824 13787848793156543929 hlt
  have m1' : IntKind.u64.wrap (bits .xor .u64 (X : Int) ((X : Int) / 1073741824) * 13787848793156543929) = _ := m1
  rw [m1']
  generalize hY : (X ^^^ X / 1073741824) * 13787848793156543929 % 18446744073709551616 = Y
  have hlt2 : Y < 18446744073709551616 := by rw [← hY]; exact Nat.mod_lt _ (by omega)
  have m2 : IntKind.u64.wrap (bits .xor .u64 (Y : Int) ((Y : Int) / 134217728) * 10723151780598845931) = _ := mixStep_u64 Y 134217728 10723151780598845931 hlt2
  rw [m2]
  generalize hZ : (Y ^^^ Y / 134217728) * 10723151780598845931 % 18446744073709551616 = Z
  have hlt3 : Z < 18446744073709551616 := by rw [← hZ]; exact Nat.mod_lt _ (by omega)
  have m3 : bits .xor .u64 (Z : Int) ((Z : Int) / 2147483648) = _ := xorShift_u64 Z 2147483648 hlt3
  rw [m3]
  unfold fin
  simp only [hY, hZ]

theorem shift_loop (x0 : Int) (n : Nat) (hn : n ≤ 64) : ∀ (d k i : Nat) (x : Nat), i + d = n → d < k → x < 18446744073709551616 → credenzaref20_shift.l0 k x0 (n : Int) (x : Int) (i : Int) = some (bits .xor .u64 x0 ((x / 2 ^ d : Nat) : Int)) := by
  intro d
  induction d with
  | zero =>
    intro k i x h1 h2 h3
    obtain ⟨k, rfl⟩ : ∃ m, k = m + 1 := ⟨k - 1, by omega⟩
    rw [credenzaref20_shift.l0, if_neg (by omega)]
    simp
  | succ d ih =>
    intro k i x h1 h2 h3
    obtain ⟨k, rfl⟩ : ∃ m, k = m + 1 := ⟨k - 1, by omega⟩
    rw [credenzaref20_shift.l0, if_pos (by omega)]
    have e1 : IntKind.u64.wrap (Int.tdiv (x : Int) 2) = ((x / 2 : Nat) : Int) := by
      rw [IntKind.wrap_u64, Int.tdiv_eq_ediv_of_nonneg (by omega)]; omega
    have e2 : wrap64 ((i : Int) + 1) = ((i + 1 : Nat) : Int) := by unfold wrap64; omega
    rw [e1, e2, ih k (i + 1) (x / 2) (by omega) (by omega) (by omega), Nat.div_div_eq_div_mul, Nat.pow_succ, Nat.mul_comm]

theorem ref_shift (x : Nat) (n : Nat) (hn : n ≤ 64) (hx : x < 18446744073709551616) {k : Nat} (hk : 65 ≤ k) : credenzaref20_shift.f k (x : Int) (n : Int) = some ((x ^^^ x / 2 ^ n : Nat) : Int) := by
  unfold credenzaref20_shift.f
  have h := shift_loop (x : Int) n hn n k 0 x (by omega) (by omega) hx
  rw [show ((0 : Nat) : Int) = 0 from rfl] at h
  rw [h, bits_xor_u64_nat _ _ hx (Nat.lt_of_le_of_lt (Nat.div_le_self _ _) hx)]

theorem ref_draw (a0 a1 : Int) {k : Nat} (hk : 65 ≤ k) : credenzaref20_Draw.f k a0 a1 = some (fin (seedOf a0 a1) : Int) := by
  unfold credenzaref20_Draw.f
  rw [seedOf_eq]
  have hlt := seedOf_lt a0 a1
  generalize seedOf a0 a1 = X at hlt ⊢
  have s1 : credenzaref20_shift.f k (X : Int) 30 = _ := ref_shift X 30 (by omega) hlt hk
  rw [s1, Option.bind_some]
  have e1 : IntKind.u64.wrap ((((X ^^^ X / 2 ^ 30 : Nat) : Int)) * 13787848793156543929) = (((X ^^^ X / 1073741824) * 13787848793156543929 % 18446744073709551616 : Nat) : Int) := by
    rw [IntKind.wrap_u64]; simp
  rw [e1]
  generalize hY : (X ^^^ X / 1073741824) * 13787848793156543929 % 18446744073709551616 = Y
  have hlt2 : Y < 18446744073709551616 := by rw [← hY]; exact Nat.mod_lt _ (by omega)
  have s2 : credenzaref20_shift.f k (Y : Int) 27 = _ := ref_shift Y 27 (by omega) hlt2 hk
  rw [s2, Option.bind_some]
  have e2 : IntKind.u64.wrap ((((Y ^^^ Y / 2 ^ 27 : Nat) : Int)) * 10723151780598845931) = (((Y ^^^ Y / 134217728) * 10723151780598845931 % 18446744073709551616 : Nat) : Int) := by
    rw [IntKind.wrap_u64]; simp
  rw [e2]
  generalize hZ : (Y ^^^ Y / 134217728) * 10723151780598845931 % 18446744073709551616 = Z
  have hlt3 : Z < 18446744073709551616 := by rw [← hZ]; exact Nat.mod_lt _ (by omega)
  have s3 : credenzaref20_shift.f k (Z : Int) 31 = _ := ref_shift Z 31 (by omega) hlt3 hk
  rw [s3, Option.bind_some]
  unfold fin
  simp only [hY, hZ]

/-- One bit turned makes another number. -/
theorem flip_ne (x : Int) : bits .xor .i64 x 1 ≠ x ∧ -9223372036854775808 ≤ bits .xor .i64 x 1 ∧ bits .xor .i64 x 1 < 9223372036854775808 := by
  have hw : ∀ n : Int, -9223372036854775808 ≤ IntKind.i64.wrap n ∧ IntKind.i64.wrap n < 9223372036854775808 ∧ (IntKind.i64.wrap n - n) % 18446744073709551616 = 0 := by
    intro n; rw [IntKind.wrap_i64]; omega
  obtain ⟨m, hm⟩ : ∃ m : BitVec 64, m = BitVec.ofInt 64 x ^^^ BitVec.ofInt 64 1 := ⟨_, rfl⟩
  have hb : bits .xor .i64 x 1 = IntKind.i64.wrap ((m.toNat : Nat) : Int) := by rw [hm]; rfl
  rw [hb]
  obtain ⟨h1, h2, h3⟩ := hw ((m.toNat : Nat) : Int)
  refine ⟨fun e => ?_, h1, h2⟩
  rw [e] at h3
  have hx : m = BitVec.ofInt 64 x := by
    apply BitVec.eq_of_toNat_eq
    rw [BitVec.toNat_ofInt]
    have := m.isLt
    omega
  rw [hx] at hm
  have h0 : BitVec.ofInt 64 1 = 0#64 := by
    have := congrArg (fun v => BitVec.ofInt 64 x ^^^ v) hm
    simpa [← BitVec.xor_assoc] using this.symm
  exact absurd h0 (by decide)

theorem awake20_at : credenzalaw20_awake.f 100 = some true := by kernel_rfl
theorem awake20 {k : Nat} (hk : 100 ≤ k) : credenzalaw20_awake.f k = some true := at_rounds credenzalaw20_awake.mono hk awake20_at

theorem u64_wf {x : Int} (h : (Lit.int .u64 x).wf = true) : 0 ≤ x ∧ x < 18446744073709551616 := by
  simp [Lit.wf, IntKind.min, IntKind.max, IntKind.signed, IntKind.bits] at h; omega
theorem i64_wf {x : Int} (h : (Lit.int .i64 x).wf = true) : -9223372036854775808 ≤ x ∧ x < 9223372036854775808 := by
  simp [Lit.wf, IntKind.min, IntKind.max, IntKind.signed, IntKind.bits] at h; omega

theorem PickDraws : credenzalaw20_PickDraws.Pure := by
  intro a0 a1 a2 w0 w1 w2
  have r0 := u64_wf w0
  have r1 := u64_wf w1
  have r2 := i64_wf w2
  refine ⟨200, ?_⟩
  rw [credenzalaw20_PickDraws.f, draw_some, Option.bind_some, ref_draw a0 a2 (by omega), Option.bind_some, if_pos rfl, draw_some, Option.bind_some]
  have e : (((fin (seedOf a1 a2) : Nat) : Int) == ((fin (seedOf a0 a2) : Nat) : Int)) = (a1 == a0) := by
    rw [Bool.eq_iff_iff, beq_iff_eq, beq_iff_eq]
    constructor
    · intro h
      exact seedOf_seed a1 a0 a2 r1.1 r1.2 r0.1 r0.2 (fin_inj _ _ (seedOf_lt _ _) (seedOf_lt _ _) (Int.ofNat.inj h))
    · rintro rfl; rfl
  rw [e]
  rw [show ((a1 == a0) != (a1 == a0)) = false by cases (a1 == a0) <;> rfl]
  rw [credenzalaw20_PickDraws.j0, if_neg (by simp), draw_some, Option.bind_some]
  obtain ⟨f1, f2, f3⟩ := flip_ne a2
  rw [if_neg (fun h => f1 (seedOf_index a0 _ _ f2 f3 r2.1 r2.2 (fin_inj _ _ (seedOf_lt _ _) (seedOf_lt _ _) (Int.natCast_inj.1 h)))), awake20 (by omega), Option.bind_some]
end Go.Proofs.Ytmldhpnkkkmloaa.Pure



namespace Go.Proofs.Ytmldhpnkkkmloaa.pickDraws
open Go.ChangeShapes Go.WideShapes Go.ChangeAt Go.RowKit
open Go.ChangeMaps (open_string shut_string)
set_option linter.unusedVariables false
theorem own : ownKnob Try.prog.godebug = none := by kernel_rfl
set_option maxRecDepth 100000 in
theorem lifted (os : Os) (started : os.Started) (H : Type) (enc : TypeId × Value → H) :
    ReturnsInHanded {} Try.checked os 5 .any (Rows.pickDrawsSpec.pre6 enc Try.prog Try.f5 Rows.pickDrawsRow.domain false) (Rows.pickDrawsSpec.post enc Try.prog Try.f5 false true false false) := by
  refine returnsInHanded_of_change_sized (C := Try.checked) own started (by kernel_rfl) Try.func5
    (ChangeSpec.witness6 (enc := enc) (C := Try.checked) false ⟨#[], #[.int .u64 0, .int .u64 0, .int .i64 0], []⟩ 8 (by kernel_rfl) (by kernel_rfl) (by kernel_rfl) (by kernel_rfl)) ?_
  intro W base args ds gs before hval0 hW hcnd hsz0 _
  have hsz : (DataW.weightsEach Try.prog (Try.f5.params.toList ++ Rows.pickDrawsSpec.plain.varTypes Try.prog) (ds ++ gs)).all (· ≤ reachBytes) = true := hsz0
  have hval : ∀ (j : Nat) t v, Try.f5.params[j]? = some t → args[j]? = some v → Value.okWide Try.prog W .any base t v := hval0
  have hW' := hW
  obtain ⟨p, q, hA0, hV, rfl, hfz, hnd⟩ := hW
  have hA : DataW.TrodAll enc Try.prog W 0 (fun _ => true) true Try.f5.params.toList args.toList ds p := hA0
  rw [Try.params5] at hA hval hsz
  obtain ⟨v0, vs0, d0, ds0, p0, q0, hargs, rfl, rfl, h0, r0⟩ := trodAll_cons hA
  obtain ⟨v1, vs1, d1, ds1, p1, q1, rfl, rfl, rfl, h1, r1⟩ := trodAll_cons r0
  obtain ⟨v2, vs2, d2, ds2, p2, q2, rfl, rfl, rfl, h2, r2⟩ := trodAll_cons r1
  obtain ⟨rfl, rfl, rfl⟩ := trodAll_nil r2
  obtain rfl : args = #[v0, v1, v2] := by cases args; simp_all
  obtain ⟨rfl, rfl⟩ := trodVars_none hV
  obtain ⟨a0, rfl, rfl, rfl, w0⟩ := open_int Try.underlying23 (hval 0 23 v0 rfl rfl) h0
  obtain ⟨a1, rfl, rfl, rfl, w1⟩ := open_int Try.underlying23 (hval 1 23 v1 rfl rfl) h1
  obtain ⟨a2, rfl, rfl, rfl, w2⟩ := open_int Try.underlying3 (hval 2 3 v2 rfl rfl) h2
  clear hA0 hval0 hsz0 hsz
  refine (K.credenzalaw20_PickDraws.walk Pure.PickDraws a0 a1 a2 W w0 w1 w2).mono fun e W' ⟨he, bel⟩ => ?_
  subst he
  exact ⟨_, rfl, _, _, _, [], _, [], hW', trodAll_mk1 (shut_bool Try.underlying4 _), (trodAll_cons_mk (shut_int Try.underlying23 w0) (trodAll_cons_mk (shut_int Try.underlying23 w1) (trodAll_cons_mk (shut_int Try.underlying3 w2) trodAll_mk0))), rfl, bel.frame _, fun h => by cases h⟩
theorem over : Rows.pickDrawsRow.holds Try.pinned (OpenSpec.ofChange Rows.pickDrawsSpec) :=
  OpenClaim.holds_of_wide 5 Try.f5 rfl rfl rfl rfl rfl rfl rfl ⟨rfl, rfl, rfl, rfl, rfl⟩ rfl rfl rfl rfl rfl (by kernel_rfl) Try.func5 (by kernel_rfl)
    (of_decide_eq_true (by kernel_rfl)) (by unfold Func.isWrapper; first | (rw [if_pos (by decide +kernel)]; kernel_rfl) | (rw [if_neg (by decide +kernel)]; exact ⟨rfl, rfl⟩))
    (fun os started H enc _ => lifted os started H enc)
theorem proved : Rows.PickDrawsSaid := over
end Go.Proofs.Ytmldhpnkkkmloaa.pickDraws
namespace Go.Proofs.Ytmldhpnkkkmloaa
/-- The row, under a short name, for the claim. -/
theorem pickDraws_holds : Rows.PickDrawsSaid := pickDraws.proved
end Go.Proofs.Ytmldhpnkkkmloaa
