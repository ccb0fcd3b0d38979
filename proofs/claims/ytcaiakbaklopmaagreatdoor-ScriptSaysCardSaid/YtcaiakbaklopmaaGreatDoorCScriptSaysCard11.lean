/- credenza/credenzalaw28.ScriptSays holds, tied to the program's text. (part 11: functions of the program as plain functions, and what is shown of them.) Conditions: as each theorem states; the last one has none. -/
import Derived.Lib.ItoaNum
import Derived.Test.YtcaiakbaklopmaaGreatDoorCScriptSaysCard1
import Derived.Test.YtcaiakbaklopmaaGreatDoorCScriptSaysCard2
import Derived.Test.YtcaiakbaklopmaaGreatDoorCScriptSaysCard3
import Derived.Test.YtcaiakbaklopmaaGreatDoorCScriptSaysCard4
import Derived.Test.YtcaiakbaklopmaaGreatDoorCScriptSaysCard5
import Derived.Test.YtcaiakbaklopmaaGreatDoorCScriptSaysCard6
import Derived.Test.YtcaiakbaklopmaaGreatDoorCScriptSaysCard7
import Derived.Test.YtcaiakbaklopmaaGreatDoorCScriptSaysCard8
import Derived.Test.YtcaiakbaklopmaaGreatDoorCScriptSaysCard9
import Derived.Test.YtcaiakbaklopmaaGreatDoorCScriptSaysCard10
namespace Go.Proofs.YtcaiakbaklopmaaGreatDoor.SayP
open Go Go.Lib

abbrev dec (n : Nat) : List UInt8 := Lib.decDigits n
theorem dec_lt {n : Nat} (h : n < 10) : dec n = [UInt8.ofNat (48 + n)] := by rw [dec, Lib.decDigits, dif_pos h]
theorem dec_ge {n : Nat} (h : ¬ n < 10) : dec n = dec (n / 10) ++ [UInt8.ofNat (48 + n % 10)] := by
  show Lib.decDigits n = Lib.decDigits (n / 10) ++ _
  rw [Lib.decDigits, dif_neg h]
theorem ofNat_toNat {k : Nat} (h : k < 256) : (UInt8.ofNat k).toNat = k := by simp [Nat.mod_eq_of_lt h]
theorem dec_no (n : Nat) : ∀ b ∈ dec n, b ≠ 32 := by
  induction n using Nat.strongRecOn with
  | _ n ih =>
    intro b hb e
    by_cases h : n < 10
    · rw [dec_lt h] at hb
      simp only [List.mem_singleton] at hb
      have : b.toNat = 48 + n := by rw [hb]; exact ofNat_toNat (by omega)
      rw [e] at this
      have : (32 : UInt8).toNat = 32 := rfl
      omega
    · rw [dec_ge h] at hb
      rcases List.mem_append.1 hb with hb | hb
      · exact ih (n / 10) (by omega) b hb e
      · simp only [List.mem_singleton] at hb
        have : b.toNat = 48 + n % 10 := by rw [hb]; exact ofNat_toNat (by omega)
        rw [e] at this
        have : (32 : UInt8).toNat = 32 := rfl
        omega
def val (l : List UInt8) : Nat := l.foldl (fun a b => a * 10 + (b.toNat - 48)) 0
theorem val_dec (n : Nat) : val (dec n) = n := by
  induction n using Nat.strongRecOn with
  | _ n ih =>
    by_cases h : n < 10
    · rw [dec_lt h]
      show 0 * 10 + ((UInt8.ofNat (48 + n)).toNat - 48) = n
      rw [ofNat_toNat (by omega)]; omega
    · rw [dec_ge h]
      unfold val at *
      rw [List.foldl_append, ih (n / 10) (by omega)]
      show n / 10 * 10 + ((UInt8.ofNat (48 + n % 10)).toNat - 48) = n
      rw [ofNat_toNat (by omega)]; omega
theorem dec_inj {m n : Nat} (h : dec m = dec n) : m = n := by rw [← val_dec m, h, val_dec]
theorem split {a b x y : List UInt8} (ha : ∀ c ∈ a, c ≠ 32) (hb : ∀ c ∈ b, c ≠ 32) (h : a ++ 32 :: x = b ++ 32 :: y) : a = b ∧ x = y := by
  induction a generalizing b with
  | nil =>
    cases b with
    | nil => simp at h; exact ⟨rfl, h⟩
    | cons c b => simp at h; exact absurd h.1.symm (hb c (by simp))
  | cons c a ih =>
    cases b with
    | nil => simp at h; exact absurd h.1 (ha c (by simp))
    | cons d b =>
      simp at h
      obtain ⟨rfl, h⟩ := h
      obtain ⟨rfl, rfl⟩ := ih (fun e he => ha e (by simp [he])) (fun e he => hb e (by simp [he])) h
      exact ⟨rfl, rfl⟩
def word (k : Nat) : List UInt8 := match k with
  | 1 => [116, 111, 107, 101, 110]
  | 2 => [115, 116, 111, 112, 112, 101, 100]
  | 3 => [108, 101, 110, 103, 116, 104]
  | 4 => [99, 97, 110, 99, 101, 108, 108, 101, 100]
  | _ => [114, 101, 102, 117, 115, 101, 100]
def rest (k i t c : Nat) : List UInt8 := if k = 1 then dec i ++ 32 :: dec t else if k = 5 then dec c else dec i
def text (k id i t c : Nat) : List UInt8 := dec id ++ 32 :: (word k ++ 32 :: rest k i t c)
theorem word_no {k : Nat} (h : 1 ≤ k ∧ k ≤ 5) : ∀ b ∈ word k, b ≠ 32 := by
  have : k = 1 ∨ k = 2 ∨ k = 3 ∨ k = 4 ∨ k = 5 := by omega
  rcases this with rfl | rfl | rfl | rfl | rfl <;> decide
theorem word_inj {k j : Nat} (hk : 1 ≤ k ∧ k ≤ 5) (hj : 1 ≤ j ∧ j ≤ 5) (h : word k = word j) : k = j := by
  have h1 : k = 1 ∨ k = 2 ∨ k = 3 ∨ k = 4 ∨ k = 5 := by omega
  have h2 : j = 1 ∨ j = 2 ∨ j = 3 ∨ j = 4 ∨ j = 5 := by omega
  rcases h1 with rfl | rfl | rfl | rfl | rfl <;> rcases h2 with rfl | rfl | rfl | rfl | rfl <;> first | rfl | (exact absurd h (by decide))
structure Fit (k i t c : Nat) : Prop where
  kind : 1 ≤ k ∧ k ≤ 5
  tok : k ≠ 1 → t = 0
  ind : k = 5 → i = 0
  code : k ≠ 5 → c = 0
theorem text_inj {k id i t c k' id' i' t' c' : Nat} (h : Fit k i t c) (h' : Fit k' i' t' c') (e : text k id i t c = text k' id' i' t' c') : k = k' ∧ id = id' ∧ i = i' ∧ t = t' ∧ c = c' := by
  obtain ⟨e1, e2⟩ := split (dec_no id) (dec_no id') e
  obtain ⟨e3, e4⟩ := split (word_no h.kind) (word_no h'.kind) e2
  have hid := dec_inj e1
  have hk := word_inj h.kind h'.kind e3
  subst hk
  refine ⟨rfl, hid, ?_⟩
  unfold rest at e4
  by_cases k1 : k = 1
  · rw [if_pos k1, if_pos k1] at e4
    obtain ⟨e5, e6⟩ := split (dec_no i) (dec_no i') e4
    exact ⟨dec_inj e5, dec_inj e6, by rw [h.code (by omega), h'.code (by omega)]⟩
  · rw [if_neg k1, if_neg k1] at e4
    by_cases k5 : k = 5
    · rw [if_pos k5, if_pos k5] at e4
      exact ⟨by rw [h.ind k5, h'.ind k5], by rw [h.tok k1, h'.tok k1], dec_inj e4⟩
    · rw [if_neg k5, if_neg k5] at e4
      exact ⟨dec_inj e4, by rw [h.tok k1, h'.tok k1], by rw [h.code k5, h'.code k5]⟩
end Go.Proofs.YtcaiakbaklopmaaGreatDoor.SayP

namespace Go.Proofs.YtcaiakbaklopmaaGreatDoor.SayW
open Go Go.RowKit Go.Proofs.YtcaiakbaklopmaaGreatDoorW.PrintWords Go.Proofs.YtcaiakbaklopmaaGreatDoorW.PrintLast Go.Proofs.YtcaiakbaklopmaaGreatDoorW.PrintMore Go.Proofs.YtcaiakbaklopmaaGreatDoor.Q Go.Proofs.YtcaiakbaklopmaaGreatDoor.SayP
set_option linter.all false

theorem wrap_small {k : Int} (h0 : 0 ≤ k) (h1 : k < 18446744073709551616) : IntKind.u64.wrap k = k := by rw [IntKind.wrap_u64]; omega
theorem digits_f : ∀ (k n : Nat), n < 10 ^ (k + 1) → n < 18446744073709551616 → credenzaref28_Digits.f (k + 1) (n : Int) = some ⟨(dec n).toArray⟩ := by
  intro k
  induction k with
  | zero =>
    intro n h h64
    have h10 : n < 10 := by simpa using h
    unfold credenzaref28_Digits.f
    rw [if_pos (by omega), wrap_small (by omega) (by omega), dec_lt h10]
    have : (48 + (n : Int)) % 256 = ((48 + n : Nat) : Int) := by omega
    rw [this]
    rfl
  | succ k ih =>
    intro n h h64
    unfold credenzaref28_Digits.f
    by_cases h10 : n < 10
    · rw [if_pos (by omega), wrap_small (by omega) (by omega), dec_lt h10]
      have : (48 + (n : Int)) % 256 = ((48 + n : Nat) : Int) := by omega
      rw [this]
      rfl
    · have e1 : Int.tdiv (n : Int) 10 = ((n / 10 : Nat) : Int) := by rw [Int.tdiv_eq_ediv_of_nonneg (by omega)]; omega
      have e2 : Int.tmod (n : Int) 10 = ((n % 10 : Nat) : Int) := by rw [Int.tmod_eq_emod_of_nonneg (by omega)]; omega
      have hp : n / 10 < 10 ^ (k + 1) := by rw [Nat.pow_succ] at h; omega
      rw [if_neg (by omega), e1, e2, wrap_small (by omega) (by omega), wrap_small (by omega) (by omega), ih (n / 10) hp (by omega), dec_ge h10]
      have : (48 + ((n % 10 : Nat) : Int)) % 256 = ((48 + n % 10 : Nat) : Int) := by omega
      rw [this]
      simp only [Option.bind_some]
      have hl : (dec (n / 10)).length ≤ 20 := by
        have : ∀ (j m : Nat), m < 10 ^ (j + 1) → (dec m).length ≤ j + 1 := by
          intro j
          induction j with
          | zero => intro m hm; rw [dec_lt (by simpa using hm)]; simp
          | succ j ihj =>
            intro m hm
            by_cases h1 : m < 10
            · rw [dec_lt h1]; simp
            · rw [dec_ge h1, List.length_append]
              have := ihj (m / 10) (by rw [Nat.pow_succ] at hm; omega)
              simp only [List.length_cons, List.length_nil]; omega
        exact this 19 (n / 10) (by have : (10 : Nat) ^ 20 = 100000000000000000000 := by decide
                                   omega)
      have e3 : strOfNums [((48 + n % 10 : Nat) : Int)] = ⟨#[UInt8.ofNat (48 + n % 10)]⟩ := rfl
      rw [e3, if_pos]
      · refine congrArg some (ByteArray.ext ?_)
        simp
      · show (dec (n / 10)).toArray.size + 1 ≤ _
        simp only [List.size_toArray]; omega
theorem dec_len {n : Nat} (h : n < 18446744073709551616) : (dec n).length ≤ 20 := by
  show (Lib.decDigits n).length ≤ 20
  rw [Lib.decDigits_length]
  by_cases h1 : 1 ≤ n
  · have := Lib.numDigits_eq n h1 h; split at this <;> omega
  · have : n = 0 := by omega
    subst this
    rw [← Lib.decDigits_length]
    show (dec 0).length ≤ 20
    rw [dec_lt (by omega)]; simp
theorem itoa_f (n : Nat) (h : n < 9223372036854775808) : strconv_Itoa_52.f (n : Int) = some ⟨(dec n).toArray⟩ := by
  unfold strconv_Itoa_52.f
  rw [if_pos ⟨by omega, by omega⟩, itoaF_eq _ (by omega) (by omega), Lib.itoa_nonneg]
theorem text1_f (a : Nat) (ha : a < 9223372036854775808) : script_text.f 5 [(a : Int)] = some ⟨(32 :: dec a).toArray⟩ := by
  have l1 := dec_len (n := a) (by omega)
  unfold script_text.f
  unfold script_text.l0
  simp only [List.length_cons, List.length_nil]
  rw [if_pos (by decide), if_pos (by decide), if_pos (by decide)]
  have hr : rd [(a : Int)] 0 = a := rfl
  rw [hr, itoa_f a ha]
  simp only [Option.bind_some]
  have hs : (⟨(dec a).toArray⟩ : ByteArray).size = (dec a).length := by show (dec a).toArray.size = _; simp
  have h0 : (⟨#[]⟩ : ByteArray).size = 0 := rfl
  rw [hs, h0, if_pos (by omega), if_pos (by omega)]
  unfold script_text.l0
  have hw : wrap64 (0 + 1) = 1 := by unfold wrap64; decide
  rw [hw, if_neg (by decide)]
  refine congrArg some (ByteArray.ext ?_)
  simp
theorem text2_f (a b : Nat) (ha : a < 9223372036854775808) (hb : b < 9223372036854775808) : script_text.f 5 [(a : Int), (b : Int)] = some ⟨(32 :: dec a ++ 32 :: dec b).toArray⟩ := by
  have l1 := dec_len (n := a) (by omega)
  have l2 := dec_len (n := b) (by omega)
  unfold script_text.f
  unfold script_text.l0
  simp only [List.length_cons, List.length_nil]
  rw [if_pos (by decide), if_pos (by decide), if_pos (by decide)]
  have hr : rd [(a : Int), (b : Int)] 0 = a := rfl
  rw [hr, itoa_f a ha]
  simp only [Option.bind_some]
  have hs : ∀ l : List UInt8, (⟨l.toArray⟩ : ByteArray).size = l.length := fun l => by show l.toArray.size = _; simp
  have h0 : (⟨#[]⟩ : ByteArray).size = 0 := rfl
  rw [hs, h0, if_pos (by omega), if_pos (by omega)]
  unfold script_text.l0
  have hw : wrap64 (0 + 1) = 1 := by unfold wrap64; decide
  simp only [List.length_cons, List.length_nil]
  rw [hw, if_pos (by decide), if_pos (by decide), if_pos (by decide)]
  have hr : rd [(a : Int), (b : Int)] 1 = b := rfl
  rw [hr, itoa_f b hb]
  simp only [Option.bind_some]
  have e0 : (⟨#[]⟩ : ByteArray) ++ (⟨#[32]⟩ ++ ⟨(dec a).toArray⟩) = ⟨(32 :: dec a).toArray⟩ := by apply ByteArray.ext; simp
  rw [e0, hs, hs, if_pos (by omega), if_pos (by simp only [List.length_cons]; omega)]
  unfold script_text.l0
  have hw : wrap64 (1 + 1) = 2 := by unfold wrap64; decide
  simp only [List.length_cons, List.length_nil]
  rw [hw, if_neg (by decide)]
  refine congrArg some (ByteArray.ext ?_)
  simp
end Go.Proofs.YtcaiakbaklopmaaGreatDoor.SayW

namespace Go.Proofs.YtcaiakbaklopmaaGreatDoor.Pure
open Go Go.RowKit Go.Proofs.YtcaiakbaklopmaaGreatDoorW.PrintWords Go.Proofs.YtcaiakbaklopmaaGreatDoorW.PrintLast Go.Proofs.YtcaiakbaklopmaaGreatDoorW.PrintMore Go.Proofs.YtcaiakbaklopmaaGreatDoor.Q Go.Proofs.YtcaiakbaklopmaaGreatDoor.SayP Go.Proofs.YtcaiakbaklopmaaGreatDoor.SayW
set_option linter.all false

theorem ite_ex {c : Prop} [Decidable c] {a b : Option Int} {Q : Int → Prop} (h1 : c → ∃ t, a = some t ∧ Q t) (h2 : ¬ c → ∃ t, b = some t ∧ Q t) : ∃ t, (if c then a else b) = some t ∧ Q t := by
  by_cases h : c
  · rw [if_pos h]; exact h1 h
  · rw [if_neg h]; exact h2 h
theorem right1_f (n : Nat) (x : Bool) (a0 a1 a2 a3 a4 : Int) : ∃ t, credenzaref23_Right.j1 (n + 1) x a0 a1 a2 a3 a4 = some t ∧ (t = 0 → x = false ∧ (0 ≤ a2 ∧ a2 ≤ 1024) ∧ (0 ≤ a3 ∧ a3 ≤ 255) ∧ a4 ≤ 255 ∧ (a0 = 5 → 1 ≤ a4)) := by
  unfold credenzaref23_Right.j1
  refine ite_ex (fun _ => ⟨_, rfl, fun h => absurd h (by decide)⟩) (fun hx => ?_)
  have hx : x = false := by simpa using hx
  repeat' (with_reducible refine ite_ex ?_ ?_ <;> intro _)
  all_goals first
    | exact ⟨_, rfl, fun h => absurd h (by decide)⟩
    | exact ⟨_, rfl, fun _ => ⟨hx, by omega, by omega, by omega, by omega⟩⟩
theorem right_f (a0 a1 a2 a3 a4 : Int) : ∃ t, credenzaref23_Right.f 61 a0 a1 a2 a3 a4 = some t ∧ (t = 0 → (1 ≤ a0 ∧ a0 ≤ 5) ∧ (0 ≤ a2 ∧ a2 ≤ 1024) ∧ (0 ≤ a3 ∧ a3 ≤ 255) ∧ (0 ≤ a4 ∧ a4 ≤ 255) ∧ (a0 ≠ 1 → a3 = 0) ∧ (a0 = 5 → a2 = 0) ∧ (a0 ≠ 5 → a4 = 0)) := by
  have key : ∀ x : Bool, (x = false → 1 ≤ a0 ∧ a0 ≤ 5) → ∃ t, credenzaref23_Right.j0 61 x a0 a1 a2 a3 a4 = some t ∧ (t = 0 → (1 ≤ a0 ∧ a0 ≤ 5) ∧ (0 ≤ a2 ∧ a2 ≤ 1024) ∧ (0 ≤ a3 ∧ a3 ≤ 255) ∧ (0 ≤ a4 ∧ a4 ≤ 255) ∧ (a0 ≠ 1 → a3 = 0) ∧ (a0 = 5 → a2 = 0) ∧ (a0 ≠ 5 → a4 = 0)) := by
    intro x hx0
    unfold credenzaref23_Right.j0
    refine ite_ex (fun _ => ⟨_, rfl, fun h => absurd h (by decide)⟩) (fun hx => ?_)
    have hx := hx0 (by simpa using hx)
    repeat' (with_reducible refine ite_ex ?_ ?_ <;> intro _)
    all_goals (obtain ⟨t, e, H⟩ := right1_f 59 _ a0 a1 a2 a3 a4; refine ⟨t, e, fun h => ?_⟩; obtain ⟨G0, G1, G2, G3, G4⟩ := H h)
    all_goals first
      | exact absurd G0 (by decide)
      | exact ⟨hx, G1, G2, by omega, by omega, by omega, by omega⟩
      | (have G0 : a4 = 0 := by simpa using G0
         exact ⟨hx, G1, G2, by omega, by omega, by omega, by omega⟩)
  unfold credenzaref23_Right.f
  refine ite_ex (fun h => key true (fun h => absurd h (by decide))) (fun h => key _ (fun h => ?_))
  have := of_decide_eq_false h
  omega
theorem sz (l : List UInt8) : (⟨l.toArray⟩ : ByteArray).size = l.length := by show l.toArray.size = _; simp
theorem app (a b : List UInt8) : (⟨a.toArray⟩ : ByteArray) ++ ⟨b.toArray⟩ = ⟨(a ++ b).toArray⟩ := by apply ByteArray.ext; simp
theorem text_up {l : List Int} {r : ByteArray} (h : script_text.f 5 l = some r) : ∀ j, script_text.f (5 + j) l = some r
  | 0 => h
  | j + 1 => script_text.mono l (5 + j) r (text_up h j)
theorem wrapN {n : Nat} (h : n < 18446744073709551616) : IntKind.u64.wrap (n : Int) = (n : Int) := SayW.wrap_small (by omega) (by omega)
theorem fmt_f (n : Nat) (h : n < 18446744073709551616) : strconv_FormatUint_30.f (n : Int) 10 = some ⟨(dec n).toArray⟩ := by
  unfold strconv_FormatUint_30.f
  rw [if_pos ⟨by omega, by omega, rfl⟩, Int.toNat_natCast]
theorem say_f (k id i t c : Nat) (hk : 1 ≤ k ∧ k ≤ 5) (h1 : id < 4294967296) (h2 : i ≤ 1024) (h3 : t ≤ 255) (h4 : c ≤ 255) : script_Say.f 60 k id i t c = some ⟨(text k id i t c).toArray⟩ := by
  have l1 := dec_len (n := id) (by omega)
  have l2 := dec_len (n := i) (by omega)
  have l3 := dec_len (n := t) (by omega)
  have l4 := dec_len (n := c) (by omega)
  have t1 := text_up (text1_f i (by omega)) 55
  have t2 := text_up (text2_f i t (by omega) (by omega)) 55
  have t3 := text_up (text1_f c (by omega)) 55
  unfold script_Say.f
  rw [wrapN (by omega), fmt_f id (by omega)]
  simp only [Option.bind_some, sz]
  have : k = 1 ∨ k = 2 ∨ k = 3 ∨ k = 4 ∨ k = 5 := by omega
  rcases this with rfl | rfl | rfl | rfl | rfl
  · rw [if_pos (by decide), if_pos (by omega), t2]
    simp only [Option.bind_some, sz]
    rw [if_pos (by simp only [List.length_append, List.length_cons]; omega)]
    refine congrArg some ((congrArg (· ++ _) (app (dec id) [32, 116, 111, 107, 101, 110])).trans ((app _ _).trans ?_))
    simp [text, word, rest]
  · rw [if_neg (by decide), if_neg (by decide), if_pos (by decide), if_pos (by omega), t1]
    simp only [Option.bind_some, sz]
    rw [if_pos (by simp only [List.length_cons]; omega)]
    refine congrArg some ((congrArg (· ++ _) (app (dec id) [32, 115, 116, 111, 112, 112, 101, 100])).trans ((app _ _).trans ?_))
    simp [text, word, rest]
  · rw [if_neg (by decide), if_neg (by decide), if_neg (by decide), if_pos (by decide), if_pos (by omega), t1]
    simp only [Option.bind_some, sz]
    rw [if_pos (by simp only [List.length_cons]; omega)]
    refine congrArg some ((congrArg (· ++ _) (app (dec id) [32, 108, 101, 110, 103, 116, 104])).trans ((app _ _).trans ?_))
    simp [text, word, rest]
  · rw [if_neg (by decide), if_neg (by decide), if_neg (by decide), if_neg (by decide), if_pos (by decide), if_pos (by omega), t1]
    simp only [Option.bind_some, sz]
    rw [if_pos (by simp only [List.length_cons]; omega)]
    refine congrArg some ((congrArg (· ++ _) (app (dec id) [32, 99, 97, 110, 99, 101, 108, 108, 101, 100])).trans ((app _ _).trans ?_))
    simp [text, word, rest]
  · rw [if_neg (by decide), if_pos (by decide), if_pos (by omega), t3]
    simp only [Option.bind_some, sz]
    rw [if_pos (by simp only [List.length_cons]; omega)]
    refine congrArg some ((congrArg (· ++ _) (app (dec id) [32, 114, 101, 102, 117, 115, 101, 100])).trans ((app _ _).trans ?_))
    simp [text, word, rest]
theorem dg (n : Nat) (h : n < 18446744073709551616) : credenzaref28_Digits.f 60 (n : Int) = some ⟨(dec n).toArray⟩ := by
  refine digits_f 59 n ?_ h
  have : (10 : Nat) ^ 20 ≤ 10 ^ 60 := Nat.pow_le_pow_right (by decide) (by decide)
  have h2 : (10 : Nat) ^ 20 = 100000000000000000000 := by decide
  show n < 10 ^ 60
  omega
theorem ref_f (k id i t c : Nat) (hk : 1 ≤ k ∧ k ≤ 5) (h1 : id < 4294967296) (h2 : i ≤ 1024) (h3 : t ≤ 255) (h4 : c ≤ 255) : credenzaref28_Say.f 60 k id i t c = some ⟨(text k id i t c).toArray⟩ := by
  have l1 := dec_len (n := id) (by omega)
  have l2 := dec_len (n := i) (by omega)
  have l3 := dec_len (n := t) (by omega)
  have l4 := dec_len (n := c) (by omega)
  unfold credenzaref28_Say.f
  rw [wrapN (by omega), wrapN (by omega), wrapN (by omega), wrapN (by omega), dg id (by omega), dg i (by omega), dg t (by omega), dg c (by omega)]
  simp only [Option.bind_some, sz]
  have : k = 1 ∨ k = 2 ∨ k = 3 ∨ k = 4 ∨ k = 5 := by omega
  rcases this with rfl | rfl | rfl | rfl | rfl
  · rw [if_pos (by decide), if_pos (by omega), if_pos (by omega), if_pos (by omega), if_pos (by omega)]
    refine congrArg some ((congrArg (fun x => ((x ++ _) ++ _) ++ _) (app (dec id) [32, 116, 111, 107, 101, 110, 32])).trans ((congrArg (fun x => (x ++ _) ++ _) (app _ _)).trans ((congrArg (· ++ _) (app _ [32])).trans ((app _ _).trans ?_))))
    simp [text, word, rest]
  · rw [if_neg (by decide), if_neg (by decide), if_pos (by decide), if_pos (by omega), if_pos (by omega)]
    refine congrArg some ((congrArg (· ++ _) (app (dec id) [32, 115, 116, 111, 112, 112, 101, 100, 32])).trans ((app _ _).trans ?_))
    simp [text, word, rest]
  · rw [if_neg (by decide), if_neg (by decide), if_neg (by decide), if_pos (by decide), if_pos (by omega), if_pos (by omega)]
    refine congrArg some ((congrArg (· ++ _) (app (dec id) [32, 108, 101, 110, 103, 116, 104, 32])).trans ((app _ _).trans ?_))
    simp [text, word, rest]
  · rw [if_neg (by decide), if_neg (by decide), if_neg (by decide), if_neg (by decide), if_pos (by decide), if_pos (by omega), if_pos (by omega)]
    refine congrArg some ((congrArg (· ++ _) (app (dec id) [32, 99, 97, 110, 99, 101, 108, 108, 101, 100, 32])).trans ((app _ _).trans ?_))
    simp [text, word, rest]
  · rw [if_neg (by decide), if_pos (by decide), if_pos (by omega), if_pos (by omega)]
    refine congrArg some ((congrArg (· ++ _) (app (dec id) [32, 114, 101, 102, 117, 115, 101, 100, 32])).trans ((app _ _).trans ?_))
    simp [text, word, rest]
theorem fit_of {a0 a2 a3 a4 : Int} {k i t c : Nat} (e0 : a0 = k) (e2 : a2 = i) (e3 : a3 = t) (e4 : a4 = c) (h0 : 1 ≤ a0 ∧ a0 ≤ 5) (h1 : a0 ≠ 1 → a3 = 0) (h2 : a0 = 5 → a2 = 0) (h3 : a0 ≠ 5 → a4 = 0) : Fit k i t c := by
  subst e0 e2 e3 e4
  exact ⟨by omega, fun h => by have := h1 (by omega); omega, fun h => by have := h2 (by omega); omega, fun h => by have := h3 (by omega); omega⟩
theorem ScriptSays_row (a0 a1 a2 a3 a4 b0 b1 b2 b3 b4 : Int) (ha : 0 ≤ a1 ∧ a1 < 4294967296) (hb : 0 ≤ b1 ∧ b1 < 4294967296) : ∃ k, credenzalaw28_ScriptSays.f k a0 a1 a2 a3 a4 b0 b1 b2 b3 b4 = some true := by
  refine ⟨61, ?_⟩
  obtain ⟨t, ht, hta⟩ := right_f a0 a1 a2 a3 a4
  obtain ⟨u, hu, hub⟩ := right_f b0 b1 b2 b3 b4
  have aw : ∀ x1 x2 x3 x4 x5 y1 y2 y3 y4 y5 z1 z2 z3 z4 z5 v1 v2 v3 v4 v5, credenzalaw28_ScriptSays.j0 61 true x1 x2 x3 x4 x5 y1 y2 y3 y4 y5 z1 z2 z3 z4 z5 v1 v2 v3 v4 v5 = some true := by
    intros
    unfold credenzalaw28_ScriptSays.j0
    exact (if_pos rfl).trans rfl
  unfold credenzalaw28_ScriptSays.f
  simp only [credenzalaw28_event.f, Option.bind_some, ht, hu]
  by_cases h0 : t = 0
  · rw [if_pos h0]
    by_cases h1 : u = 0
    · obtain ⟨p0, p2, p3, p4, p5, p6, p7⟩ := hta h0
      obtain ⟨q0, q2, q3, q4, q5, q6, q7⟩ := hub h1
      have hx : (u != 0) = false := by simp [h1]
      rw [hx]
      unfold credenzalaw28_ScriptSays.j0
      obtain ⟨m0, e0⟩ : ∃ n : Nat, a0 = n := ⟨a0.toNat, by omega⟩
      obtain ⟨m1, e1⟩ : ∃ n : Nat, a1 = n := ⟨a1.toNat, by omega⟩
      obtain ⟨m2, e2⟩ : ∃ n : Nat, a2 = n := ⟨a2.toNat, by omega⟩
      obtain ⟨m3, e3⟩ : ∃ n : Nat, a3 = n := ⟨a3.toNat, by omega⟩
      obtain ⟨m4, e4⟩ : ∃ n : Nat, a4 = n := ⟨a4.toNat, by omega⟩
      obtain ⟨n0, f0⟩ : ∃ n : Nat, b0 = n := ⟨b0.toNat, by omega⟩
      obtain ⟨n1, f1⟩ : ∃ n : Nat, b1 = n := ⟨b1.toNat, by omega⟩
      obtain ⟨n2, f2⟩ : ∃ n : Nat, b2 = n := ⟨b2.toNat, by omega⟩
      obtain ⟨n3, f3⟩ : ∃ n : Nat, b3 = n := ⟨b3.toNat, by omega⟩
      obtain ⟨n4, f4⟩ : ∃ n : Nat, b4 = n := ⟨b4.toNat, by omega⟩
      have Fa := fit_of e0 e2 e3 e4 p0 p5 p6 p7
      have Fb := fit_of f0 f2 f3 f4 q0 q5 q6 q7
      subst e0 e1 e2 e3 e4 f0 f1 f2 f3 f4
      have s1 := say_f m0 m1 m2 m3 m4 (by omega) (by omega) (by omega) (by omega) (by omega)
      have s2 := ref_f m0 m1 m2 m3 m4 (by omega) (by omega) (by omega) (by omega) (by omega)
      have s3 := say_f n0 n1 n2 n3 n4 (by omega) (by omega) (by omega) (by omega) (by omega)
      refine (if_neg (by simp)).trans ?_
      show (script_Say.f 60 _ _ _ _ _).bind _ = _
      rw [s1, s2, s3]
      simp only [Option.bind_some]
      rw [if_pos trivial]
      have key : (((⟨(text m0 m1 m2 m3 m4).toArray⟩ : ByteArray).toList == (⟨(text n0 n1 n2 n3 n4).toArray⟩ : ByteArray).toList) == ((m0 : Int) == n0 && ((m1 : Int) == n1 && ((m2 : Int) == n2 && ((m3 : Int) == n3 && ((m4 : Int) == n4)))))) = true := by
        rw [ByteArray.toList_mk, ByteArray.toList_mk]
        by_cases h : m0 = n0 ∧ m1 = n1 ∧ m2 = n2 ∧ m3 = n3 ∧ m4 = n4
        · obtain ⟨rfl, rfl, rfl, rfl, rfl⟩ := h
          simp
        · have hl : ¬ text m0 m1 m2 m3 m4 = text n0 n1 n2 n3 n4 := fun e => h (text_inj Fa Fb e)
          have h1 : (text m0 m1 m2 m3 m4 == text n0 n1 n2 n3 n4) = false := beq_eq_false_iff_ne.2 hl
          rw [h1]
          have h2 : ((m0 : Int) == n0 && ((m1 : Int) == n1 && ((m2 : Int) == n2 && ((m3 : Int) == n3 && ((m4 : Int) == n4))))) = false := by
            rw [Bool.eq_false_iff]
            intro hc
            simp only [Bool.and_eq_true, beq_iff_eq] at hc
            exact h ⟨by omega, by omega, by omega, by omega, by omega⟩
          rw [h2]; rfl
      rw [if_pos key]; rfl
    · have hx : (u != 0) = true := by simp [h1]
      rw [hx]
      exact aw ..
  · rw [if_neg h0]
    exact aw ..
end Go.Proofs.YtcaiakbaklopmaaGreatDoor.Pure
