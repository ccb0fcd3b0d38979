/- Ranges over a ring's All: the iterator's contract; conditions: the receiver is a ring. -/
import Derived.Test.YtfffncaonpokpaaRingC
import Derived.Test.YtfffncaonpokpaaLineList
import Derived.Test.YtfffncaonpokpaaTail
import Derived.Sort.BigQuietIn
import Derived.Sort.QuietIn
import Derived.BigRegionIn
import Derived.Stop.RegionWithIn
namespace Go.Proofs.Ytfffncaonpokpaa
open Go.RowKit Go.Shelf

attribute [local go_sem] Oper.semAt_some

/-- the blocks ks lie as they lay -/
def Keep (ks : List Nat) (A B : World) : Prop := A.heap.size ≤ B.heap.size ∧ ∀ k, k ∈ ks → B.heap[k]? = A.heap[k]?
theorem Keep.refl (ks : List Nat) (A : World) : Keep ks A A := ⟨Nat.le_refl _, fun _ _ => rfl⟩
theorem Keep.trans {ks : List Nat} {A B C : World} (h : Keep ks A B) (k : Keep ks B C) : Keep ks A C := ⟨Nat.le_trans h.1 k.1, fun i hi => (k.2 i hi).trans (h.2 i hi)⟩
theorem Keep.cell {ks : List Nat} {A B : World} (h : Keep ks A B) {p : Addr} (hp : p.block ∈ ks) : B.cell? p = A.cell? p := World.cell?_of_block (h.2 _ hp)
theorem Keep.of_below {ks : List Nat} {A B : World} {n : Nat} (h : Below n A B) (hk : ∀ k, k ∈ ks → k < n) : Keep ks A B := ⟨h.size, fun k hm => h.block k (hk k hm)⟩
theorem Keep.of_only {ks js : List Nat} {A B : World} (h : Only js A B) (hk : ∀ k, k ∈ ks → k < A.heap.size ∧ k ∉ js) : Keep ks A B := ⟨h.size, fun k hm => h.block k (hk k hm).1 (hk k hm).2⟩
theorem keepK_b {ks : List Nat} {w : World} (hn : ∀ k, k ∈ ks → k < w.heap.size) (W : World) (l : Nat) (o o' : Obj) (hl : w.heap.size ≤ l) (_ : W.heap[l]? = some o) (_ : o.isCells = false) (_ : o.isWalk = false) : Keep ks W (W.putObj l o') :=
  ⟨by simp [World.putObj], fun k hm => World.putObj_heap_other (by have := hn k hm; omega)⟩

/-- what an iterator over a ring reads -/
def RingReads (W : World) (Bs p g : Nat) (zs : List Int) : Prop :=
  ∃ size cap first : Nat, size ≤ 1024 ∧ size ≤ cap ∧ zs.length ≤ size ∧ (0 < size → first < size) ∧ W.cell? ⟨Bs, 0, none⟩ = some (.pointer (some ⟨p, 0, none⟩)) ∧ W.cell? ⟨p, 0, none⟩ = some (.slice (some ⟨g, 0, none⟩) size cap) ∧ W.cell? ⟨p, 1, none⟩ = some (.int .i64 first) ∧ W.cell? ⟨p, 2, none⟩ = some (.int .i64 zs.length) ∧
    ∀ i, i < zs.length → W.cell? ⟨g, (first + i) % size, none⟩ = some (.int .i64 (zs[i]?.getD 0))
theorem RingReads.below {w W : World} {Bs p g : Nat} {zs : List Int} (h : RingReads w Bs p g zs) (hW : Below w.heap.size w W) : RingReads W Bs p g zs := by
  obtain ⟨size, cap, first, h1, h2, h3, h4, h5, h6, h7, h8, h9⟩ := h
  have k : ∀ {q : Addr} {v : Value}, w.cell? q = some v → W.cell? q = some v := fun {q v} e => (hW.cell (World.block_lt_of_cell? _ _ e)).trans e
  exact ⟨size, cap, first, h1, h2, h3, h4, k h5, k h6, k h7, k h8, fun i hi => k (h9 i hi)⟩
theorem ringReads_of {w : World} {Bs p g size : Nat} {xs : List Int} (h : IsRing w p g size xs) (hb : w.cell? ⟨Bs, 0, none⟩ = some (.pointer (some ⟨p, 0, none⟩))) : RingReads w Bs p g xs := by
  have hl := h.len_le
  have hs := h.1
  obtain ⟨cap, first, h0, h1, h2, hf, hcap, hx⟩ := h.at_
  exact ⟨size, cap, first, hs, hcap, hl, hf, hb, h0, h1, h2, hx⟩

set_option maxRecDepth 100000 in
set_option maxHeartbeats 8000000 in
theorem ringAll1_in (F : Fence) (n : Nat) (h8 : F.fn 58) (h51 : F.fn 51) (hw : ∀ {m : Nat} {f : FuncId} {args : Array Value} {w : World} {R : Ending → World → Prop}, Calls Try.prog f args w R → CallsIn F m Try.prog f args w R) (hro : F.round = none) (hn : 2 ≤ n) (l Bs p g : Nat) (zs : List Int) (J Jx : List (Nat × Int) → World → Prop)
    (hY : ∀ pre x W, J pre W → pre.length < zs.length → YieldAt F (n - 1) Try.prog l #[.int .i64 (x.1 : Int), .int .i64 x.2] W fun e W' =>
      (e = .returned (.bool true) ∧ J (pre ++ [x]) W' ∧ Keep [Bs, p, g] W W') ∨ (e = .returned (.bool false) ∧ Jx (pre ++ [x]) W'))
    (hJd : ∀ pre W k, J pre W → J pre (W.drewN k))
    (W : World) (hR : RingReads W Bs p g zs) (h0 : J [] W) :
    CallsIn F n Try.prog 58 #[.func (.yield l) #[] #[], .pointer (some ⟨Bs, 0, none⟩)] W fun e W' => (∃ v, e = .returned v) ∧
      ((∃ ys, ys = pairs zs zs.length ∧ J ys W') ∨ (∃ pre, (∃ k, k ≤ zs.length ∧ pre = pairs zs k) ∧ Jx pre W')) := by
  obtain ⟨size, cap, first, hs, hcap, hl, hf, hBs, c0, c1, c2, c3⟩ := hR
  have h1n : 1 ≤ n := by omega
  refine callsIn_of_wp Try.func58 rfl h8 ?_ hro
  simp only [Try.ntmps58, List.size_toArray, List.length_cons, List.length_nil, Nat.reduceAdd, Nat.reduceSub, Array.replicate_succ, Array.replicate_zero, List.push_toArray, List.append_toArray, List.nil_append, List.cons_append]
  gi_wp2
  gi_loopw [8] (fun i wr => ∃ k : Nat, k ≤ zs.length ∧ i = .int .i64 k ∧ J (pairs zs k) wr ∧ Keep [Bs, p, g] W wr)
    (fun i _ => zs.length - (intOf i).toNat)
  case atStart => exact ⟨0, Nat.zero_le _, rfl, h0, Keep.refl _ _⟩
  case round =>
    obtain ⟨k, hk, rfl, hJs, hnx⟩ := hrel
    by_cases hlt : k < zs.length
    · have b0 := (hnx.cell (p := ⟨Bs, 0, none⟩) (by simp)).trans hBs
      have d0 := (hnx.cell (p := ⟨p, 0, none⟩) (by simp)).trans c0
      have d1 := (hnx.cell (p := ⟨p, 1, none⟩) (by simp)).trans c1
      have d3 := (hnx.cell (p := ⟨g, _, none⟩) (by simp)).trans (c3 k hlt)
      have hml : (first + k) % size < size := Nat.mod_lt _ (by omega)
      have PL : Hid (∀ W', W'.cell? ⟨p, 0, none⟩ = some (.slice (some ⟨g, 0, none⟩) size cap) → W'.cell? ⟨p, 1, none⟩ = some (.int .i64 first) → Calls Try.prog 51 #[.pointer (some ⟨p, 0, none⟩), .int .i64 k] W' fun e w' => e = .returned (.int .i64 ((first + k) % size : Nat)) ∧ ∃ n, W'.drewN n = w') :=
        fun W' e0 e1 => ring_place_raw p g cap first size k W' (by omega) hs (hf (by omega)) (by omega) e0 e1
      generalize (first + k) % size = m at hml PL d3
      generalize hz : zs[k]?.getD 0 = z at d3
      have Hz := Lib.hid hz
      have hm0 : (0 : Int) ≤ (m : Int) := by omega
      have hm1 : (m : Int) < (size : Int) := by omega
      clear c0 c1 c2 c3 hz hf
      have hYD : Hid (∀ q, ∃ fn tmps assign body, (Instr.yield l #[.int .i64 (k : Int), .int .i64 z]).run Try.prog (wr.drewN q) = .ok (.round l fn tmps assign body) (wr.drewN q) ∧ RoundIn F (n - 1) Try.prog l fn tmps assign body (wr.drewN q) fun e W' => ∃ bb : Bool, e = .returned (.bool bb) ∧ ((bb = true ∧ J (pairs zs k ++ [(k, z)]) W' ∧ Keep [Bs, p, g] wr W') ∨ (bb = false ∧ Jx (pairs zs k ++ [(k, z)]) W'))) := fun q => by
        obtain ⟨fn, tmps, assign, body, hy, hR⟩ := hY _ (k, z) (wr.drewN q) (hJd _ _ q hJs) (by rw [pairs, upto_length]; exact hlt)
        refine ⟨fn, tmps, assign, body, hy, hR.mono ?_⟩
        rintro e W' (⟨rfl, h1, h2⟩ | ⟨rfl, h1⟩)
        · exact ⟨true, rfl, .inl ⟨rfl, h1, h2⟩⟩
        · exact ⟨false, rfl, .inr ⟨rfl, h1⟩⟩
      have HJ := Lib.hid hJs
      clear hJs
      gi_wp2_with fail
      refine region_tail_in 11 hro (by kernel_rfl) (by kernel_rfl) ?_
      simp only [List.take_succ_cons, List.take_zero]
      repeat (gi_big_quiet_step ((gi_at_call 51; refine (hw (PL.out _ (by simp [*]) (by simp [*]))).mono ?_; rintro e w' ⟨rfl, n', rfl⟩; exact ⟨rfl, _, (World.drewN_drewN _ _ _)⟩)))
      refine wpQuietIn_nil ?_
      rintro _ ⟨q, rfl⟩
      obtain ⟨fn, tmps, assign, body, hy, hR⟩ := hYD.out q
      simp only [List.drop_succ_cons, List.drop_zero]
      gi_wp2_with fail
      refine RoundIn.mono hR ?_
      have hsc : pairs zs (k + 1) = pairs zs k ++ [(k, z)] := by rw [pairs, upto_succ, Hz.out]; rfl
      rintro e W3 ⟨bb, rfl, ⟨rfl, hJ3, hk3⟩ | ⟨rfl, hJx⟩⟩
      · gi_wp2
        refine ⟨⟨k + 1, by omega, by simp, by rw [hsc]; exact hJ3, hnx.trans hk3⟩, ?_⟩
        simp only [intOf]
        omega
      · gi_wp2
        refine bodyPost_ret (results_none rfl _ _ _) rfl ?_
        exact ⟨⟨_, rfl⟩, .inr ⟨_, ⟨k + 1, by omega, rfl⟩, by rw [hsc]; exact hJx⟩⟩
    · obtain rfl : k = zs.length := by omega
      gi_wp2
      go_end0
      exact ⟨⟨_, rfl⟩, .inl ⟨_, rfl, hJs⟩⟩

set_option maxHeartbeats 1000000 in
/-- a ring's All: the ring's pointer is boxed -/
theorem ringAll_in (F : Fence) (n : Nat) (h : F.fn 45) (hro : F.round = none) (p : Nat) (w : World) :
    CallsIn F n Try.prog 45 #[.pointer (some ⟨p, 0, none⟩)] w fun e w' => e = .returned (.func (.func 58) #[] #[.pointer (some ⟨w.heap.size, 0, none⟩)]) ∧ w' = w.alloc (.cells #[.pointer (some ⟨p, 0, none⟩)] 35) := by
  refine callsIn_of_wp Try.func45 rfl h ?_ hro
  simp only [Try.ntmps45, List.size_toArray, List.length_cons, List.length_nil, Nat.reduceAdd, Nat.reduceSub, Array.replicate_succ, Array.replicate_zero, List.push_toArray, List.append_toArray, List.nil_append, List.cons_append]
  gi_wp2
  go_ret
  exact ⟨rfl, rfl⟩

theorem ringAll_stops (F : Fence) (n : Nat) (h8 : F.fn 58) (h51 : F.fn 51) (hw : ∀ {m : Nat} {f : FuncId} {args : Array Value} {w : World} {R : Ending → World → Prop}, Calls Try.prog f args w R → CallsIn F m Try.prog f args w R) (hro : F.round = none) (hn : 2 ≤ n) (Bs p g : Nat) (zs : List Int) (w : World) (hR : RingReads w Bs p g zs) :
    SeqStopsK F n Try.prog 58 #[.pointer (some ⟨Bs, 0, none⟩)] (fun x : Nat × Int => #[Value.int .i64 (x.1 : Int), Value.int .i64 x.2]) (Keep [Bs, p, g]) (fun ys => ys = pairs zs zs.length)
      (fun pre => ∃ k, k ≤ zs.length ∧ pre = pairs zs k) zs.length w := fun l J Jx W hW hA hB hY h0 => by
  refine ringAll1_in F n h8 h51 hw hro hn l Bs p g zs J Jx hY ?_ W ?_ h0
  · exact fun pre W' k h => hA pre W' _ none h ⟨rfl, rfl, rfl, Nat.le_refl _, fun _ _ _ => rfl⟩ (fun r e => nomatch e)
  · exact hR.below hW

theorem own_weaken {w : World} {B B' e size n : Nat} {v : Value} {xs : List Value} (h : w.ownsRow B e size v n xs) (hB : B' ≤ B) : w.ownsRow B' e size v n xs := by
  refine ⟨h.1, ?_⟩
  rcases h.2 with h0 | ⟨g, cap, cur, rfl, hg0, hg, rest⟩
  · exact .inl h0
  · exact .inr ⟨g, cap, cur, rfl, Nat.le_trans hB hg0, hg, rest⟩
theorem own_drewN {w : World} {B e size n : Nat} {v : Value} {xs : List Value} (h : w.ownsRow B e size v n xs) (k : Nat) : (w.drewN k).ownsRow B e size v n xs := h
theorem Boxed.ofRow {X Y : World} {B : Nat} {t : TypeId} {v : Value} {row : Option Nat} (h : Boxed X B t v) (hg : X.grownBy Y row) (hrow : ∀ r, row = some r → ∃ o : Obj, X.heap[r]? = some o ∧ o.isCells = false) : Boxed Y B t v := by
  refine h.kept hg (fun e' => ?_)
  obtain ⟨o, ho, hc⟩ := hrow _ e'.symm
  rw [show X.heap[B]? = _ from h] at ho; cases ho; cases hc

end Go.Proofs.Ytfffncaonpokpaa
