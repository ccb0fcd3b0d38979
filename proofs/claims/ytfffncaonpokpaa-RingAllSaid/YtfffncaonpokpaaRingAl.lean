/- RingAll: the walk; no condition but that the calls can be read. -/
import Derived.Test.YtfffncaonpokpaaRingPl
namespace Go.Proofs.Ytfffncaonpokpaa
open Go.RowKit
attribute [local go_sem] Oper.semAt_some

theorem Lst.setBox {w : World} {p g B : Nat} {t : TypeId} {v u : Value} {xs : List Int} {a : Option Addr} {n c : Nat} (h : Lst w p g v xs) (hB : Boxed w B t (.slice a n c)) : Lst (w.setCell ⟨B, 0, none⟩ u) p g v xs := by
  obtain ⟨A, cap, e, hc, hx⟩ := h
  refine ⟨A, cap, e, hc, fun h0 => ?_⟩
  obtain ⟨b, off, e2, hb, h1, h2, hcell⟩ := hx h0
  have hne : b ≠ B := by
    intro e3
    subst e3
    have h3 := hcell 0 h0
    rw [Nat.add_zero] at h3
    have h4 := (show Blk w b t #[.slice a n c] from hB).cell off
    rw [h3] at h4
    match off, h4 with
    | 0, h4 => simp at h4
    | k + 1, h4 => simp at h4
  refine ⟨b, off, e2, by simpa using hb, h1, h2, fun j hj => ?_⟩
  rw [World.cell?_setCell_other _ _ _ _ (fun e3 => hne (congrArg Addr.block e3).symm)]
  exact hcell j hj

/-- what the range over All holds -/
structure AllSt (w : World) (B1 nb p : Nat) (A : Option Addr) (c stop : Nat) (xs : List Int) (n : Nat) (W : World) : Prop where
  bn : Boxed W nb 3 (.int .i64 n)
  bp : Boxed W (nb + 1) 35 (.pointer (some ⟨p, 0, none⟩))
  bl : Boxed W B1 34 (.slice A xs.length c)
  bs : Boxed W w.heap.size 3 (.int .i64 stop)
  br : Boxed W (w.heap.size + 1) 4 (.bool false)
  ls : Lst W nb nb (.slice A xs.length c) xs
  bb : Below w.heap.size w W
theorem Lst.ofRow {X Y : World} {p g : Nat} {v : Value} {xs : List Int} {row : Option Nat} (h : Lst X p g v xs) (hg : X.grownBy Y row) (hrow : ∀ r, row = some r → ∃ o : Obj, X.heap[r]? = some o ∧ o.isCells = false) : Lst Y p g v xs := by
  obtain ⟨A, c, e, hc, hx⟩ := h
  refine ⟨A, c, e, hc, fun h0 => ?_⟩
  obtain ⟨b, off, e2, hb, h1, h2, hcell⟩ := hx h0
  exact ⟨b, off, e2, Nat.lt_of_lt_of_le hb hg.size, h1, h2, fun j hj => cell_kept (hcell j hj) hg hrow⟩
theorem AllSt.own {w : World} {B1 nb p : Nat} {A : Option Addr} {c stop : Nat} {xs : List Int} {base : Nat} (hb : w.heap.size ≤ base) : OwnFrom base (fun n W => AllSt w B1 nb p A c stop xs n W) := by
  intro n X Y row h hg hr
  have hr' : ∀ r, row = some r → ∃ o : Obj, X.heap[r]? = some o ∧ o.isCells = false := fun r e => (hr r e).2
  exact ⟨Boxed.ofRow h.bn hg hr', Boxed.ofRow h.bp hg hr', Boxed.ofRow h.bl hg hr', Boxed.ofRow h.bs hg hr', Boxed.ofRow h.br hg hr', h.ls.ofRow hg hr', h.bb.grown hg h.bb.size (fun k e => Nat.le_trans hb (hr k e).1)⟩
theorem AllSt.put {w W : World} {B1 nb p : Nat} {A : Option Addr} {c stop : Nat} {xs : List Int} {n : Nat} (m : Nat) (h : AllSt w B1 nb p A c stop xs n W) (h1 : B1 ≠ nb) (h2 : w.heap.size + 1 < nb) : AllSt w B1 nb p A c stop xs m (W.setCell ⟨nb, 0, none⟩ (.int .i64 m)) := by
  have hg := grownBy_setCell' W nb (.int .i64 m)
  refine ⟨h.bn.set _, h.bp.kept hg (by simp), h.bl.kept hg (by simpa using h1), h.bs.kept hg (by simp; omega), h.br.kept hg (by simp; omega), h.ls.keep ((Only.refl (ks := [nb])).setCell (.inl (by simp)) _) (by simp), h.bb.setCell (p := ⟨nb, 0, none⟩) (by dsimp only; omega) _⟩

set_option maxRecDepth 100000 in
set_option maxHeartbeats 4000000 in
theorem ringAll_walk (size : Nat) (A : Option Addr) (cap stop : Nat) (ops : List (List Int)) (w : World) (h24 : size ≤ 60) (h80 : ops.length ≤ 60) (hst : 1 ≤ stop) (hops : CallsAt w A ops) :
    Calls Try.prog 12 #[.int .i64 size, .slice A ops.length cap, .int .i64 stop] w fun e w' => e = .returned (.bool true) ∧ Below w.heap.size w w' := by
  have f1 : ¬ ((size : Int) < 0) := by omega
  have f2 : ¬ (60 < (size : Int)) := by omega
  have f3 : ¬ (60 < (ops.length : Int)) := by omega
  have f4 : ¬ ((stop : Int) < 1) := by omega
  refine (callsIn_wide (n := 4)).1 ?_
  refine callsIn_of_wp_marks Try.func12 rfl trivial ?_ rfl
  simp only [Try.ntmps12, List.size_toArray, List.length_cons, List.length_nil, Nat.reduceAdd, Nat.reduceSub, Array.replicate_succ, Array.replicate_zero, List.push_toArray, List.append_toArray, List.nil_append, List.cons_append]
  refine wpIn_wide.2 ?_
  go_wp2_with fail
  refine (ring_new_ok size (by omega) _).mono ?_
  rintro e w1 ⟨p0, g0, rfl, hp, hg, hI1, hb1⟩
  have bS : Boxed w1 w.heap.size 3 (.int .i64 stop) := by
    have := Boxed.new w 3 (.int .i64 stop)
    exact (hb1.block _ (by simp; omega)).trans ((this.alloc (.cells #[.bool false] 4)))
  have bR : Boxed w1 (w.heap.size + 1) 4 (.bool false) := by
    have := Boxed.new (w.alloc (.cells #[.int .i64 stop] 3)) 4 (.bool false)
    rw [World.size_alloc] at this
    exact (hb1.block _ (by simp)).trans this
  have hb1' : Below w.heap.size w w1 := (((Below.refl _ w).alloc (Nat.le_refl _) (.cells #[.int .i64 stop] 3)).alloc (by simp) (.cells #[.bool false] 4)).trans (hb1.mono (by simp; omega))
  have hp' : w.heap.size + 1 + 1 ≤ p0 := by simpa using hp
  have hg' : w.heap.size + 1 + 1 ≤ g0 := by simpa using hg
  have hlt1 := hI1.lt
  have bL := Boxed.new w1 34 (.slice none 0 0)
  have hs1 := hb1'.size
  clear hp hg hb1
  go_wp2_with fail
  go_loopw [45, 7] (fun i r wr => ∃ (k p g : Nat) (xs : List Int) (v : Value), k ≤ ops.length ∧ i = .int .i64 k ∧ r = .pointer (some ⟨p, 0, none⟩) ∧ Boxed wr w1.heap.size 34 v ∧ Lst wr p g v xs ∧ IsRing wr p g size xs ∧ w.heap.size + 1 + 1 ≤ p ∧ w.heap.size + 1 + 1 ≤ g ∧ p ≠ w1.heap.size ∧ g ≠ w1.heap.size ∧ Boxed wr w.heap.size 3 (.int .i64 stop) ∧ Boxed wr (w.heap.size + 1) 4 (.bool false) ∧ Below w.heap.size w wr ∧ w1.heap.size < wr.heap.size) (fun i _ _ => ops.length - (intOf i).toNat)
  case atStart => exact ⟨0, p0, g0, [], _, by omega, rfl, rfl, bL, ⟨none, 0, rfl, Nat.le_refl _, fun h => by simp at h⟩, hI1.alloc _, hp', hg', by omega, by omega, bS.alloc _, bR.alloc _, hb1'.alloc hs1 _, by simp⟩
  case round =>
    obtain ⟨k, p, g, xs, v, hk, rfl, rfl, hbL, hL, hI, hp, hg, hp1, hg1, hbS, hbR, hb, hsz⟩ := hrel
    have hL3 := hL
    obtain ⟨A', c', rfl, hc, h00⟩ := hL3
    clear h00
    by_cases hlt : k < ops.length
    · obtain ⟨b, off, rfl, hbl, hc0, hc1⟩ := hops k hlt
      have hd0 := (hb.cell (p := ⟨b, off + k * 2, none⟩) hbl).trans hc0
      have hd1 := (hb.cell (p := ⟨b, off + k * 2 + 1, none⟩) hbl).trans hc1
      generalize (ops[k]?.getD [])[0]?.getD 0 = kind at hd0
      generalize (ops[k]?.getD [])[1]?.getD 0 = N at hd1
      clear hc0 hc1 hops
      have hba := (Below.refl wr.heap.size wr).alloc (Nat.le_refl _) (.cells #[.int .i64 kind, .int .i64 N] 66)
      have hIa := hI.below hba (Nat.le_refl _)
      have hLa := hL.below hba
      have hbb := hb.trans (hba.mono hb.size)
      have hsa := hba.size
      have cL := (hbL.alloc (.cells #[.int .i64 kind, .int .i64 N] 66)).cell
      go_wp2_with fail
      refine (step12 kind N _ hIa hLa).mono ?_
      rintro e w2 ⟨p', g', v', ys, rfl, hI2, hL2, hpg2, ho2⟩
      have hL4 := hL2
      obtain ⟨A2, c3, rfl, _, h00⟩ := hL4
      clear h00
      have hs2 := ho2.size
      have hb2 := hbb.trans (Only.below (B := w.heap.size) ho2 hbb.size (by simp; omega))
      have bL2 : Boxed w2 w1.heap.size 34 (.slice A' xs.length c') := (ho2.block _ (by omega) (by simp; omega)).trans (hbL.alloc _)
      have bS2 : Boxed w2 w.heap.size 3 (.int .i64 stop) := (ho2.block _ (by omega) (by simp; omega)).trans (hbS.alloc _)
      have bR2 : Boxed w2 (w.heap.size + 1) 4 (.bool false) := (ho2.block _ (by omega) (by simp; omega)).trans (hbR.alloc _)
      have c2 := bL2.cell
      have f2 := bL2.frozen
      go_wp2
      go_roundw
      case rel => exact ⟨k + 1, p', g', ys, _, by omega, by go_num, rfl, bL2.set _, hL2.setBox bL2, hI2.only ((Only.refl (ks := [w1.heap.size])).setCell (.inl (by simp)) _) (by simp; omega) (by simp; omega), by omega, by omega, by omega, by omega, bS2.kept (grownBy_setCell' w2 w1.heap.size _) (by simp; omega), bR2.kept (grownBy_setCell' w2 w1.heap.size _) (by simp; omega), hb2.setCell (p := ⟨w1.heap.size, 0, none⟩) (by simp; omega) _, by simp; omega⟩
      case measure => simp [intOf]; omega
    · obtain rfl : k = ops.length := by omega
      have cL := hbL.cell
      go_wp2_with (go_at_call 45; refine (callsIn_wide.1 (ringAll_in Fence.wide 4 trivial rfl p _)).mono ?_; rintro e w2 ⟨rfl, rfl⟩)
      have hsl := hI.lt
      generalize hW0 : (wr.alloc (.cells #[.int .i64 0] 3)).alloc (.cells #[.pointer (some ⟨p, 0, none⟩)] 35) = W0
      have hs0 : W0.heap.size = wr.heap.size + 1 + 1 := by subst hW0; simp
      have hBW : Below wr.heap.size wr W0 := by subst hW0; exact (((Below.refl wr.heap.size wr).alloc (Nat.le_refl _) _).alloc (by simp) _)
      have hst0 : AllSt w w1.heap.size wr.heap.size p A' c' stop xs 0 W0 := by
        have b1 : Boxed W0 wr.heap.size 3 (.int .i64 0) := by subst hW0; exact (Boxed.new wr 3 (.int .i64 0)).alloc _
        have b2 : Boxed W0 (wr.heap.size + 1) 35 (.pointer (some ⟨p, 0, none⟩)) := by
          subst hW0
          have := Boxed.new (wr.alloc (.cells #[.int .i64 0] 3)) 35 (.pointer (some ⟨p, 0, none⟩))
          rwa [World.size_alloc] at this
        exact ⟨b1, b2, (hBW.block _ (by omega)).trans hbL, (hBW.block _ (by omega)).trans hbS, (hBW.block _ (by omega)).trans hbR, (hL.move (Nat.le_refl _) (Nat.le_refl _)).below hBW, hb.trans (hBW.mono hb.size)⟩
      have hRR := ringReads_of (hI.below hBW (Nat.le_refl _)) hst0.bp.cell
      have hlen := hI.len_le
      clear hW0 cL hbL hbS hbR hL
      generalize hQQ : Exit.inBlock 2 _ = QQ
      have hx2 : ∀ a W, QQ .normal a W → QQ (.exit 2) a W := by subst hQQ; exact fun _ _ h => h
      have key : ∀ D W n, w.heap.size ≤ D → AllSt w w1.heap.size wr.heap.size p A' c' stop xs n W → n ≤ stop → n ≤ xs.length → (n = stop ∨ n = xs.length) → W.heap[D]? = some (.deferred (some [])) → QQ .normal { tmps := #[Value.int .i64 size, Value.slice A ops.length cap, Value.int .i64 stop, undef, undef, Value.pointer (some ⟨w.heap.size, 0, none⟩), Value.pointer (some ⟨w.heap.size + 1, 0, none⟩), Value.pointer (some ⟨p, 0, none⟩), Value.int .i64 0, Value.pointer (some ⟨w1.heap.size, 0, none⟩), undef, u11, u12, Value.pointer (some ⟨wr.heap.size, 0, none⟩), undef, undef, Value.slice A ops.length cap, Value.int .i64 ops.length, Value.bool false, Value.bool false, Value.int .i64 size, Value.bool false, Value.bool false, Value.bool false, Value.int .i64 size, Value.bool false, Value.bool false, Value.bool false, Value.int .i64 stop, Value.bool false, Value.bool false, undef, Value.tuple #[Value.pointer (some ⟨p0, 0, none⟩), Value.int .i64 0], Value.int .i64 size, Value.tuple #[Value.pointer (some ⟨p0, 0, none⟩), Value.int .i64 0], Value.pointer (some ⟨p0, 0, none⟩), Value.int .i64 0, Value.int .i64 0, Value.bool false, Value.bool false, Value.pointer (some ⟨p0, 0, none⟩), Value.bool false, Value.bool false, Value.slice A ops.length cap, Value.int .i64 ops.length, Value.int .i64 ops.length, Value.bool false, u47, u48, u49, u50, u51, u52, u53, u54, u55, u56, u57, u58, u59, u60, Value.pointer (some ⟨p, 0, none⟩), Value.func (Fn.func 58) #[] #[Value.pointer (some ⟨wr.heap.size + 1, 0, none⟩)], undef, undef, undef, undef, undef, undef, undef, undef, undef, undef, undef, undef, undef, undef, undef, undef, undef, undef, undef, undef, undef, undef, undef, undef, undef, undef, undef, undef, undef, undef, undef, undef, undef], defers := [{ target := .collected D, args := #[] }] } W := by
        subst hQQ
        clear hx2
        rintro D W n hD hh hn1 hn2 hn3 hK
        have c1 := hh.bn.cell
        have c2 := hh.bl.cell
        have c3 := hh.bs.cell
        go_wp2_with fail
        all_goals (refine (awake12 _).mono ?_)
        all_goals (rintro e w5 ⟨rfl, hb5⟩)
        all_goals (have br5 : Boxed w5 (w.heap.size + 1) 4 (.bool false) := (hb5.block _ (lt_of_block hh.br)).trans hh.br)
        all_goals (have d5 := br5.cell)
        all_goals (have z5 := br5.frozen)
        all_goals (have hK5 : w5.heap[D]? = some (.deferred (some [])) := (hb5.block _ (lt_of_block hK)).trans hK)
        all_goals (have hb6 : Below w.heap.size w w5 := hh.bb.trans (hb5.mono hh.bb.size))
        all_goals go_wp2
        all_goals (have hK6 := (KeepsOthers.setCell w5 ⟨w.heap.size + 1, 0, none⟩ (.bool true)).same D _ hK5 rfl)
        all_goals (refine ⟨by simp, .inl ⟨_, _, rfl, run_takeDeferred hK6, ?_⟩⟩)
        all_goals (have br6 := br5.set (.bool true))
        all_goals (have hc6 := cell_kept br6.cell (grownBy_putObj' _ D (.deferred none)) (fun r e => by cases e; exact ⟨_, hK6, rfl⟩))
        all_goals (refine ⟨.bool true, ?_, rfl, (hb6.setCell (p := ⟨w.heap.size + 1, 0, none⟩) (by dsimp only; omega) _).trans (belowK_b (w := w) (Nat.le_refl _) _ D _ _ hD hK6 rfl rfl)⟩)
        all_goals (simp [results, go_sem, hc6])
      refine (wpIn_wide (n := 4)).1 ?_
      refine wpIn_rangeFunc_ownG (n := 4) rfl (by omega) (gf := 58) (lb := #[.pointer (some ⟨wr.heap.size + 1, 0, none⟩)]) rfl trivial (enters_of Try.func58 (by kernel_rfl) rfl)
        (ringAll_stops Fence.wide 3 trivial trivial (fun h => callsIn_wide.2 h) rfl (by omega) (wr.heap.size + 1) p g xs W0 hRR) Keep.trans (keepK_b (by simp; omega)) (Below.refl _ _) (fun _ => rfl)
        (fun pre W => AllSt w w1.heap.size wr.heap.size p A' c' stop xs pre.length W ∧ pre.length < stop)
        (fun cd (pre : List (Nat × Int)) W => (cd = .ret ∧ ∃ (ini : List (Nat × Int)) (x : Nat × Int), pre = ini ++ [x] ∧ (x.1 ≠ ini.length ∨ x.2 ≠ xs[ini.length]?.getD 0)) ∨ (cd = .exit 2 ∧ pre.length = stop ∧ AllSt w w1.heap.size wr.heap.size p A' c' stop xs stop W))
        ?own ?ownx ⟨hst0, by simp; omega⟩
        (fun x => { tmps := #[Value.int .i64 size, Value.slice A ops.length cap, Value.int .i64 stop, undef, undef, Value.pointer (some ⟨w.heap.size, 0, none⟩), Value.pointer (some ⟨w.heap.size + 1, 0, none⟩), Value.pointer (some ⟨p, 0, none⟩), Value.int .i64 0, Value.pointer (some ⟨w1.heap.size, 0, none⟩), undef, u11, u12, Value.pointer (some ⟨wr.heap.size, 0, none⟩), Value.int .i64 (x.1 : Int), Value.int .i64 x.2, Value.slice A ops.length cap, Value.int .i64 ops.length, Value.bool false, Value.bool false, Value.int .i64 size, Value.bool false, Value.bool false, Value.bool false, Value.int .i64 size, Value.bool false, Value.bool false, Value.bool false, Value.int .i64 stop, Value.bool false, Value.bool false, undef, Value.tuple #[Value.pointer (some ⟨p0, 0, none⟩), Value.int .i64 0], Value.int .i64 size, Value.tuple #[Value.pointer (some ⟨p0, 0, none⟩), Value.int .i64 0], Value.pointer (some ⟨p0, 0, none⟩), Value.int .i64 0, Value.int .i64 0, Value.bool false, Value.bool false, Value.pointer (some ⟨p0, 0, none⟩), Value.bool false, Value.bool false, Value.slice A ops.length cap, Value.int .i64 ops.length, Value.int .i64 ops.length, Value.bool false, u47, u48, u49, u50, u51, u52, u53, u54, u55, u56, u57, u58, u59, u60, Value.pointer (some ⟨p, 0, none⟩), Value.func (Fn.func 58) #[] #[Value.pointer (some ⟨wr.heap.size + 1, 0, none⟩)], Value.int .i64 (x.1 : Int), Value.int .i64 x.2, undef, undef, undef, undef, undef, undef, undef, undef, undef, undef, undef, undef, undef, undef, undef, undef, undef, undef, undef, undef, undef, undef, undef, undef, undef, undef, undef, undef, undef, undef, undef], defers := [] }) ?assign ?body ?done ?stop
      case own => exact fun s X Y row hs hg hr => ⟨AllSt.own (by omega) _ X Y row hs.1 hg hr, hs.2⟩
      case ownx =>
        rintro cd s X Y row (h | ⟨h1, h2, h3⟩) hg hr
        · exact .inl h
        · exact .inr ⟨h1, h2, AllSt.own (by omega) _ X Y row h3 hg hr⟩
      case assign =>
        intro l x W K hK
        gi_wp2
        exact hK
      case body =>
        rintro l pre x W ⟨hh, hps⟩ hlt
        obtain ⟨x1, x2⟩ := x
        have c1 := hh.bn.cell
        have fz1 := hh.bn.frozen
        have c2 := hh.bl.cell
        have c3 := hh.bs.cell
        have c4 := hh.br.cell
        have fz4 := hh.br.frozen
        by_cases hx : x1 = pre.length
        · have hx0 := hx
          subst hx
          obtain ⟨b, off, rfl, hbl, hcl⟩ := hh.ls.at_ pre.length hlt
          by_cases hz : x2 = xs[pre.length]?.getD 0
          · subst hz
            have hzz := hcl
            generalize xs[pre.length]?.getD 0 = z at hcl hzz
            have m1 : ¬ ((xs.length : Int) ≤ (pre.length : Int)) := by omega
            have m2 : (0 : Int) ≤ (pre.length : Int) := by omega
            have m3 : (pre.length : Int) < (xs.length : Int) := by omega
            have hp := fun m => AllSt.put m hh (by omega) (by omega)
            by_cases hst2 : pre.length + 1 = stop
            · have m4 : ((pre.length : Int) + 1 == (stop : Int)) = true := by simp; omega
              have hp2 := hp stop
              rw [show ((stop : Nat) : Int) = (pre.length : Int) + 1 by omega] at hp2
              have HP := Lib.hid hp2
              clear hp2
              gi_wp2
              exact ⟨(KeepsOthers.setCell _ _ _).from _, .inr ⟨rfl, by simp; omega, HP.out⟩⟩
            · have m4 : ((pre.length : Int) + 1 == (stop : Int)) = false := by simp; omega
              have hp2 := hp (pre.length + 1)
              rw [show ((pre.length + 1 : Nat) : Int) = (pre.length : Int) + 1 by omega] at hp2
              have HP := Lib.hid hp2
              clear hp2
              gi_wp2
              refine ⟨(KeepsOthers.setCell _ _ _).from _, ⟨by simp, fun k hk => Below.heap_setCell _ _ _ k ?_⟩, by simpa using HP.out, by simp; omega⟩
              simp only [List.mem_cons, List.not_mem_nil, or_false] at hk
              dsimp only
              omega
          · have hHz := Lib.hid hz
            have hz2 : (x2 != xs[pre.length]?.getD 0) = true := by simpa using hz
            generalize xs[pre.length]?.getD 0 = z at hcl hz2
            clear hz
            have m1 : ¬ ((xs.length : Int) ≤ (pre.length : Int)) := by omega
            have m2 : (0 : Int) ≤ (pre.length : Int) := by omega
            have m3 : (pre.length : Int) < (xs.length : Int) := by omega
            gi_wp2
            exact ⟨(KeepsOthers.setCell _ _ _).from _, .inl ⟨rfl, pre, pre.length, x2, rfl, .inr hHz.out⟩⟩
        · have hne : ((x1 : Int) != (pre.length : Int)) = true := by rw [bne_iff_ne]; omega
          gi_wp2
          exact ⟨(KeepsOthers.setCell _ _ _).from _, .inl ⟨rfl, pre, x1, x2, rfl, .inl hx⟩⟩
      case done =>
        rintro D ys W hD rfl ⟨hh, hps⟩ hK
        have e1 : (pairs xs xs.length).length = xs.length := upto_length _ _
        rw [e1] at hh hps
        exact key D W xs.length (by omega) hh (by omega) (by omega) (.inr rfl) hK
      case stop =>
        rintro D cd pre W hD ⟨k, hk, hpre⟩ (⟨_, ini, x, hp2, hne⟩ | ⟨rfl, h1, h2⟩) hK
        · have hq := hp2.symm.trans hpre
          have e2 := pairs_fst hq
          rcases hne with hne | hne
          · exact absurd e2 hne
          · have e3 : x ∈ pairs xs k := by rw [← hq]; simp
            simp only [pairs, upto, List.mem_map, List.mem_range] at e3
            obtain ⟨j, hj, rfl⟩ := e3
            dsimp only at e2 hne
            subst e2
            exact absurd rfl hne
        · have e1 : pre.length = k := by rw [hpre]; exact upto_length _ _
          refine wpIn_wide.2 ?_
          go_wp2
          exact hx2 _ _ (key D W stop (by omega) h2 (by omega) (by omega) (.inl rfl) hK)

set_option maxRecDepth 100000 in
set_option maxHeartbeats 4000000 in
theorem ringAll_out (size : Int) (A : Option Addr) (cap : Nat) (rows : List (List Int)) (stop : Int) (w : World) (hg : 60 < (rows.length : Int) ∨ size < 0 ∨ 60 < size ∨ stop < 1) :
    Calls Try.prog 12 #[.int .i64 size, .slice A rows.length cap, .int .i64 stop] w fun e w' => e = .returned (.bool true) ∧ Below w.heap.size w w' := by
  have bR := Boxed.new (w.alloc (.cells #[.int .i64 stop] 3)) 4 (.bool false)
  rw [World.size_alloc] at bR
  have hB : Below w.heap.size w ((w.alloc (.cells #[.int .i64 stop] 3)).alloc (.cells #[.bool false] 4)) := ((Below.refl _ w).alloc (Nat.le_refl _) _).alloc (by simp) _
  by_cases h1 : 60 < (rows.length : Int)
  · go_enter Try.func12, Try.ntmps12
    go_wp2_with fail
    refine (awake12 _).mono ?_
    rintro e w5 ⟨rfl, hb5⟩
    have br5 : Boxed w5 (w.heap.size + 1) 4 (.bool false) := (hb5.block _ (by simp)).trans bR
    have d5 := br5.cell
    have z5 := br5.frozen
    have hb6 : Below w.heap.size w w5 := hB.trans (hb5.mono (by simp; omega))
    go_wp2
    have c6 := (br5.set (.bool true)).cell
    refine bodyPost_ret (by simp [results, go_sem, c6]; rfl) rfl ?_
    exact ⟨rfl, hb6.setCell (p := ⟨w.heap.size + 1, 0, none⟩) (by dsimp only; omega) _⟩
  by_cases h2 : size < 0
  · go_enter Try.func12, Try.ntmps12
    go_wp2_with fail
    refine (awake12 _).mono ?_
    rintro e w5 ⟨rfl, hb5⟩
    have br5 : Boxed w5 (w.heap.size + 1) 4 (.bool false) := (hb5.block _ (by simp)).trans bR
    have d5 := br5.cell
    have z5 := br5.frozen
    have hb6 : Below w.heap.size w w5 := hB.trans (hb5.mono (by simp; omega))
    go_wp2
    have c6 := (br5.set (.bool true)).cell
    refine bodyPost_ret (by simp [results, go_sem, c6]; rfl) rfl ?_
    exact ⟨rfl, hb6.setCell (p := ⟨w.heap.size + 1, 0, none⟩) (by dsimp only; omega) _⟩
  by_cases h3 : 60 < size
  · go_enter Try.func12, Try.ntmps12
    go_wp2_with fail
    refine (awake12 _).mono ?_
    rintro e w5 ⟨rfl, hb5⟩
    have br5 : Boxed w5 (w.heap.size + 1) 4 (.bool false) := (hb5.block _ (by simp)).trans bR
    have d5 := br5.cell
    have z5 := br5.frozen
    have hb6 : Below w.heap.size w w5 := hB.trans (hb5.mono (by simp; omega))
    go_wp2
    have c6 := (br5.set (.bool true)).cell
    refine bodyPost_ret (by simp [results, go_sem, c6]; rfl) rfl ?_
    exact ⟨rfl, hb6.setCell (p := ⟨w.heap.size + 1, 0, none⟩) (by dsimp only; omega) _⟩
  by_cases h4 : stop < 1
  · go_enter Try.func12, Try.ntmps12
    go_wp2_with fail
    refine (awake12 _).mono ?_
    rintro e w5 ⟨rfl, hb5⟩
    have br5 : Boxed w5 (w.heap.size + 1) 4 (.bool false) := (hb5.block _ (by simp)).trans bR
    have d5 := br5.cell
    have z5 := br5.frozen
    have hb6 : Below w.heap.size w w5 := hB.trans (hb5.mono (by simp; omega))
    go_wp2
    have c6 := (br5.set (.bool true)).cell
    refine bodyPost_ret (by simp [results, go_sem, c6]; rfl) rfl ?_
    exact ⟨rfl, hb6.setCell (p := ⟨w.heap.size + 1, 0, none⟩) (by dsimp only; omega) _⟩
  omega

set_option maxRecDepth 100000 in
set_option maxHeartbeats 4000000 in
theorem ringAll_any (size : Int) (A : Option Addr) (cap : Nat) (rows : List (List Int)) (stop : Int) (w : World) (_hm : (Lit.int .i64 size).wf = true)
    (h : ∀ i, i < rows.length → ∃ b off, A = some ⟨b, off, none⟩ ∧ b < w.heap.size ∧ ∀ j, j < 2 →
      w.cell? ⟨b, off + (i * 2 + j), none⟩ = some (.int .i64 ((rows[i]?.getD [])[j]?.getD 0)) ∧ (Lit.int .i64 ((rows[i]?.getD [])[j]?.getD 0)).wf = true) (_hc : rows.length ≤ cap) (_hs : (Lit.int .i64 stop).wf = true) :
    Calls Try.prog 12 #[.int .i64 size, .slice A rows.length cap, .int .i64 stop] w fun e w' => e = .returned (.bool true) ∧ Below w.heap.size w w' := by
  have hops : CallsAt w A rows := fun i hi => by
    obtain ⟨b, off, h1, h2, h3⟩ := h i hi
    exact ⟨b, off, h1, h2, by have := (h3 0 (by omega)).1; simpa using this, by have := (h3 1 (by omega)).1; simpa [Nat.add_assoc] using this⟩
  clear h
  by_cases hg : 60 < (rows.length : Int) ∨ size < 0 ∨ 60 < size ∨ stop < 1
  · exact ringAll_out size A cap rows stop w hg
  obtain ⟨s, rfl⟩ : ∃ s : Nat, size = s := ⟨size.toNat, by omega⟩
  obtain ⟨t, rfl⟩ : ∃ t : Nat, stop = t := ⟨stop.toNat, by omega⟩
  exact ringAll_walk s A cap t rows w (by omega) (by omega) (by omega) hops

end Go.Proofs.Ytfffncaonpokpaa
