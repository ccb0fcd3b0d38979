/- LineOrder: the walk; printed by wip/gen/lineord.py from wip/gen/lineord.in. -/
import Derived.Test.YtfffncaonpokpaaLineOrdA
namespace Go.Proofs.Ytfffncaonpokpaa
open Go.RowKit Go.Shelf
attribute [local go_sem] Oper.semAt_some

set_option maxRecDepth 100000 in
set_option maxHeartbeats 4000000 in
theorem lineOrder_walk (most : Int) (A : Option Addr) (cap stop : Nat) (ops : List (List Int)) (w : World) (hm1 : 1 ≤ most) (hm2 : most ≤ 32) (h100 : ops.length ≤ 100) (hst : 1 ≤ stop) (hops : CallsAt24 w A ops) :
    Calls Try.prog 10 #[.int .i64 most, .slice A ops.length cap, .int .i64 stop] w fun e w' => e = .returned (.bool true) ∧ Below w.heap.size w w' := by
  have f1 : ¬ (most < 1) := by omega
  have f2 : ¬ (32 < most) := by omega
  have f3 : ¬ (100 < (ops.length : Int)) := by omega
  have f4 : ¬ ((stop : Int) < 1) := by omega
  refine (callsIn_wide (n := 4)).1 ?_
  refine callsIn_of_wp_marks Try.func10 rfl trivial ?_ rfl
  simp only [Try.ntmps10, List.size_toArray, List.length_cons, List.length_nil, Nat.reduceAdd, Nat.reduceSub, Array.replicate_succ, Array.replicate_zero, List.push_toArray, List.append_toArray, List.nil_append, List.cons_append]
  refine wpIn_wide.2 ?_
  go_wp2_with fail
  refine (lineR_new most hm1 hm2 _).mono ?_
  rintro e w1 ⟨rfl, hI1, hb1⟩
  simp only [World.size_alloc] at hI1 hb1
  have HO : Hid (OrdI w most stop [] 0 [] 0 none w1) := Lib.hid (by
    have b1 := Boxed.new w 3 (.int .i64 stop)
    have b2 := Boxed.new (w.alloc (.cells #[.int .i64 stop] 3)) 4 (.bool false)
    rw [World.size_alloc] at b2
    exact ⟨hI1, Nat.le_refl _, Asc.nil, (hb1.block _ (by omega)).trans (b1.alloc _), (hb1.block _ (by omega)).trans b2, trivial, (((Below.refl _ w).alloc (Nat.le_refl _) (.cells #[.int .i64 stop] 3)).alloc (by simp) (.cells #[.bool false] 4)).trans (hb1.mono (by omega))⟩)
  clear hI1 hb1
  go_wp2_with fail
  refine wp_loop (fun a wr => ∃ (u10 u11 u12 u13 u14 u15 u46 u47 u48 u49 u50 u51 u52 u53 u54 u55 u56 u57 u58 u59 u60 u61 u62 u63 u64 u65 u66 u67 u68 u69 u70 u71 u72 u73 u74 u75 u76 u77 u78 u79 u80 u81 u82 u83 u84 u85 u86 u87 u88 u89 u90 u91 u92 u93 u94 u95 u96 u97 u98 u99 u100 u101 u102 u103 u104 u105 u106 u107 u108 u109 u110 u111 u112 u113 u114 u115 u116 : Value) (k next runs : Nat) (r : Option Nat) (xs : List Int) (ds : List Deferred), a = { tmps := #[Value.int .i64 most, Value.slice A ops.length cap, Value.int .i64 stop, undef, undef, Value.pointer (some ⟨w.heap.size, 0, none⟩), Value.pointer (some ⟨w.heap.size + 1, 0, none⟩), Value.pointer (some ⟨w.heap.size + 1 + 1, 0, none⟩), Value.int .i64 0, Value.int .i64 next, u10, u11, u12, u13, u14, u15, Value.slice A ops.length cap, Value.int .i64 ops.length, Value.bool false, Value.bool false, Value.int .i64 most, Value.bool false, Value.bool false, Value.bool false, Value.int .i64 most, Value.bool false, Value.bool false, Value.bool false, Value.int .i64 stop, Value.bool false, Value.bool false, undef, Value.tuple #[Value.pointer (some ⟨w.heap.size + 1 + 1, 0, none⟩), Value.int .i64 0], Value.int .i64 most, Value.tuple #[Value.pointer (some ⟨w.heap.size + 1 + 1, 0, none⟩), Value.int .i64 0], Value.pointer (some ⟨w.heap.size + 1 + 1, 0, none⟩), Value.int .i64 0, Value.int .i64 0, Value.bool false, Value.bool false, Value.pointer (some ⟨w.heap.size + 1 + 1, 0, none⟩), Value.bool false, Value.bool false, Value.slice A ops.length cap, Value.int .i64 ops.length, Value.int .i64 k, u46, u47, u48, u49, u50, u51, u52, u53, u54, u55, u56, u57, u58, u59, u60, u61, u62, u63, u64, u65, u66, u67, u68, u69, u70, u71, u72, u73, u74, u75, u76, u77, u78, u79, u80, u81, u82, u83, u84, u85, u86, u87, u88, u89, u90, u91, u92, u93, u94, u95, u96, u97, u98, u99, u100, u101, u102, u103, u104, u105, u106, u107, u108, u109, u110, u111, u112, u113, u114, u115, u116], defers := ds } ∧ k ≤ ops.length ∧ next ≤ k ∧ Hid (OrdI w most stop ds next xs runs r wr)) (fun a _ => ops.length - (intOf (a.tmps.getD 45 undef)).toNat) ?_ ?_
  · exact ⟨_, _, _, _, _, _, _, _, _, _, _, _, _, _, _, _, _, _, _, _, _, _, _, _, _, _, _, _, _, _, _, _, _, _, _, _, _, _, _, _, _, _, _, _, _, _, _, _, _, _, _, _, _, _, _, _, _, _, _, _, _, _, _, _, _, _, _, _, _, _, _, _, _, _, _, _, _, 0, 0, 0, none, [], [], rfl, by omega, by omega, HO⟩
  rintro _ wr ⟨u10, u11, u12, u13, u14, u15, u46, u47, u48, u49, u50, u51, u52, u53, u54, u55, u56, u57, u58, u59, u60, u61, u62, u63, u64, u65, u66, u67, u68, u69, u70, u71, u72, u73, u74, u75, u76, u77, u78, u79, u80, u81, u82, u83, u84, u85, u86, u87, u88, u89, u90, u91, u92, u93, u94, u95, u96, u97, u98, u99, u100, u101, u102, u103, u104, u105, u106, u107, u108, u109, u110, u111, u112, u113, u114, u115, u116, k, next, runs, r, xs, ds, rfl, hk, hnx, HI⟩
  by_cases hlt : k < ops.length
  · obtain ⟨b, off, rfl, hbl, hc0, hc1⟩ := hops k hlt
    have hd0 := (HI.out.bb.cell (p := ⟨b, off + k * 2, none⟩) hbl).trans hc0
    have hd1 := (HI.out.bb.cell (p := ⟨b, off + k * 2 + 1, none⟩) hbl).trans hc1
    generalize (ops[k]?.getD [])[0]?.getD 0 = kind at hd0
    generalize (ops[k]?.getD [])[1]?.getD 0 = NN at hd1
    clear hc0 hc1 hops
    have hba := (Below.refl wr.heap.size wr).alloc (Nat.le_refl _) (.cells #[.int .i64 kind, .int .i64 NN] 29)
    have HA := Lib.hid (HI.out.below hba)
    have hle := HI.out.line.le
    have hrun := HI.out.run
    have hB2 : w.heap.size + 1 + 1 ≤ (wr.alloc (.cells #[.int .i64 kind, .int .i64 NN] 29)).heap.size := by have := HA.out.line.lt.1; omega
    clear hba
    go_upto_block 2 with fail
    go_cut [9] from 46 (fun nx wx => ∃ (next' runs' : Nat) (r' : Option Nat) (xs' : List Int), nx = .int .i64 next' ∧ next' ≤ k + 1 ∧ Hid (OrdI w most stop ds next' xs' runs' r' wx))
    case first =>
      by_cases e1 : kind = 1
      · subst e1
        by_cases hf : (xs.length : Int) = most
        · go_wp2_with fail
          refine (line_add_no _ HA.out.line.line next hf).mono ?_
          rintro e w5 ⟨rfl, n5, rfl⟩
          go_wp2_with fail
          go_meet
          case rel => exact ⟨next, runs, r, xs, rfl, by omega, Lib.hid (HA.out.drewN n5)⟩
        · go_wp2_with fail
          refine (lineR_add _ HA.out.line next hf (by omega) hB2).mono ?_
          rintro e w5 ⟨rfl, r5, hI5, hl5⟩
          go_wp2_with fail
          go_meet
          case rel => exact ⟨next + 1, runs, r5, _, by go_num, by omega, Lib.hid (HA.out.step hI5 hl5 (by simp; omega) HA.out.up.push)⟩
      by_cases e2 : kind = 2
      · subst e2
        by_cases hf : runs = xs.length
        · go_wp2_with fail
          refine (line_start_no _ HA.out.line.line hf).mono ?_
          rintro e w5 ⟨rfl, n5, rfl⟩
          go_wp2_with fail
          go_meet
          case rel => exact ⟨next, runs, r, xs, rfl, by omega, Lib.hid (HA.out.drewN n5)⟩
        · go_wp2_with fail
          refine (lineR_start _ HA.out.line (by omega) (by omega)).mono ?_
          rintro e w5 ⟨rfl, hI5, hl5⟩
          go_wp2_with fail
          go_meet
          case rel => exact ⟨next, runs + 1, r, xs, rfl, by omega, Lib.hid (HA.out.step hI5 hl5 (by omega) HA.out.up)⟩
      by_cases e3 : kind = 3
      · subst e3
        by_cases hf : runs = 0
        · subst hf
          go_wp2_with fail
          refine (line_stop_no _ HA.out.line.line).mono ?_
          rintro e w5 ⟨rfl, rfl⟩
          go_wp2_with fail
          go_meet
          case rel => exact ⟨next, 0, r, xs, rfl, by omega, HA⟩
        · obtain ⟨m, rfl⟩ : ∃ m, runs = m + 1 := ⟨runs - 1, by omega⟩
          go_wp2_with fail
          refine (lineR_stop _ HA.out.line (by omega)).mono ?_
          rintro e w5 ⟨rfl, hI5, hl5⟩
          go_wp2_with fail
          go_meet
          case rel => exact ⟨next, m, r, xs, rfl, by omega, Lib.hid (HA.out.step hI5 hl5 (by omega) HA.out.up)⟩
      by_cases e4 : kind = 4
      · subst e4
        by_cases hf : NN < 0 ∨ (xs.length : Int) ≤ NN
        · go_wp2_with fail
          refine (line_remove_no _ HA.out.line.line NN hf).mono ?_
          rintro e w5 ⟨rfl, rfl⟩
          go_wp2_with fail
          go_meet
          case rel => exact ⟨next, runs, r, xs, rfl, by omega, HA⟩
        · obtain ⟨m, rfl⟩ : ∃ m : Nat, NN = m := ⟨NN.toNat, by omega⟩
          go_wp2_with fail
          refine (lineR_remove _ HA.out.line m (by omega) (by omega) (by omega)).mono ?_
          rintro e w5 ⟨rfl, hI5, hl5⟩
          go_wp2_with fail
          go_meet
          case rel => exact ⟨next, runsBut m runs, r, _, rfl, by omega, Lib.hid (HA.out.step hI5 hl5 (by rw [take_drop_length (by omega)]; unfold runsBut; split <;> omega) (HA.out.up.cut m))⟩
      go_wp2_with fail
      go_meet
      case rel => exact ⟨next, runs, r, xs, rfl, by omega, HA⟩
    case rest =>
      clear HA HI hB2 hle hrun
      obtain ⟨next', runs', r', ys, rfl, hnx', HC⟩ := hcut
      obtain ⟨A2, c2, hcl, hIB⟩ : ∃ A2 c2, wc.cell? ⟨w.heap.size + 1 + 1, 1, none⟩ = some (.slice A2 ys.length c2) ∧ IntsBelow wc.heap.size wc (.slice A2 ys.length c2) ys := by
        obtain ⟨hp, v, hv, h1, h2⟩ := HC.out.line
        have hI := intsBelow_own h2
        obtain ⟨A2, c2, rfl, _⟩ := own_form h2
        have := h1.cell 1
        simp at this
        exact ⟨A2, c2, this, hI⟩
      have HIB := Lib.hid hIB
      clear hIB
      have hp2 := HC.out.line.lt.1
      have hBW : Below wc.heap.size wc (((wc.alloc (.cells #[.int .i64 (-1)] 3)).alloc (.cells #[.int .i64 0] 3)).alloc (.cells #[.slice A2 ys.length c2] 34)) := (((Below.refl wc.heap.size wc).alloc (Nat.le_refl _) _).alloc (by simp) _).alloc (by simp; omega) _
      have hcl2 : ((wc.alloc (.cells #[.int .i64 (-1)] 3)).alloc (.cells #[.int .i64 0] 3)).cell? ⟨w.heap.size + 1 + 1, 1, none⟩ = some (.slice A2 ys.length c2) := by
        rw [World.cell?_alloc_lt _ _ _ (by simp; omega), World.cell?_alloc_lt _ _ _ hp2]; exact hcl
      go_wp2_with (go_at_call 40; refine (callsIn_wide.1 (lineAll_in Fence.wide 4 trivial trivial (by omega) rfl _ A2 ys.length c2 _ hcl2)).mono ?_; rintro e w2 ⟨rfl, rfl⟩)
      have b1 : Boxed (((wc.alloc (.cells #[.int .i64 (-1)] 3)).alloc (.cells #[.int .i64 0] 3)).alloc (.cells #[.slice A2 ys.length c2] 34)) wc.heap.size 3 (.int .i64 (-1)) := ((Boxed.new wc 3 (.int .i64 (-1))).alloc _).alloc _
      have b2 : Boxed (((wc.alloc (.cells #[.int .i64 (-1)] 3)).alloc (.cells #[.int .i64 0] 3)).alloc (.cells #[.slice A2 ys.length c2] 34)) (wc.heap.size + 1) 3 (.int .i64 0) := by
        have := Boxed.new (wc.alloc (.cells #[.int .i64 (-1)] 3)) 3 (.int .i64 0)
        rw [World.size_alloc] at this
        exact this.alloc _
      have b3 : Boxed (((wc.alloc (.cells #[.int .i64 (-1)] 3)).alloc (.cells #[.int .i64 0] 3)).alloc (.cells #[.slice A2 ys.length c2] 34)) (wc.heap.size + 1 + 1) 34 (.slice A2 ys.length c2) := by
        have := Boxed.new ((wc.alloc (.cells #[.int .i64 (-1)] 3)).alloc (.cells #[.int .i64 0] 3)) 34 (.slice A2 ys.length c2)
        rw [World.size_alloc, World.size_alloc] at this
        exact this
      generalize hW0 : ((wc.alloc (.cells #[.int .i64 (-1)] 3)).alloc (.cells #[.int .i64 0] 3)).alloc (.cells #[.slice A2 ys.length c2] 34) = W0 at *
      have hs0 : W0.heap.size = wc.heap.size + 1 + 1 + 1 := by rw [← hW0]; simp
      clear hW0 hcl2
      generalize hQQ : Exit.inBlock 3 _ = QQ
      have hx3 : ∀ a W, QQ .normal a W → QQ (.exit 3) a W := by subst hQQ; exact fun _ _ h => h
      have hy32 : ys.length ≤ 32 := by have := HC.out.line.le; omega
      have hrun' := HC.out.run
      have hleM := HC.out.line.le
      have hBs : ∀ W, Below wc.heap.size wc W → Boxed W w.heap.size 3 (.int .i64 stop) := fun W hB => (HC.out.below hB).bs
      have hBr : ∀ W, Below wc.heap.size wc W → Boxed W (w.heap.size + 1) 4 (.bool false) := fun W hB => (HC.out.below hB).br
      have key : ∀ D W n la, W0.heap.size ≤ D → OrdS wc la n W → n ≤ stop → n ≤ ys.length → (n = stop ∨ n = ys.length) → W.heap[D]? = some (.deferred (some [])) → QQ .normal { tmps := #[Value.int .i64 most, Value.slice (some ⟨b, off, none⟩) ops.length cap, Value.int .i64 stop, undef, undef, Value.pointer (some ⟨w.heap.size, 0, none⟩), Value.pointer (some ⟨w.heap.size + 1, 0, none⟩), Value.pointer (some ⟨w.heap.size + 1 + 1, 0, none⟩), Value.int .i64 0, Value.int .i64 next', u10, Value.pointer (some ⟨wr.heap.size, 0, none⟩), Value.pointer (some ⟨wc.heap.size, 0, none⟩), Value.pointer (some ⟨wc.heap.size + 1, 0, none⟩), u14, u15, Value.slice (some ⟨b, off, none⟩) ops.length cap, Value.int .i64 ops.length, Value.bool false, Value.bool false, Value.int .i64 most, Value.bool false, Value.bool false, Value.bool false, Value.int .i64 most, Value.bool false, Value.bool false, Value.bool false, Value.int .i64 stop, Value.bool false, Value.bool false, undef, Value.tuple #[Value.pointer (some ⟨w.heap.size + 1 + 1, 0, none⟩), Value.int .i64 0], Value.int .i64 most, Value.tuple #[Value.pointer (some ⟨w.heap.size + 1 + 1, 0, none⟩), Value.int .i64 0], Value.pointer (some ⟨w.heap.size + 1 + 1, 0, none⟩), Value.int .i64 0, Value.int .i64 0, Value.bool false, Value.bool false, Value.pointer (some ⟨w.heap.size + 1 + 1, 0, none⟩), Value.bool false, Value.bool false, Value.slice (some ⟨b, off, none⟩) ops.length cap, Value.int .i64 ops.length, Value.int .i64 k, u46, u47, u48, u49, u50, u51, u52, u53, u54, u55, u56, u57, u58, u59, u60, u61, u62, u63, u64, u65, u66, u67, u68, u69, u70, u71, u72, Value.pointer (some ⟨w.heap.size + 1 + 1, 0, none⟩), Value.func (Fn.func 63) #[] #[Value.pointer (some ⟨wc.heap.size + 1 + 1, 0, none⟩)], u75, u76, u77, u78, u79, u80, u81, u82, u83, u84, u85, u86, u87, u88, u89, u90, u91, u92, u93, u94, u95, u96, u97, u98, u99, u100, u101, u102, u103, u104, u105, u106, u107, u108, u109, u110, u111, u112, u113, u114, u115, u116], defers := { target := .collected D, args := #[] } :: ds } W := by
        subst hQQ
        clear hx3 hd0 hd1
        rintro D W n la hD hh hn1 hn2 hn3 hK
        have c1 := hh.bn.cell
        have c3 := (hBs W hh.bb).cell
        have HL := (HC.out.below hh.bb).line.line
        have m1 : min (stop : Int) (ys.length : Int) = (n : Int) := by omega
        have m2 : ((n : Int) != (n : Int)) = false := by simp
        have m3 : ¬ ((runs' : Int) < 0) := by omega
        have m4 : ¬ ((ys.length : Int) < (runs' : Int)) := by omega
        have m5 : ¬ (most < (ys.length : Int)) := by omega
        go_wp2_with fail
        go_quiet ((first | (go_at_call 17; exact quiet_left (line_len _ (HL.drewN _))) | (go_at_call 16; exact quiet_left (line_running _ (HL.drewN _)))))
        go_wp2
        refine ⟨⟨_, _, _, _, _, _, _, _, _, _, _, _, _, _, _, _, _, _, _, _, _, _, _, _, _, _, _, _, _, _, _, _, _, _, _, _, _, _, _, _, _, _, _, _, _, _, _, _, _, _, _, _, _, _, _, _, _, _, _, _, _, _, _, _, _, _, _, _, _, _, _, _, _, _, _, _, _, k + 1, next', runs', r', ys, { target := .collected D, args := #[] } :: ds, rfl, by omega, hnx', Lib.hid (OrdI.drewN ⟨(HC.out.below hh.bb).line, HC.out.run, HC.out.up, hBs W hh.bb, hBr W hh.bb, (show Marks w.heap.size W.heap.size ({ target := .collected D, args := #[] } :: ds) W from ⟨D, rfl, by have := HC.out.bb.size; omega, lt_of_block hK, hK, HC.out.mks.keep (by omega) (fun D' _ hl hD' => (hh.bb.block D' hl).trans hD')⟩), (HC.out.below hh.bb).bb⟩ _)⟩, ?_⟩
        simp [intOf]
        omega
      refine (wpIn_wide (n := 4)).1 ?_
      refine wpIn_rangeFunc_ownG (n := 4) rfl (by omega) (gf := 63) (lb := #[.pointer (some ⟨wc.heap.size + 1 + 1, 0, none⟩)]) rfl trivial (enters_of Try.func63 (by kernel_rfl) rfl)
        (all_stops Fence.wide 3 trivial rfl (by omega) (wc.heap.size + 1 + 1) wc.heap.size _ ys (by omega) W0 (by omega) (by omega) b3.cell (HIB.out.below hBW)) belowK_t (belowK_b (by omega)) (Below.refl _ _) (fun _ => rfl)
        (fun pre W => OrdS wc (lastL pre) pre.length W ∧ pre.length < stop)
        (fun cd (pre : List (Nat × Int)) W => (cd = .ret ∧ ∃ (ini : List (Nat × Int)) (x : Nat × Int), pre = ini ++ [x] ∧ (x.1 ≠ ini.length ∨ x.2 ≤ lastL ini)) ∨ (cd = .exit 3 ∧ pre.length = stop ∧ OrdS wc (lastL pre) stop W))
        ?own ?ownx ⟨⟨b1, b2, hBW⟩, by simp; omega⟩
        (fun x => { tmps := #[Value.int .i64 most, Value.slice (some ⟨b, off, none⟩) ops.length cap, Value.int .i64 stop, undef, undef, Value.pointer (some ⟨w.heap.size, 0, none⟩), Value.pointer (some ⟨w.heap.size + 1, 0, none⟩), Value.pointer (some ⟨w.heap.size + 1 + 1, 0, none⟩), Value.int .i64 0, Value.int .i64 next', u10, Value.pointer (some ⟨wr.heap.size, 0, none⟩), Value.pointer (some ⟨wc.heap.size, 0, none⟩), Value.pointer (some ⟨wc.heap.size + 1, 0, none⟩), Value.int .i64 (x.1 : Int), Value.int .i64 x.2, Value.slice (some ⟨b, off, none⟩) ops.length cap, Value.int .i64 ops.length, Value.bool false, Value.bool false, Value.int .i64 most, Value.bool false, Value.bool false, Value.bool false, Value.int .i64 most, Value.bool false, Value.bool false, Value.bool false, Value.int .i64 stop, Value.bool false, Value.bool false, undef, Value.tuple #[Value.pointer (some ⟨w.heap.size + 1 + 1, 0, none⟩), Value.int .i64 0], Value.int .i64 most, Value.tuple #[Value.pointer (some ⟨w.heap.size + 1 + 1, 0, none⟩), Value.int .i64 0], Value.pointer (some ⟨w.heap.size + 1 + 1, 0, none⟩), Value.int .i64 0, Value.int .i64 0, Value.bool false, Value.bool false, Value.pointer (some ⟨w.heap.size + 1 + 1, 0, none⟩), Value.bool false, Value.bool false, Value.slice (some ⟨b, off, none⟩) ops.length cap, Value.int .i64 ops.length, Value.int .i64 k, u46, u47, u48, u49, u50, u51, u52, u53, u54, u55, u56, u57, u58, u59, u60, u61, u62, u63, u64, u65, u66, u67, u68, u69, u70, u71, u72, Value.pointer (some ⟨w.heap.size + 1 + 1, 0, none⟩), Value.func (Fn.func 63) #[] #[Value.pointer (some ⟨wc.heap.size + 1 + 1, 0, none⟩)], Value.int .i64 (x.1 : Int), Value.int .i64 x.2, u77, u78, u79, u80, u81, u82, u83, u84, u85, u86, u87, u88, u89, u90, u91, u92, u93, u94, u95, u96, u97, u98, u99, u100, u101, u102, u103, u104, u105, u106, u107, u108, u109, u110, u111, u112, u113, u114, u115, u116], defers := [] }) ?assign ?body ?done ?stop
      case own => exact fun s X Y row hs hg hr => ⟨OrdS.own' (by omega) hs.1 hg hr, hs.2⟩
      case ownx =>
        rintro cd s X Y row (h | ⟨h1, h2, h3⟩) hg hr
        · exact .inl h
        · exact .inr ⟨h1, h2, OrdS.own' (by omega) h3 hg hr⟩
      case assign =>
        intro l x W K hK
        gi_wp2
        exact hK
      case body =>
        rintro l pre x W ⟨hh, hps⟩ hlt2
        obtain ⟨x1, x2⟩ := x
        have hla : ∃ la, lastL pre = la := ⟨_, rfl⟩
        obtain ⟨la, hla⟩ := hla
        have HLA := Lib.hid hla
        rw [hla] at hh
        clear hla
        have c1 := hh.bl.cell
        have z1 := hh.bl.frozen
        have c2 := hh.bn.cell
        have z2 := hh.bn.frozen
        have c3 := (hBs W hh.bb).cell
        have c4 := (hBr W hh.bb).cell
        have z4 := (hBr W hh.bb).frozen
        by_cases hz : x2 ≤ la
        · gi_wp2
          exact ⟨(KeepsOthers.setCell _ _ _).from _, .inl ⟨rfl, pre, x1, x2, rfl, .inr (by rw [HLA.out]; exact hz)⟩⟩
        by_cases hx : x1 = pre.length
        · subst hx
          have hP := fun m => OrdS.put (x := x2) (m := m) hh
          by_cases hst2 : pre.length + 1 = stop
          · have m4 : ((pre.length : Int) + 1 == (stop : Int)) = true := by simp; omega
            have hp3 := hP stop
            rw [show ((stop : Nat) : Int) = (pre.length : Int) + 1 by omega] at hp3
            have HP := Lib.hid hp3
            clear hp3 hP
            gi_wp2
            exact ⟨((KeepsOthers.setCell _ _ _).trans (KeepsOthers.setCell _ _ _)).from _, .inr ⟨rfl, by simp; omega, by rw [lastL_push]; exact HP.out⟩⟩
          · have m4 : ((pre.length : Int) + 1 == (stop : Int)) = false := by simp; omega
            have hp3 := hP (pre.length + 1)
            rw [show ((pre.length + 1 : Nat) : Int) = (pre.length : Int) + 1 by omega] at hp3
            have HP := Lib.hid hp3
            clear hp3 hP
            gi_wp2
            refine ⟨((KeepsOthers.setCell _ _ _).trans (KeepsOthers.setCell _ _ _)).from _, ?_, by rw [lastL_push]; simpa using HP.out, by simp; omega⟩
            exact ((Below.refl wc.heap.size W).setCell (p := ⟨wc.heap.size, 0, none⟩) (Nat.le_refl _) _).setCell (p := ⟨wc.heap.size + 1, 0, none⟩) (Nat.le_succ _) _
        · have hne : ((x1 : Int) != (pre.length : Int)) = true := by rw [bne_iff_ne]; omega
          gi_wp2
          exact ⟨(KeepsOthers.setCell _ _ _).from _, .inl ⟨rfl, pre, x1, x2, rfl, .inl hx⟩⟩
      case done =>
        rintro D zs W hD rfl ⟨hh, hps⟩ hK
        have e1 : (pairs ys ys.length).length = ys.length := upto_length _ _
        rw [e1] at hh hps
        exact key D W ys.length _ (by omega) hh (by omega) (by omega) (.inr rfl) hK
      case stop =>
        rintro D cd pre W hD ⟨kk, hkk, hpre⟩ (⟨_, ini, x, hp2, hne⟩ | ⟨rfl, h1, h2⟩) hK
        · exact absurd (asc_pairs HC.out.up (hp2.symm.trans hpre) hkk) (by rintro ⟨e2, e3⟩; rcases hne with hne | hne <;> omega)
        · have e1 : pre.length = kk := by rw [hpre]; exact upto_length _ _
          refine wpIn_wide.2 ?_
          go_wp2
          exact hx3 _ _ (key D W stop _ (by omega) h2 (by omega) (by omega) (.inl rfl) hK)
  · obtain rfl : k = ops.length := by omega
    go_wp2_with fail
    refine (awake24 _).mono ?_
    rintro e w5 ⟨rfl, hb5⟩
    have HE := HI.out.below hb5
    have br5 := HE.br
    have HE := Lib.hid HE
    have d5 := br5.cell
    have z5 := br5.frozen
    go_wp2
    refine leaves_marks (w := w) (rb := w.heap.size + 1) (t := 4) (v := .bool true) ?_ ds w5.heap.size _ (HE.out.mks.keep (Nat.le_refl _) (fun D _ _ hD => (Below.heap_setCell _ _ _ D (fun e2 => ?_)).trans hD)) (br5.set (.bool true)) (HE.out.bb.setCell (p := ⟨w.heap.size + 1, 0, none⟩) (by dsimp only; omega) _)
    · rintro W hb6 hB6
      have hc6 := hb6.cell
      refine ⟨.bool true, ?_, rfl, hB6⟩
      simp [results, go_sem, hc6]
    · dsimp only at e2
      have h5 : w5.heap[w.heap.size + 1]? = some (.cells #[.bool false] 4) := br5
      rw [e2] at hD
      rw [h5] at hD
      cases hD

end Go.Proofs.Ytfffncaonpokpaa
