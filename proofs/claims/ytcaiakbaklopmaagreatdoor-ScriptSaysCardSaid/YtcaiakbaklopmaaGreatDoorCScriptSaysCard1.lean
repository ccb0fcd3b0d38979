/- credenza/credenzalaw28.ScriptSays holds, tied to the program's text. (part 1: functions of the program as plain functions, and what is shown of them.) Conditions: as each theorem states; the last one has none. -/
import Derived.Test.YtcaiakbaklopmaaGreatDoorShelf
import Derived.Below
import Derived.Sort.Grow
import Derived.Lib.AtoiErrMem
import Derived.Test.YtcaiakbaklopmaaGreatDoorRows
import Derived.ProofKit
import Derived.OpenShut
import Derived.ChangeOld
import Derived.Deep.Matrix
import Derived.Deep.Slices
import Derived.Lib.SmallJoins
import Derived.Lib.LaidU8
import Derived.LaidLaws
import Derived.LaidMore
import Derived.HandedShaped
import Derived.MakeChecks
import Derived.SizedLaws
import Derived.Shelf.Vars
import Derived.SevenTiedAt
namespace Go.Proofs.YtcaiakbaklopmaaGreatDoor
open Go.RowKit Go.Sort

structure Gl (w : World) : Prop where
  max : ∃ m : Int, w.cell? ⟨1, 0, none⟩ = some (.int .i64 m)
  syn : ∃ te pe, w.cell? ⟨4, 0, none⟩ = some (.iface te pe)
  rng : ∃ te pe, w.cell? ⟨5, 0, none⟩ = some (.iface te pe)
  tab : Lib.TabIs Tryz.prog w "internal/strconv.uint64pow10" .u64 Lib.pow10Tab

theorem lt_of_cell_ {w : World} {a : Addr} {v : Value} (h : w.cell? a = some v) : a.block < w.heap.size := Lib.lt_of_cell h
theorem var_block {w w' : World} {n : String} {zs : Array Value} (h : w.var? Tryz.prog n = some zs) (hb : Below w.heap.size w w') : w'.var? Tryz.prog n = some zs := by
  unfold World.var? at h ⊢
  obtain ⟨g, hg, h1⟩ := Option.bind_eq_some_iff.1 h
  rw [hg, Option.bind_some]
  have hlt : g < w.heap.size := by
    by_cases c : g < w.heap.size
    · exact c
    · rw [Array.getElem?_eq_none (by omega)] at h1
      simp at h1
  rw [hb.block g hlt]
  exact h1
theorem Gl.below {w w' : World} (h : Gl w) (hb : Below w.heap.size w w') : Gl w' := by
  obtain ⟨⟨m, h1⟩, ⟨t1, p1, h2⟩, ⟨t2, p2, h3⟩, h4⟩ := h
  exact ⟨⟨m, (hb.cell (lt_of_cell_ h1)).trans h1⟩, ⟨t1, p1, (hb.cell (lt_of_cell_ h2)).trans h2⟩, ⟨t2, p2, (hb.cell (lt_of_cell_ h3)).trans h3⟩, var_block h4 hb⟩
theorem Gl.drewN {w : World} (h : Gl w) (n : Nat) : Gl (w.drewN n) := h.below ⟨rfl, rfl, rfl, Nat.le_refl _, fun _ _ => rfl⟩
theorem grown_below {w : World} (k : Nat) (os : Array Obj) : Below w.heap.size w (grow (w.drewN k) os) :=
  ⟨rfl, rfl, rfl, by show w.heap.size ≤ (grow (w.drewN k) os).heap.size; rw [size_grow]; exact Nat.le_add_right _ _, fun i hi => heap_grow_old (w.drewN k) os hi⟩
end Go.Proofs.YtcaiakbaklopmaaGreatDoor

namespace Go.Proofs.YtcaiakbaklopmaaGreatDoor
open Go.RowKit Go.ChangeShapes Go.WideShapes Go.Deep

theorem goes_none {P : Program} (h : (P.funcs.toList.all fun f => !f.goes) = true) (f : FuncId) : P.goes f = false := by
  have hm : ∀ x ∈ P.funcs.toList, x.goes = false := fun x hx => by simpa using List.all_eq_true.1 h x hx
  have h1 : ∀ g : FuncId, (P.funcs[g]?).any Func.goes = false := fun g => by
    cases e : P.funcs[g]? with
    | none => rfl
    | some x => exact hm x (Array.mem_toList_iff.2 (Array.mem_of_getElem? e))
  have h2 : P.funcs.any Func.goes = false := by
    rw [← Array.any_toList, List.any_eq_false]
    exact fun x hx => by rw [hm x hx]; exact Bool.false_ne_true
  unfold Program.goes
  rw [h2, Bool.and_false, Bool.or_false, List.any_eq_false]
  exact fun x _ => by rw [h1 x]; exact Bool.false_ne_true
theorem goesBy_none {P : Program} {c : OpenClaim} (hs : c.start = .entering) (h : (P.funcs.toList.all fun f => !f.goes) = true) : false = c.goesBy P := by
  unfold OpenClaim.goesBy Program.goesAt Program.goesFrom
  rw [hs]
  cases P.funcNamed c.func with
  | none => rfl
  | some f => exact (show false = (P.goes f || false) by rw [goes_none h f]; rfl)
theorem array5 {α : Type} {cs : Array α} (h : cs.size = 5) : ∃ c0 c1 c2 c3 c4, cs = #[c0, c1, c2, c3, c4] := by
  obtain ⟨l⟩ := cs
  match l, h with
  | [c0, c1, c2, c3, c4], _ => exact ⟨c0, c1, c2, c3, c4, rfl⟩
section
variable {H : Type} {enc : TypeId × Value → H} {P : Program} {w : World} {base : Nat} {spare : Nat → Bool} {held : Bool}
theorem open_agg5 {r : Reach} {b0 : Nat} {t : TypeId} {f0 f1 f2 f3 f4 : Field} {v : Value} {d : DataW H} {p : List MemPlace} (hs : P.underlying t = some (.struct #[f0, f1, f2, f3, f4])) (hone : oneCellFields P #[f0, f1, f2, f3, f4] = true) (hC : P.cellsOf t = 5)
    (hv : Value.okWide P w r b0 t v) (h : DataW.Trod enc P w base spare held t v d p) :
    ∃ (v0 v1 v2 v3 v4 : Value) (y0 y1 y2 y3 y4 : DataW H × List MemPlace) (n : Nat), v = .agg #[v0, v1, v2, v3, v4] ∧
      DataW.trod enc P w base spare held n f0.type [v0] = some y0 ∧ DataW.trod enc P w base spare held n f1.type [v1] = some y1 ∧ DataW.trod enc P w base spare held n f2.type [v2] = some y2 ∧ DataW.trod enc P w base spare held n f3.type [v3] = some y3 ∧ DataW.trod enc P w base spare held n f4.type [v4] = some y4 := by
  obtain ⟨cs, rfl, hsz⟩ := okWide_struct hs hv
  obtain ⟨c0, c1, c2, c3, c4, rfl⟩ := array5 (hsz.trans hC)
  obtain ⟨fuel, hf⟩ := h
  obtain ⟨xs, n, _, _, hl, hlen, hg⟩ := DataW.trod_struct hs hf
  obtain ⟨o0, k0⟩ := Go.Deep.hone_of hone 0 f0 rfl
  obtain ⟨o1, k1⟩ := Go.Deep.hone_of hone 1 f1 rfl
  obtain ⟨o2, k2⟩ := Go.Deep.hone_of hone 2 f2 rfl
  obtain ⟨o3, k3⟩ := Go.Deep.hone_of hone 3 f3 rfl
  obtain ⟨o4, k4⟩ := Go.Deep.hone_of hone 4 f4 rfl
  match xs, hlen with
  | [y0, y1, y2, y3, y4], _ =>
    exact ⟨c0, c1, c2, c3, c4, y0, y1, y2, y3, y4, n, rfl, by simpa [Value.cells, o0, k0] using hg 0 f0 rfl, by simpa [Value.cells, o1, k1] using hg 1 f1 rfl, by simpa [Value.cells, o2, k2] using hg 2 f2 rfl, by simpa [Value.cells, o3, k3] using hg 3 f3 rfl, by simpa [Value.cells, o4, k4] using hg 4 f4 rfl⟩
end
set_option maxRecDepth 100000 in
theorem open_event {H : Type} {enc : TypeId × Value → H} {W : World} {base b0 : Nat} {r : Reach} {held : Bool} {v : Value} {d : DataW H} {p : List MemPlace}
    (hv : Value.okWide Tryz.prog W r b0 32 v) (h : DataW.Trod enc Tryz.prog W base (fun _ => true) held 32 v d p) :
    ∃ a0 a1 a2 a3 a4 : Int, v = .agg #[.int .i64 a0, .int .u32 a1, .int .i64 a2, .int .i64 a3, .int .i64 a4] ∧ 0 ≤ a1 ∧ a1 < 4294967296 := by
  obtain ⟨u0, u1, u2, u3, u4, y0, y1, y2, y3, y4, n, rfl, g0, g1, g2, g3, g4⟩ := open_agg5 Tryz.underlying32 (by kernel_rfl) (by kernel_rfl) hv h
  obtain ⟨b0, e0, _, _⟩ := DataW.trod_int Tryz.underlying3 g0
  obtain ⟨b1, e1, _, w1⟩ := DataW.trod_int Tryz.underlying30 g1
  obtain ⟨b2, e2, _, _⟩ := DataW.trod_int Tryz.underlying3 g2
  obtain ⟨b3, e3, _, _⟩ := DataW.trod_int Tryz.underlying3 g3
  obtain ⟨b4, e4, _, _⟩ := DataW.trod_int Tryz.underlying24 g4
  simp only [List.cons.injEq, and_true] at e0 e1 e2 e3 e4
  subst e0 e1 e2 e3 e4
  obtain ⟨l, u⟩ : IntKind.min .u32 ≤ b1 ∧ b1 ≤ IntKind.max .u32 := by simpa [Lit.wf] using w1
  have lo : IntKind.min .u32 = 0 := by decide
  have hi : IntKind.max .u32 = 4294967295 := by decide
  exact ⟨b0, b1, b2, b3, b4, rfl, by omega, by omega⟩
def laidL : List (String × DataW Unit) := Rows.scriptSaysRow.laid
theorem err_of_laid {W : World} {n : String} {d : DataW Unit} {nm : String} {g : Nat} (h : Lib.VarReads Tryz.prog W n (.iface nm d)) (hg : Tryz.prog.globalNamed n = some g) (ht : (Tryz.prog.globals[g]?).map (·.type) = some 145) :
    ∃ te pe, W.cell? ⟨g, 0, none⟩ = some (.iface te pe) := by
  obtain ⟨g', t', cs, fuel, p, hg', ht', hv, hd⟩ := h
  obtain rfl := Option.some.inj (hg.symm.trans hg')
  obtain rfl := Option.some.inj (ht.symm.trans ht')
  obtain ⟨f1, u, v, hcs, _, _⟩ := iface_of_trod Tryz.underlying145 hd
  have := World.var?_cell hg hv 0
  rw [Array.eq_one_of_toList hcs] at this
  exact ⟨u, v, by simpa using this⟩
set_option maxRecDepth 100000 in
theorem gl_of_laid {W : World} (h : laidMetH Tryz.prog laidL W) (hs : W.ShapedOpen Tryz.prog) : Gl W := by
  rw [MakeChecks.laidMetH_plain _ _ _ (by kernel_rfl)] at h
  refine ⟨?_, ?_, ?_, ?_⟩
  · exact Go.Proofs.cell_of_shapedOpen_int (zero := #[.int .i64 0]) (t := 3) hs (of_decide_eq_true (by kernel_rfl)) (by kernel_rfl) rfl (by kernel_rfl) (by kernel_rfl) Tryz.underlying3
  · exact err_of_laid (n := "strconv.ErrSyntax") (Lib.laidMet.reads h (d := Rows.laid_strconv_ErrSyntax) (List.mem_cons_of_mem _ (List.mem_cons_of_mem _ (List.mem_cons_of_mem _ (List.mem_cons_of_mem _ (List.mem_cons_of_mem _ (List.mem_cons_self ..)))))))  (by kernel_rfl) (by kernel_rfl)
  · exact err_of_laid (n := "strconv.ErrRange") (Lib.laidMet.reads h (d := Rows.laid_strconv_ErrRange) (List.mem_cons_of_mem _ (List.mem_cons_of_mem _ (List.mem_cons_of_mem _ (List.mem_cons_of_mem _ (List.mem_cons_self ..))))))  (by kernel_rfl) (by kernel_rfl)
  · obtain ⟨g, t, cs, fuel, p, hg, ht, hv, hd⟩ := Lib.laidMet.reads h (n := "internal/strconv.uint64pow10") (d := Rows.laid_internal_strconv_uint64pow10) (List.mem_cons_of_mem _ (List.mem_cons_of_mem _ (List.mem_cons_self ..)))
    obtain ⟨g0, hg0, ht0⟩ : ∃ g0, Tryz.prog.globalNamed "internal/strconv.uint64pow10" = some g0 ∧ (Tryz.prog.globals[g0]?).map (·.type) = some 194 := ⟨0, by kernel_rfl, by kernel_rfl⟩
    obtain rfl := Option.some.inj (hg0.symm.trans hg)
    obtain rfl := Option.some.inj (ht0.symm.trans ht)
    unfold Lib.TabIs
    rw [hv, ← Lib.cells_of_tab (zs := Lib.pow10Tab) Tryz.underlying194 Tryz.underlying41 (by kernel_rfl) (by kernel_rfl) hd]

variable {H : Type} {enc : TypeId × Value → H}
theorem wrap_shaped {a : Assume} {C : Checked} {os : Os} {f : FuncId} {fn : Func} {s : ChangeSpec} {conds : List PathCond} {apart fresh handsOn again : Bool} {X : World → Array Value → Prop}
    (hX : ∀ (w w' : World) (args : Array Value), w.heap = w'.heap → X w args → X w' args)
    (own : ownKnob C.prog.godebug = none) (started : os.Started) (noInit : C.prog.inits.idxOf? f = none) (hfn : C.prog.funcs[f]? = some fn)
    (witness : ∃ (w : World) (tape : Tape) (i : Input), w.os = os ∧ (w.forCall tape i).Shaped C.prog ∧ i.vars = [] ∧ Input.okWide C.prog (w.forCall tape i) .any w.heap.size f i ∧
      ((s.pre enc C.prog fn conds apart (w.forCall tape i).memory i.args ∧ X (w.forCall tape i).memory i.args) ∧ sizedMet enc C.prog fn (OpenSpec.ofChange s) apart (w.forCall tape i).memory i.args) ∧ a.holds C.prog (lone (Frame.enter C.prog f i.args .normal) [] (w.forCall tape i)))
    (contract : ∀ (W : World) (base : Nat) (args : Array Value) (ds gs : List (DataW H)) (before : List MemPlace),
      (∀ (j : Nat) t v, fn.params[j]? = some t → args[j]? = some v → Value.okWide C.prog W .any base t v) →
      DataW.Whole enc C.prog fn.params.toList s.vars apart W args.toList ds gs before →
      (DataW.weightsEach C.prog (fn.params.toList ++ s.plain.varTypes C.prog) (ds ++ gs)).all (· ≤ reachBytes) = true → X W args → W.ShapedOpen C.prog →
      Calls C.prog f args W fun e W' => ∃ v, e = .returned v ∧ s.post enc C.prog fn apart fresh handsOn again W args v W') :
    ReturnsInHanded a C os f .any (fun w args => (s.pre enc C.prog fn conds apart w args ∧ X w args) ∧ sizedMet enc C.prog fn (OpenSpec.ofChange s) apart w args) (s.post enc C.prog fn apart fresh handsOn again) := by
  refine returnsInHanded_of_calls own started noInit witness ?_
  intro w tape i _ hsh _ hok hpre _
  obtain ⟨_, _, _, fn', hfn', _, _, _, _, hval⟩ := hok
  obtain rfl : fn' = fn := Option.some.inj (hfn'.symm.trans hfn)
  obtain ⟨⟨⟨ds, gs, before, hw, _⟩, hx⟩, hz⟩ := hpre
  refine (contract (w.forCall tape i) w.heap.size i.args ds gs before hval (DataW.Whole.of_heap (w' := w.forCall tape i) (by rfl) hw) (hz.weights hw) (hX _ _ _ (by rfl) hx) hsh).mono fun e W' ⟨v, he, hp⟩ => ?_
  subst he
  exact ChangeSpec.post_blind hp
end Go.Proofs.YtcaiakbaklopmaaGreatDoor
