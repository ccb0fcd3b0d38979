/- LineOrder: the walk; printed by wip/gen/lineord.py from wip/gen/lineord.in. -/
import Derived.Test.YtfffncaonpokpaaLineX
import Derived.Test.YtfffncaonpokpaaLineA
import Derived.Test.YtfffncaonpokpaaLineList
import Derived.Test.YtfffncaonpokpaaLineQ
import Derived.Test.YtfffncaonpokpaaLinePl
import Derived.Deep.DeepCutAuto
import Derived.Deep.CutBlock
namespace Go.Proofs.Ytfffncaonpokpaa
open Go.RowKit Go.Shelf
attribute [local go_sem] Oper.semAt_some

/-- things in the order in which they came: from nought, below the next one -/
def Asc (xs : List Int) (next : Nat) : Prop := xs.Pairwise (· < ·) ∧ ∀ x ∈ xs, 0 ≤ x ∧ x < next
theorem Asc.nil : Asc [] 0 := ⟨.nil, fun _ h => by cases h⟩
theorem Asc.push {xs : List Int} {next : Nat} (h : Asc xs next) : Asc (xs ++ [(next : Int)]) (next + 1) := by
  refine ⟨List.pairwise_append.2 ⟨h.1, List.pairwise_singleton _ _, fun a ha b hb => ?_⟩, fun x hx => ?_⟩
  · rw [List.mem_singleton.1 hb]; exact (h.2 a ha).2
  · rcases List.mem_append.1 hx with hx | hx
    · have := h.2 x hx; omega
    · rw [List.mem_singleton.1 hx]; omega
theorem Asc.cut {xs : List Int} {next : Nat} (h : Asc xs next) (k : Nat) : Asc (xs.take k ++ xs.drop (k + 1)) next := by
  have hs : (xs.take k ++ xs.drop (k + 1)).Sublist xs := by
    have h1 : (xs.drop (k + 1)).Sublist (xs.drop k) := by
      rw [← List.drop_drop]
      exact List.drop_sublist _ _
    have := List.Sublist.append (List.Sublist.refl (xs.take k)) h1
    rwa [List.take_append_drop] at this
  exact ⟨h.1.sublist hs, fun x hx => h.2 x (hs.subset hx)⟩

/-- the marks of loops that are over -/
def Marks (B : Nat) : Nat → List Deferred → World → Prop
  | _, [], _ => True
  | hi, d :: ds, W => ∃ D, d = { target := .collected D, args := #[] } ∧ B ≤ D ∧ D < hi ∧ W.heap[D]? = some (.deferred (some [])) ∧ Marks B D ds W
theorem Marks.keep {B : Nat} {W W' : World} : ∀ {ds : List Deferred} {hi hi' : Nat}, Marks B hi ds W → hi ≤ hi' → (∀ D, B ≤ D → D < hi → W.heap[D]? = some (.deferred (some [])) → W'.heap[D]? = some (.deferred (some []))) → Marks B hi' ds W'
  | [], _, _, _, _, _ => trivial
  | _ :: _, _, _, ⟨D, e, h1, h2, h3, h4⟩, hle, hk => ⟨D, e, h1, Nat.lt_of_lt_of_le h2 hle, hk D h1 h2 h3, h4.keep (Nat.le_refl _) (fun D' a b c => hk D' a (Nat.lt_trans b h2) c)⟩

theorem leaves_marks {F : Fence} {n : Nat} {P : Program} {fn : Func} {tmps : Array Value} {R : Ending → World → Prop} {w : World} {rb : Nat} {t : TypeId} {v : Value} (hend : ∀ W, Boxed W rb t v → Below w.heap.size w W → LeavesIn F n P fn tmps R [] .returning W) :
    ∀ (ds : List Deferred) (hi : Nat) (W : World), Marks w.heap.size hi ds W → Boxed W rb t v → Below w.heap.size w W → LeavesInM F n P fn tmps R ds .returning W
  | [], _, W, _, hb, hB => hend W hb hB
  | d :: ds, hi, W, ⟨D, e, h1, h2, h3, h4⟩, hb, hB => by
    refine ⟨by simp, .inl ⟨D, _, by rw [e], run_takeDeferred h3, ?_⟩⟩
    have hne : rb ≠ D := by
      intro e2
      have h5 : W.heap[rb]? = some (.cells #[v] t) := hb
      rw [e2, h3] at h5
      cases h5
    have hB2 : Below w.heap.size w (W.putObj D (.deferred none)) := hB.trans (belowK_b (w := w) (Nat.le_refl _) _ D _ _ h1 h3 rfl rfl)
    refine leaves_marks hend ds D _ (h4.keep (Nat.le_refl _) (fun D' _ hlt hD' => ?_)) (hb.kept (grownBy_putObj' _ D (.deferred none)) (by simp; omega)) hB2
    exact (World.putObj_heap_other (by omega)).trans hD'

structure OrdI (w : World) (most : Int) (stop : Nat) (ds : List Deferred) (next : Nat) (xs : List Int) (runs : Nat) (r : Option Nat) (W : World) : Prop where
  line : IsLineR W (w.heap.size + 1 + 1) (w.heap.size + 1 + 1) r most xs runs
  run : runs ≤ xs.length
  up : Asc xs next
  bs : Boxed W w.heap.size 3 (.int .i64 stop)
  br : Boxed W (w.heap.size + 1) 4 (.bool false)
  mks : Marks w.heap.size W.heap.size ds W
  bb : Below w.heap.size w W
section
variable {w W W' : World} {most : Int} {stop next next' runs runs' : Nat} {ds : List Deferred} {xs xs' : List Int} {r r' : Option Nat}
theorem OrdI.below (h : OrdI w most stop ds next xs runs r W) (hb : Below W.heap.size W W') : OrdI w most stop ds next xs runs r W' :=
  ⟨h.line.below hb, h.run, h.up, (hb.block _ (lt_of_block h.bs)).trans h.bs, (hb.block _ (lt_of_block h.br)).trans h.br, h.mks.keep hb.size (fun D _ hl hD => (hb.block D hl).trans hD), h.bb.trans (hb.mono h.bb.size)⟩
theorem OrdI.step (h : OrdI w most stop ds next xs runs r W) (hI : IsLineR W' (w.heap.size + 1 + 1) (w.heap.size + 1 + 1) r' most xs' runs') (ho : Lined (w.heap.size + 1 + 1) r r' W W') (hrun : runs' ≤ xs'.length) (hup : Asc xs' next') : OrdI w most stop ds next' xs' runs' r' W' := by
  have hlt := h.line.lt
  have hk : ∀ k, k ∈ (w.heap.size + 1 + 1) :: r.toList → w.heap.size + 1 + 1 ≤ k := by
    intro k hm
    rcases List.mem_cons.1 hm with e | e
    · omega
    · exact (hlt.2 k (by cases r with
        | none => simp at e
        | some q => simp at e; rw [e])).1
  have hbk := ho.1.below (B := w.heap.size + 1 + 1) (by omega) hk
  refine ⟨hI, hrun, hup, (hbk.block _ (by omega)).trans h.bs, (hbk.block _ (by omega)).trans h.br, h.mks.keep ho.1.size (fun D _ hl hD => (ho.1.block D hl (fun hm => ?_)).trans hD), h.bb.trans (hbk.mono (by omega))⟩
  obtain ⟨_, v, hv, h1, h2⟩ := h.line
  rcases List.mem_cons.1 hm with e | e
  · have h3 : W.heap[w.heap.size + 1 + 1]? = _ := h1
    rw [e, h3] at hD
    cases hD
  · have hr : r = some D := by cases r with
      | none => simp at e
      | some q => simp at e; rw [e]
    rcases h2.2 with ⟨e0, _⟩ | ⟨g, cap, cur, e0, _, hg, _⟩
    · rw [e0, hr] at hv; simp [Value.ownBlock] at hv
    · rw [e0, hr] at hv
      simp [Value.ownBlock] at hv
      subst hv
      rw [hg] at hD
      cases hD
theorem OrdI.drewN (h : OrdI w most stop ds next xs runs r W) (n : Nat) : OrdI w most stop ds next xs runs r (W.drewN n) := ⟨h.line.drewN n, h.run, h.up, h.bs, h.br, h.mks.keep (Nat.le_refl _) (fun _ _ _ h => h), below_drewN h.bb n⟩
end


/-- the last thing seen, or less than any -/
def lastL (pre : List (Nat × Int)) : Int := (pre.getLast?.map (·.2)).getD (-1)
theorem lastL_push (pre : List (Nat × Int)) (a : Nat) (x : Int) : lastL (pre ++ [(a, x)]) = x := by simp [lastL]
/-- what the range over All holds: the last thing seen, and how many -/
structure OrdS (wc : World) (la : Int) (n : Nat) (W : World) : Prop where
  bl : Boxed W wc.heap.size 3 (.int .i64 la)
  bn : Boxed W (wc.heap.size + 1) 3 (.int .i64 n)
  bb : Below wc.heap.size wc W
theorem boxRow {X Y : World} {b : Nat} {t : TypeId} {v : Value} {row : Option Nat} (h : Boxed X b t v) (hg : X.grownBy Y row) (hrow : ∀ r, row = some r → ∃ o : Obj, X.heap[r]? = some o ∧ o.isCells = false) : Boxed Y b t v := h.kept hg (fun e => by
  obtain ⟨o, ho, hc⟩ := hrow _ e.symm
  rw [show X.heap[b]? = _ from h] at ho
  cases ho
  cases hc)
theorem OrdS.own {wc : World} {base : Nat} (hb : wc.heap.size ≤ base) {f : List (Nat × Int) × Nat → Int} {g : List (Nat × Int) × Nat → Nat} : OwnFrom base (fun (s : List (Nat × Int) × Nat) W => OrdS wc (f s) (g s) W) := by
  intro n X Y row h hg hr
  have hr' : ∀ r, row = some r → ∃ o : Obj, X.heap[r]? = some o ∧ o.isCells = false := fun r e => (hr r e).2
  exact ⟨boxRow h.bl hg hr', boxRow h.bn hg hr', h.bb.grown hg h.bb.size (fun k e => Nat.le_trans hb (hr k e).1)⟩
theorem OrdS.own' {wc X Y : World} {base : Nat} {row : Option Nat} {la : Int} {n : Nat} (hb : wc.heap.size ≤ base) (h : OrdS wc la n X) (hg : X.grownBy Y row) (hr : ∀ r, row = some r → base ≤ r ∧ ∃ o : Obj, X.heap[r]? = some o ∧ o.isCells = false) : OrdS wc la n Y :=
  OrdS.own (f := fun _ => la) (g := fun _ => n) hb ([], 0) X Y row h hg hr
theorem OrdS.put {wc W : World} {la x : Int} {n m : Nat} (h : OrdS wc la n W) : OrdS wc x m ((W.setCell ⟨wc.heap.size, 0, none⟩ (.int .i64 x)).setCell ⟨wc.heap.size + 1, 0, none⟩ (.int .i64 m)) :=
  ⟨(h.bl.set _).kept (grownBy_setCell' _ (wc.heap.size + 1) _) (by simp), (h.bn.kept (grownBy_setCell' W wc.heap.size _) (by simp)).set _, (h.bb.setCell (p := ⟨wc.heap.size, 0, none⟩) (Nat.le_refl _) _).setCell (p := ⟨wc.heap.size + 1, 0, none⟩) (Nat.le_succ _) _⟩
theorem asc_pairs {xs : List Int} {next k : Nat} {ini : List (Nat × Int)} {x : Nat × Int} (h : Asc xs next) (he : ini ++ [x] = pairs xs k) (hk : k ≤ xs.length) : x.1 = ini.length ∧ lastL ini < x.2 := by
  refine ⟨pairs_fst he, ?_⟩
  have hl : (pairs xs k).length = k := upto_length _ _
  rw [← he] at hl
  simp at hl
  subst hl
  have he2 : pairs xs (ini.length + 1) = pairs xs ini.length ++ [(ini.length, xs[ini.length]?.getD 0)] := upto_succ _ _
  rw [he2] at he
  have h3 := List.append_inj' he rfl
  obtain ⟨e1, e2⟩ := h3
  have e3 : x.2 = xs[ini.length]?.getD 0 := by simp at e2; rw [e2]
  rw [List.getElem?_eq_getElem (show ini.length < xs.length by omega), Option.getD_some] at e3
  rw [e3]
  rcases (show ini.length = 0 ∨ ∃ n, ini.length = n + 1 by cases ini.length with | zero => exact .inl rfl | succ n => exact .inr ⟨n, rfl⟩) with hn | ⟨n, hn⟩
  · have h0 : ini = [] := List.eq_nil_of_length_eq_zero hn
    have h1 := (h.2 xs[ini.length] (List.getElem_mem _)).1
    have h2 : lastL ini = -1 := by rw [h0]; rfl
    omega
  · have he4 : pairs xs (n + 1) = pairs xs n ++ [(n, xs[n]?.getD 0)] := upto_succ _ _
    have e5 : ini = pairs xs n ++ [(n, xs[n]?.getD 0)] := by rw [← he4, ← hn]; exact e1
    have e6 : lastL ini = xs[n]?.getD 0 := (congrArg lastL e5).trans (lastL_push _ _ _)
    rw [e6, List.getElem?_eq_getElem (show n < xs.length by omega), Option.getD_some]
    exact List.pairwise_iff_getElem.1 h.1 n ini.length (by omega) (by omega) (by omega)

end Go.Proofs.Ytfffncaonpokpaa
