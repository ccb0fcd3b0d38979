/- How a statement's arguments are opened, whatever the program: slices of structs whose fields are all whole numbers, slices of whole numbers; no condition. -/
import Derived.Test.YtfffncaonpokpaaKit
import Derived.ProofKit
import Derived.OpenShut
import Derived.ChangeOld
namespace Go.Proofs.Ytfffncaonpokpaa
open Go.RowKit Go.ChangeShapes Go.WideShapes Go.Deep

section
variable {H : Type} {enc : TypeId × Value → H} {P : Program} {w : World} {base : Nat} {spare : Nat → Bool} {held : Bool}

theorem addr_of_cell {a : Addr} {v : Value} (h : w.cell? (a.add 0) = some v) : ∃ b off, a = ⟨b, off, none⟩ ∧ b < w.heap.size := by
  obtain ⟨b, off, spot⟩ := a
  have hs := World.cell?_spot h
  have hspot : spot = none := by simpa [Addr.add] using hs
  subst hspot
  have hb := World.block_lt_of_cell? w _ h
  rw [block_of_add] at hb
  exact ⟨b, off, rfl, hb⟩

theorem open_int_structs {t e : TypeId} {fs : Array Field} {fuel : Nat} {A : Option Addr} {len cap : Nat} {x : DataW H × List MemPlace} (ht : P.underlying t = some (.slice e)) (he : P.underlying e = some (.struct fs))
    (hone : oneCellFields P fs = true) (hC : P.cellsOf e = fs.size) (hint : ∀ (j : Nat) (f : Field), fs[j]? = some f → P.underlying f.type = some (.int .i64)) (hpos : 0 < fs.size)
    (h : DataW.trod enc P w base spare held fuel t [.slice A len cap] = some x) :
    ∃ rows : List (List Int), rows.length = len ∧ len ≤ cap ∧ (∀ i, i < len → ∃ b off, A = some ⟨b, off, none⟩ ∧ b < w.heap.size ∧ ∀ j, j < fs.size →
      w.cell? ⟨b, off + (i * fs.size + j), none⟩ = some (.int .i64 ((rows[i]?.getD [])[j]?.getD 0)) ∧ (Lit.int .i64 ((rows[i]?.getD [])[j]?.getD 0)).wf = true) := by
  rcases open_slice_fields ht he hone hC h with ⟨hcs, _⟩ | ⟨a, l, c, m, D, Pl, hcs, _, hlc, hcm, hm, _, hi⟩
  · simp at hcs
    obtain ⟨rfl, rfl, rfl⟩ := hcs
    exact ⟨[], rfl, Nat.le_refl _, fun i hi => by omega⟩
  · simp at hcs
    obtain ⟨rfl, rfl, rfl⟩ := hcs
    have hlm : len ≤ m := by rw [hm]; split <;> omega
    have each : ∀ i, i < len → ∃ r : List Int, ∀ j, j < fs.size → w.cell? (a.add (i * fs.size + j)) = some (.int .i64 (r[j]?.getD 0)) ∧ (Lit.int .i64 (r[j]?.getD 0)).wf = true := by
      intro i hil
      obtain ⟨ys, n, _, _, _, hf⟩ := hi i (by omega)
      have one : ∀ j, j < fs.size → ∃ z : Int, w.cell? (a.add (i * fs.size + j)) = some (.int .i64 z) ∧ (Lit.int .i64 z).wf = true := by
        intro j hj
        obtain ⟨v, y, hc, _, htd⟩ := hf j fs[j] (Array.getElem?_eq_getElem hj)
        obtain ⟨z, hz, _, hwf⟩ := DataW.trod_int (hint j fs[j] (Array.getElem?_eq_getElem hj)) htd
        simp at hz
        subst hz
        exact ⟨z, hc, hwf⟩
      obtain ⟨g, hg⟩ := choose_lt one
      refine ⟨(List.range fs.size).map g, fun j hj => ?_⟩
      have e : ((List.range fs.size).map g)[j]?.getD 0 = g j := by simp [hj]
      rw [e]
      exact hg j hj
    obtain ⟨G, hG⟩ := choose_lt each
    refine ⟨(List.range len).map G, by simp, hlc, fun i hil => ?_⟩
    have e : ((List.range len).map G)[i]?.getD [] = G i := by simp [hil]
    rw [e]
    have h00 := (hG 0 (by omega) 0 hpos).1
    rw [Nat.zero_mul] at h00
    obtain ⟨b, off, rfl, hb⟩ := addr_of_cell h00
    refine ⟨b, off, rfl, hb, fun j hj => ?_⟩
    obtain ⟨h1, h2⟩ := hG i hil j hj
    rw [Go.WideShapes.add_plain] at h1
    exact ⟨h1, h2⟩

theorem open_int_slice {t e : TypeId} {k : IntKind} {fuel : Nat} {A : Option Addr} {len cap : Nat} {x : DataW H × List MemPlace} (ht : P.underlying t = some (.slice e)) (he : P.underlying e = some (.int k)) (hC : P.cellsOf e = 1)
    (h : DataW.trod enc P w base spare held fuel t [.slice A len cap] = some x) :
    ∃ zs : List Int, zs.length = len ∧ len ≤ cap ∧ ∀ i, i < len → ∃ b off, A = some ⟨b, off, none⟩ ∧ b < w.heap.size ∧ w.cell? ⟨b, off + i, none⟩ = some (.int k (zs[i]?.getD 0)) ∧ (Lit.int k (zs[i]?.getD 0)).wf = true := by
  rcases open_ints ht he hC h with ⟨hcs, _⟩ | ⟨a, l, c, zs, hcs, _, hl, hm, hz, _, hcell, hwf⟩
  · simp at hcs
    obtain ⟨rfl, rfl, rfl⟩ := hcs
    exact ⟨[], rfl, Nat.le_refl _, fun i hi => by omega⟩
  · simp at hcs
    obtain ⟨rfl, rfl, rfl⟩ := hcs
    have hzl0 : len ≤ zs.length := by rw [hz]; split <;> omega
    refine ⟨zs.take len, by simp; omega, hl, fun i hi => ?_⟩
    have hzl : i < zs.length := by omega
    have e : (zs.take len)[i]?.getD 0 = zs[i] := by simp [hi, hzl]
    obtain ⟨b, off, rfl, hb⟩ := addr_of_cell (hcell 0 (by omega))
    have hc := hcell i hzl
    rw [Go.WideShapes.add_plain] at hc
    refine ⟨b, off, rfl, hb, ?_, ?_⟩
    · rw [e, hc]; simp [hzl]
    · rw [e]; exact hwf _ (List.getElem_mem hzl)
end

end Go.Proofs.Ytfffncaonpokpaa
