/-
AuditTexts: the listed variables, read.
Conditions: none.
-/
import Derived.Test.YtgamdeginkngaaaGreatDoorRows
import Derived.Stop.LaidTwo
import Derived.Lib.LaidTab
import Derived.Lib.LaidU8
import Derived.LaidLaws
import Derived.Test.YtgamdeginkngaaaGreatDoorRunRowA
set_option linter.unusedVariables false
set_option linter.unusedSimpArgs false
set_option maxRecDepth 100000
namespace Go
namespace Abs
open RowKit Proofs
theorem tab_of {W : World} {n : String} {k : IntKind} {zs : List Int} {g : Nat} {t e : TypeId} {c : Nat} (h : Lib.VarReads Tryz.prog W n (Lib.tabData k zs)) (hg : Tryz.prog.globalNamed n = some g) (ht : (Tryz.prog.globals[g]?).map (·.type) = some t)
    (hu : Tryz.prog.underlying t = some (.array c e)) (he : Tryz.prog.underlying e = some (.int k)) (hce : Tryz.prog.cellsOf e = 1) (hct : Tryz.prog.cellsOf t = c) : ∃ ty fz, W.heap[g]? = some (.cells (zs.map fun z => Value.int k z).toArray ty fz) := by
  obtain ⟨g', t', cs, fuel, p, hg', ht', hv, hd⟩ := h
  rw [hg] at hg'; cases hg'
  rw [ht] at ht'; cases ht'
  have e1 := Lib.cells_of_tab hu he hce hct hd
  unfold World.var? at hv
  rw [hg] at hv
  simp only [Option.bind_some] at hv
  split at hv
  · rename_i cs' ty fz heq
    cases hv
    obtain ⟨l⟩ := cs
    simp at e1
    subst e1
    exact ⟨ty, fz, heq⟩
  · cases hv
theorem var_cells {W : World} {n : String} {cs : Array Value} {g : Nat} (h : W.var? Tryz.prog n = some cs) (hg : Tryz.prog.globalNamed n = some g) : ∃ ty fz, W.heap[g]? = some (.cells cs ty fz) := by
  unfold World.var? at h
  rw [hg] at h
  simp only [Option.bind_some] at h
  split at h
  · rename_i cs' ty fz heq
    cases h
    exact ⟨ty, fz, heq⟩
  · cases h
theorem globW {W : World} (hL : laidMet Tryz.prog Proofs.YtgamdeginkngaaaGreatDoor.Rows.auditTextsRow.laid W) : ∃ x y, GlobW W x y := by
  have r3 : Lib.VarReads Tryz.prog W _ _ := Lib.laidMet.reads hL (.tail _ (.tail _ (.head _)))
  have r0 : Lib.VarReads Tryz.prog W _ _ := Lib.laidMet.reads hL (.tail _ (.tail _ (.tail _ (.tail _ (.tail _ (.tail _ (.head _)))))))
  have r2 : Lib.VarReads Tryz.prog W _ _ := Lib.laidMet.reads hL (.tail _ (.tail _ (.tail _ (.tail _ (.tail _ (.tail _ (.tail _ (.head _))))))))
  have d3 : Lib.VarReads Tryz.prog W _ (Lib.tabData .u64 ((List.range 20).map fun i => Int.ofNat (10 ^ i))) := r3
  have d0 : Lib.VarReads Tryz.prog W _ (Lib.tabData .u32 (initG.map Int.ofNat)) := r0
  have d2 : Lib.VarReads Tryz.prog W _ (Lib.tabData .u32 (roundsG.map Int.ofNat)) := r2
  obtain ⟨e3, z3, g3⟩ := tab_of (g := 3) (t := 253) (e := 135) (c := 20) d3 (by kernel_rfl) (by kernel_rfl) Tryz.underlying253 (by kernel_rfl) (by kernel_rfl) (by kernel_rfl)
  obtain ⟨e0, z0, g0⟩ := tab_of (g := 0) (t := 175) (e := 174) (c := 8) d0 (by kernel_rfl) (by kernel_rfl) Tryz.underlying175 (by kernel_rfl) (by kernel_rfl) (by kernel_rfl)
  obtain ⟨e2, z2, g2⟩ := tab_of (g := 2) (t := 221) (e := 174) (c := 64) d2 (by kernel_rfl) (by kernel_rfl) Tryz.underlying221 (by kernel_rfl) (by kernel_rfl) (by kernel_rfl)
  have r270 := typeName_ptr_named (P := Tryz.prog) (tp := 270) (nm := "errors.errorString") (by kernel_rfl) (by kernel_rfl) (by decide)
  obtain ⟨a, b, s, s', c, c', t, t', va, vb, ca, _, _, cb, _, _, _, _, _⟩ := laid_sentinels2 (g0 := 5) (g1 := 4) (ti := 104) (tp := 270) (te := 272) (ts := 9) hL.tail.tail.tail.tail (by kernel_rfl) (by kernel_rfl) (by kernel_rfl) (by kernel_rfl) Tryz.underlying104 (fun u h => r270 u (h.trans (by kernel_rfl))) Tryz.underlying270 Tryz.underlying272 rfl rfl (by kernel_rfl) (by kernel_rfl) (by kernel_rfl)
  have sp : ∀ {a : Addr} {v : Value}, W.cell? a = some v → a.spot = none ∧ a.block < W.heap.size := fun {a v} h => by
    unfold World.cell? at h
    split at h
    · rename_i c t f heq
      refine ⟨?_, (Array.getElem?_eq_some_iff.1 heq).1⟩
      cases hs : a.spot with
      | none => rfl
      | some n => rw [hs] at h; cases h
    · cases h
  obtain ⟨e5, z5, g5⟩ := var_cells (g := 5) va (by kernel_rfl)
  obtain ⟨e4, z4, g4⟩ := var_cells (g := 4) vb (by kernel_rfl)
  have t0 : ((initG.map Int.ofNat).map fun z => Value.int .u32 z) = u32G initG := by rw [List.map_map]; rfl
  have t2 : ((roundsG.map Int.ofNat).map fun z => Value.int .u32 z) = u32G roundsG := by rw [List.map_map]; rfl
  have t3 : (((List.range 20).map fun i => Int.ofNat (10 ^ i)).map fun z => Value.int .u64 z) = pow10G := by rw [List.map_map]; rfl
  rw [t0] at g0
  rw [t2] at g2
  rw [t3] at g3
  exact ⟨b, a, ⟨e0, z0, g0⟩, ⟨e2, z2, g2⟩, ⟨e3, z3, g3⟩, ⟨e4, z4, g4⟩, ⟨e5, z5, g5⟩, sp cb, sp ca⟩
end Abs
end Go
