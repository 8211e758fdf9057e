/-
ConsoleHashes: the argument and the listed variables, opened.
Conditions: none.
-/
import Derived.Test.YtkondgccabcabaaGreatDoorRows
import Derived.ProofKit
import Derived.OpenShut
import Derived.ChangeArms
import Derived.Stop.LaidTwo
import Derived.Lib.LaidTab
import Derived.Lib.LaidU8
import Derived.LaidLaws
import Derived.Test.YtkondgccabcabaaGreatDoorHashZ
set_option linter.unusedVariables false
set_option linter.unusedSimpArgs false
set_option maxRecDepth 100000
namespace Go
namespace Abs
open RowKit Proofs
section
variable {H : Type} {enc : TypeId × Value → H} {W : World} {sp : Nat → Bool} {held : Bool}
theorem u8_bounds {n : Int} (h : (Lit.int .u8 n).wf = true) : ∃ m : Nat, m < 256 ∧ n = .ofNat m := by
  have := bounds_u8 h
  exact ⟨n.toNat, by omega, by show n = (n.toNat : Int); omega⟩
/-- one cell, read -/
theorem cells1 {a : Addr} {cs : List Value} (hs : a.spot = none) (h : W.cells? 0 a 1 = some cs) {x : Value} (e : cs = [x]) : W.cell? ⟨a.block, a.off, none⟩ = some x := by
  subst e
  unfold World.cells? at h
  rw [if_pos (Nat.zero_le _)] at h
  have h0 := mapM_some_get h 0 0 rfl
  obtain ⟨b, o, s⟩ := a
  cases hs
  exact h0
theorem list_of {α : Type} {Q : Nat → α → Prop} : ∀ (n : Nat), (∀ i, i < n → ∃ p, Q i p) → ∃ l : List α, l.length = n ∧ ∀ (i : Nat) (p : α), l[i]? = some p → Q i p := by
  intro n
  induction n with
  | zero => intro _; exact ⟨[], rfl, fun i p h => by simp at h⟩
  | succ n ih =>
    intro h
    obtain ⟨l, h1, h2⟩ := ih fun i hi => h i (by omega)
    obtain ⟨p, hp⟩ := h n (by omega)
    refine ⟨l ++ [p], by simp [h1], fun i q hq => ?_⟩
    by_cases hi : i < n
    · rw [List.getElem?_append_left (by omega)] at hq
      exact h2 i q hq
    · have hlt := (List.getElem?_eq_some_iff.1 hq).1
      simp [h1] at hlt
      have : i = n := by omega
      subst this
      rw [List.getElem?_append_right (by omega), h1, Nat.sub_self] at hq
      cases hq
      exact hp
theorem addr_addW {a : Addr} (hs : a.spot = none) (k : Nat) : (a.add k).block = a.block ∧ (a.add k).off = a.off + k ∧ (a.add k).spot = none := by
  unfold Addr.add
  split
  · rename_i h; subst h; exact ⟨rfl, by simp, hs⟩
  · exact ⟨rfl, rfl, rfl⟩
theorem arr_of {b o : Nat} {v : Value} (h : W.cell? ⟨b, o, none⟩ = some v) : ∃ arr ty fz, W.heap[b]? = some (.cells arr ty fz) ∧ arr[o]? = some v := by
  unfold World.cell? at h
  split at h
  · rename_i c t f heq
    exact ⟨c, t, f, heq, by simpa using h⟩
  · cases h
theorem cells5 : Tryz.prog.cellsOf 5 = 1 := by kernel_rfl
theorem under5 : Tryz.prog.underlying 5 = some (.int .u8) := by kernel_rfl
theorem underB : Tryz.prog.underlying 22 = some (.slice 5) := by kernel_rfl
theorem openB {v : Value} {n base : Nat} {x : DataW H × List MemPlace} (h : DataW.trod enc Tryz.prog W 0 sp held n 22 [v] = some x) (hok : Cell.okWide Tryz.prog W .any base 22 v) : ∃ l, SlW W v l := by
  rcases DataW.trod_slice underB h with ⟨e, _⟩ | ⟨a, len, cap, elems, rest, m, rfl, e, _, _, h1, h2, h3, h4, _, _⟩
  · cases e; exact ⟨[], .inl ⟨rfl, rfl⟩⟩
  · cases e
    have hs : a.spot = none ∧ a.block < W.heap.size := by
      have h5 : len ≤ cap ∧ (cap : Int) ≤ IntKind.i64.max ∧ W.has Tryz.prog .any base a 5 cap := by
        unfold Cell.okWide at hok
        rw [underB] at hok
        unfold Cell.ok at hok
        rw [underB] at hok
        exact hok
      obtain ⟨_, _, _, hsp, row, cells, hsh, _⟩ := h5
      refine ⟨hsp, ?_⟩
      rcases Nat.lt_or_ge a.block W.heap.size with hlt | hge
      · exact hlt
      · unfold World.shape? at hsh
        rw [Array.getElem?_eq_none hge] at hsh
        cases hsh
    obtain ⟨hsp, hblk⟩ := hs
    rw [cells5] at h4
    obtain ⟨l, hl, hq⟩ := list_of (Q := fun i (p : Nat) => p < 256 ∧ W.cell? ⟨a.block, a.off + i, none⟩ = some (.int .u8 (.ofNat p))) len fun i hi => by
      have h5 := h4 i hi
      obtain ⟨y, hy⟩ : ∃ y, elems[i]? = some y := ⟨_, List.getElem?_eq_getElem (by omega)⟩
      rw [hy] at h5
      obtain ⟨cs, h6, h7⟩ := Option.bind_eq_some_iff.1 h5
      obtain ⟨n, e1, _, wf⟩ := DataW.trod_int under5 h7
      obtain ⟨p, hp, rfl⟩ := u8_bounds wf
      obtain ⟨a1, a2, a3⟩ := addr_addW hsp (i * 1)
      have k1 := cells1 a3 h6 e1
      rw [a1, a2, Nat.mul_one] at k1
      exact ⟨p, hp, k1⟩
    refine ⟨l, .inr ⟨a.block, a.off, cap, ?_, by omega, by unfold OPEN; unfold maxLen at h2; omega, hblk, fun hne => ?_⟩⟩
    · obtain ⟨b, o, s⟩ := a
      cases hsp
      rw [hl]
    · have hpos : 0 < l.length := by cases l with | nil => exact absurd rfl hne | cons _ _ => simp
      obtain ⟨arr, ty, fz, k1, _⟩ := arr_of (hq 0 _ (List.getElem?_eq_getElem hpos)).2
      have same : ∀ {k v}, W.cell? ⟨a.block, k, none⟩ = some v → arr[k]? = some v := fun {k v} hk => by
        obtain ⟨arr', ty', fz', k2, k3⟩ := arr_of hk
        rw [k1] at k2
        cases k2
        exact k3
      refine ⟨arr, ty, fz, k1, ?_, fun j x hx => ⟨(hq j x hx).1, same (hq j x hx).2⟩⟩
      have := same (hq (l.length - 1) _ (List.getElem?_eq_getElem (by omega))).2
      have := (Array.getElem?_eq_some_iff.1 this).1
      omega
end
theorem tab_of {W : World} {n : String} {k : IntKind} {zs : List Int} {g : Nat} {t e : TypeId} {c : Nat} (h : Lib.VarReads Tryz.prog W n (Lib.tabData k zs)) (hg : Tryz.prog.globalNamed n = some g) (ht : (Tryz.prog.globals[g]?).map (·.type) = some t)
    (hu : Tryz.prog.underlying t = some (.array c e)) (he : Tryz.prog.underlying e = some (.int k)) (hce : Tryz.prog.cellsOf e = 1) (hct : Tryz.prog.cellsOf t = c) : ∃ ty fz, W.heap[g]? = some (.cells (zs.map fun z => Value.int k z).toArray ty fz) := by
  obtain ⟨g', t', cs, fuel, p, hg', ht', hv, hd⟩ := h
  rw [hg] at hg'; cases hg'
  rw [ht] at ht'; cases ht'
  have e1 := Lib.cells_of_tab hu he hce hct hd
  unfold World.var? at hv
  rw [hg] at hv
  simp only [Option.bind_some] at hv
  split at hv
  · rename_i cs' ty fz heq
    cases hv
    obtain ⟨l⟩ := cs
    simp at e1
    subst e1
    exact ⟨ty, fz, heq⟩
  · cases hv
end Abs
end Go
