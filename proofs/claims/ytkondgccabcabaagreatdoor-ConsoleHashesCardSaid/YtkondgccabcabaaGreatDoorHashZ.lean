/-
ConsoleHashes: the law's call in the model.
Conditions: none.
-/
import Derived.Test.YtkondgccabcabaaGreatDoorHashY
import Derived.Test.YtkondgccabcabaaGreatDoorHashR
set_option linter.unusedVariables false
set_option linter.unusedSimpArgs false
namespace Go
namespace Abs
open RowKit
theorem CA_ok {h0 : Hp} {v : Value} {xs : List Nat} (hl : LowH h0.next h0) (hv : Low h0.next v) (h16 : 16 ≤ h0.next) (n : Nat) : CallOk Proofs.Tryz.prog cx35.gs (CA h0 v xs n) := callX_ok cxok35 draw35 (ovH_ok hl hv h16) n
theorem law_W {W : World} {v : Value} {l : List Nat} (hg : GlobW W) (hv : SlW W v l) : Calls Proofs.Tryz.prog 3 #[v] W fun e W' => e = .returned (.bool true) ∧ Below W.heap.size W W' := by
  have hC := blkS_arg hv
  have hr := hrelA hg hC
  have hn := hA_next W (blkS v l)
  have hw : Wf (hA W (blkS v l)) := ⟨hr.dead, hr.base⟩
  obtain ⟨xs, H, e, hl⟩ := law_all hw (hA_base hv) hn.2.2 hv.rest
  have hG : GRel cx35.gs (fA W) := fun g hg => by
    have hg' : g ∈ [0, 1] := hg
    simp only [List.mem_cons, List.not_mem_nil, or_false] at hg'
    rcases hg' with rfl | rfl
    · exact ⟨⟨0, 0, 8, 0⟩, rfl, rfl, rfl⟩
    · exact ⟨⟨1, 0, 64, 0⟩, rfl, rfl, rfl⟩
  have hl1 : LRel (fA W) [absS v] [v] := .cons hv.rel (.nil _)
  have hlow : LowH (hA W (blkS v l)).next (hA W (blkS v l)) := by rw [hn.1]; exact hA_low hC
  have hlv : Low (hA W (blkS v l)).next (absS v) := by rw [hn.1]; exact hv.low
  have hok := CA_ok (xs := xs) hlow hlv (by rw [hn.1]; omega) 6 3 _ _ _ _ W hG hr hl1
  rw [e] at hok
  refine hok.2.mono fun e W' he => ?_
  cases e with
  | panicked c => exact he.elim
  | outgrown => exact he.elim
  | returned v' =>
    obtain ⟨f', hA', hCs, hv'⟩ := he
    cases hv'
    refine ⟨rfl, hCs.os, hCs.tape, hCs.out, hCs.size, fun c hc => hCs.keep c hc fun b i hb _ _ => ⟨?_, by rw [hl]; simp⟩⟩
    rw [hn.2.1, ← hn.1]
    exact (hr.fresh b i hb).1
end Abs
end Go
