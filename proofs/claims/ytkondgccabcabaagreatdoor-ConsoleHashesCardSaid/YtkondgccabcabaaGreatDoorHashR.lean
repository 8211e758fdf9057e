/-
ConsoleHashes: from the evaluator's memory to the model's.
Conditions: none.
-/
import Derived.Test.YtkondgccabcabaaGreatDoorHashLaw
set_option linter.unusedVariables false
set_option linter.unusedSimpArgs false
namespace Go
namespace Abs
/-- a slice of bytes, in the model's memory -/
def SlW (W : World) (v : Value) (l : List Nat) : Prop := (v = .slice none 0 0 ∧ l = []) ∨ ∃ c o cap, v = .slice (some ⟨c, o, none⟩) l.length cap ∧ l.length ≤ cap ∧ cap < OPEN ∧ c < W.heap.size ∧
  (l ≠ [] → ∃ arr ty fz, W.heap[c]? = some (.cells arr ty fz) ∧ o + l.length ≤ arr.size ∧ ∀ (j : Nat) (x : Nat), l[j]? = some x → x < 256 ∧ arr[o + j]? = some (.int .u8 (.ofNat x)))
/-- as the evaluator has it -/
def absS (v : Value) : Value := match v with | .slice (some a) l c => slV (16 + a.block) a.off l c | v => v
def blkS (v : Value) (l : List Nat) : List Nat := match v, l with | .slice (some a) _ _, _ :: _ => [a.block] | _, _ => []
noncomputable def absV (v : Value) : Value := bif plainC v then v else .chan (some 0)
theorem absV_rel (f : Map) (v : Value) : VRel f (absV v) v := by
  unfold absV
  cases h : plainC v with
  | false => exact .top v
  | true =>
    rw [cond_true]
    cases v with
    | bool b => exact .bool b
    | int k n => exact .int k n
    | string s => exact .string s
    | pointer a => cases a with | none => exact .nilPtr | some a => cases h
    | slice a l c => cases a with | none => exact .nilSlice l c | some a => cases h
    | map a => cases a with | none => exact .nilMap | some a => cases h
    | nilFunc => exact .nilFunc
    | nilIface => exact .nilIface
    | _ => cases h
theorem absV_low (N : Nat) (v : Value) : Low N (absV v) := by
  unfold absV
  cases h : plainC v with
  | true => exact .inl h
  | false => exact .inr (.inl rfl)
noncomputable def objOf (W : World) (c : Nat) : Option AObj := match W.heap[c]? with
  | some (.cells arr _ _) => some (.row (storeL (arr.toList.map absV) 0 .nil fun t => t) arr.size UNK true true)
  | _ => none
noncomputable def sizeW (W : World) (c : Nat) : Nat := match W.heap[c]? with
  | some (.cells arr _ _) => arr.size
  | _ => 0
noncomputable def hA (W : World) (C : List Nat) : Hp := C.foldr (fun c h => ⟨T.set (path (16 + c)) h.bl (objOf W c), 16 + W.heap.size, 16 + W.heap.size, []⟩) ⟨hpG.bl, 16 + W.heap.size, 16 + W.heap.size, []⟩
theorem hA_next (W : World) (C : List Nat) : (hA W C).next = 16 + W.heap.size ∧ (hA W C).base = 16 + W.heap.size ∧ (hA W C).log = [] := by
  cases C <;> exact ⟨rfl, rfl, rfl⟩
theorem hA_at (W : World) (C : List Nat) (b : Nat) : (hA W C).at b = if 16 ≤ b ∧ b - 16 ∈ C then objOf W (b - 16) else hpG.at b := by
  induction C with
  | nil => rw [if_neg (by simp)]; rfl
  | cons c C ih =>
    have e : (hA W (c :: C)).at b = if path (16 + c) = path b then objOf W c else (hA W C).at b := T.get_set _ _ _ _
    rw [e]
    by_cases h : 16 + c = b
    · subst h
      rw [if_pos rfl, if_pos ⟨by omega, by simp⟩, Nat.add_sub_cancel_left]
    · rw [if_neg (fun hp => h (path_inj hp)), ih]
      by_cases h2 : 16 ≤ b ∧ b - 16 ∈ C
      · rw [if_pos h2, if_pos ⟨h2.1, by simp [h2.2]⟩]
      · rw [if_neg h2, if_neg]
        rintro ⟨h3, h4⟩
        rcases List.mem_cons.1 h4 with h5 | h5
        · omega
        · exact h2 ⟨h3, h5⟩
/-- what the globals hold -/
structure GlobW (W : World) : Prop where
  g0 : ∃ e fz, W.heap[0]? = some (.cells (u32G initG).toArray e fz)
  g1 : ∃ e fz, W.heap[1]? = some (.cells (u32G roundsG).toArray e fz)
noncomputable def fA (W : World) : Map := fun b => if b = 0 then some ⟨0, 0, 8, 0⟩ else if b = 1 then some ⟨1, 0, 64, 0⟩ else if 16 ≤ b ∧ b - 16 < W.heap.size then some ⟨b - 16, 0, sizeW W (b - 16), 0⟩ else none
theorem fA_arg {W : World} {c : Nat} (hc : c < W.heap.size) : fA W (16 + c) = some ⟨c, 0, sizeW W c, 0⟩ := by
  unfold fA
  rw [if_neg (by omega), if_neg (by omega), if_pos ⟨by omega, by omega⟩, Nat.add_sub_cancel_left]
theorem rowG_rel {f : Map} {l : List Value} {b : Nat} {arr : Array Value} {e : TypeId} {fz : Nat × Nat} {s : Nat} (hl : arr.size = l.length) (h : ∀ (k : Nat) (v : Value), l[k]? = some v → ∃ v', arr[k]? = some v' ∧ VRel f v v') : ORel f ⟨b, 0, l.length, s⟩ (rowG l) (.cells arr e fz) := by
  unfold rowG
  refine .row _ _ _ _ _ arr e fz (.inr rfl) hl (by simp) (fun _ => ⟨rfl, rfl⟩) (fun h => by cases h) fun k v hk hv => ?_
  rw [z_stget, if_pos ⟨by omega, by omega⟩, Nat.sub_zero] at hv
  show ∃ v', arr[0 + k]? = some v' ∧ _
  rw [Nat.zero_add]
  exact h k v hv
theorem plain_tab {f : Map} {l : List Value} (hl : ∀ v ∈ l, plainC v = true) : ∀ (k : Nat) (v : Value), l[k]? = some v → ∃ v', l.toArray[k]? = some v' ∧ VRel f v v' := fun k v hv => by
  refine ⟨v, by rw [List.getElem?_toArray]; exact hv, ?_⟩
  have := absV_rel f v
  unfold absV at this
  rwa [hl v (List.mem_of_getElem? hv)] at this
/-- the arguments' blocks -/
def ArgBlk (W : World) (C : List Nat) : Prop := ∀ c ∈ C, ∃ (arr : Array Value) (ty : TypeId) (fz : Nat × Nat) (o : Nat) (n : Int), W.heap[c]? = some (.cells arr ty fz) ∧ arr[o]? = some (Value.int .u8 n)
theorem hrelA {W : World} {C : List Nat} (hg : GlobW W) (hC : ArgBlk W C) : HRel (fA W) (hA W C) W := by
  have lt : ∀ {c : Nat} {o : Obj}, W.heap[c]? = some o → c < W.heap.size := fun h => (Array.getElem?_eq_some_iff.1 h).1
  obtain ⟨⟨e0, z0, g0⟩, ⟨e1, z1, g1⟩⟩ := hg
  have key : ∀ b i, fA W b = some i → b < 16 + W.heap.size ∧ i.blk < W.heap.size := fun b i h => by
    unfold fA at h
    repeat' split at h
    all_goals first | cases h | skip
    all_goals subst_vars
    · exact ⟨by have := lt g0; omega, lt g0⟩
    · exact ⟨by have := lt g1; omega, lt g1⟩
    · rename_i h16; exact ⟨by omega, h16.2⟩
  have cC : ∀ c ∈ C, c < W.heap.size := fun c hc => by obtain ⟨arr, ty, fz, o, n, h1, _⟩ := hC c hc; exact lt h1
  refine ⟨fun b o i hb ho => ?_, fun b c i j hb hc h1 h2 hij => ?_, fun b i hb => by rw [(hA_next W C).1]; exact key b i hb, fun b hb => ?_, by rw [(hA_next W C).1, (hA_next W C).2.1]; exact Nat.le_refl _⟩
  · rw [hA_at] at ho
    split at ho
    · rename_i h16
      obtain ⟨arr, ty, fz, o', n, h1, _⟩ := hC _ h16.2
      obtain ⟨c, rfl⟩ : ∃ c, b = 16 + c := ⟨b - 16, by omega⟩
      rw [Nat.add_sub_cancel_left] at h1 ho h16
      rw [fA_arg (lt h1)] at hb
      cases hb
      unfold objOf at ho
      unfold sizeW
      rw [h1] at ho ⊢
      cases ho
      refine ⟨_, rfl, .row _ _ _ _ _ arr ty fz (.inr rfl) rfl (by simp) (fun _ => ⟨rfl, rfl⟩) (fun h => by cases h) fun k v hk hv => ?_⟩
      rw [z_stget, if_pos ⟨by omega, by simp; omega⟩, Nat.sub_zero, List.getElem?_map] at hv
      have hk' : arr.toList[k]? = some arr[k] := by rw [Array.getElem?_toList, Array.getElem?_eq_getElem hk]
      rw [hk'] at hv
      cases hv
      exact ⟨arr[k], by show arr[0 + k]? = _; rw [Nat.zero_add, Array.getElem?_eq_getElem hk], absV_rel _ _⟩
    · rw [hpG_at] at ho
      repeat' split at ho
      all_goals first | cases ho | skip
      all_goals subst_vars
      · have : fA W 1 = some ⟨1, 0, (u32G roundsG).length, 0⟩ := rfl
        rw [this] at hb; cases hb
        exact ⟨_, g1, rowG_rel (by simp) (plain_tab (u32_plain _))⟩
      · have : fA W 0 = some ⟨0, 0, (u32G initG).length, 0⟩ := rfl
        rw [this] at hb; cases hb
        exact ⟨_, g0, rowG_rel (by simp) (plain_tab (u32_plain _))⟩
  · have glob : ∀ b, (hpG.at b).isSome → b = 0 ∨ b = 1 := fun b h => by
      rw [hpG_at] at h
      repeat' split at h
      all_goals first | omega | cases h
    have gi : ∀ b i, (b = 0 ∨ b = 1) → fA W b = some i → i.blk = b := fun b i hb h => by
      rcases hb with rfl | rfl <;> (cases h; rfl)
    have no8 : ∀ c, c ∈ C → ¬ (c = 0 ∨ c = 1) := fun c hc hg => by
      obtain ⟨arr, ty, fz, o, n, k1, k2⟩ := hC c hc
      have nou : ∀ l : List Nat, (u32G l).toArray[o]? ≠ some (Value.int .u8 n) := fun l e => by
        rw [List.getElem?_toArray] at e
        obtain ⟨m, _, e⟩ := List.mem_map.1 (List.mem_of_getElem? e)
        cases e
      rcases hg with rfl | rfl
      · rw [g0] at k1; cases k1; exact nou _ k2
      · rw [g1] at k1; cases k1; exact nou _ k2
    have argi : ∀ b i, 16 ≤ b ∧ b - 16 ∈ C → fA W b = some i → i.blk = b - 16 := fun b i hb h => by
      obtain ⟨c, rfl⟩ : ∃ c, b = 16 + c := ⟨b - 16, by omega⟩
      rw [Nat.add_sub_cancel_left] at hb ⊢
      rw [fA_arg (cC c hb.2)] at h
      cases h; rfl
    rw [hA_at] at h1 h2
    by_cases p1 : 16 ≤ b ∧ b - 16 ∈ C
    · by_cases p2 : 16 ≤ c ∧ c - 16 ∈ C
      · have e1 := argi b i p1 hb
        have e2 := argi c j p2 hc
        omega
      · rw [if_neg p2] at h2
        have q := glob c h2
        have e1 := argi b i p1 hb
        have e2 := gi c j q hc
        exact absurd (by rw [← e1, hij, e2]; exact q) (no8 (b - 16) p1.2)
    · rw [if_neg p1] at h1
      have q := glob b h1
      have e1 := gi b i q hb
      by_cases p2 : 16 ≤ c ∧ c - 16 ∈ C
      · have e2 := argi c j p2 hc
        exact absurd (by rw [← e2, ← hij, e1]; exact q) (no8 (c - 16) p2.2)
      · rw [if_neg p2] at h2
        have e2 := gi c j (glob c h2) hc
        omega
  · rw [(hA_next W C).1] at hb
    rw [hA_at, if_neg]
    · rw [hpG_at]
      repeat' rw [if_neg (by omega)]
    · rintro ⟨h16, hc⟩
      have := cC _ hc
      omega
theorem hA_low {W : World} {C : List Nat} (hC : ArgBlk W C) : LowH (16 + W.heap.size) (hA W C) := by
  refine ⟨(hA_next W C).1, (hA_next W C).2.1, fun b o h => ?_⟩
  rw [hA_at] at h
  split at h
  · rename_i h16
    obtain ⟨arr, ty, fz, o', n, h1, _⟩ := hC _ h16.2
    have hlt := (Array.getElem?_eq_some_iff.1 h1).1
    unfold objOf at h
    rw [h1] at h
    cases h
    refine ⟨by omega, _, _, _, _, _, rfl, fun k v hk hv => ?_⟩
    rw [z_stget, if_pos ⟨by omega, by simp; omega⟩, List.getElem?_map] at hv
    obtain ⟨u, _, rfl⟩ := Option.map_eq_some_iff.1 hv
    exact absV_low _ _
  · have h2 := hpG_low.rows b o h
    obtain ⟨h3, c, m, e, cl, ro, rfl, h4⟩ := h2
    refine ⟨by omega, c, m, e, cl, ro, rfl, fun k v hk hv => ?_⟩
    rcases h4 k v hk hv with h5 | h5 | ⟨b', o', l', c', h5, h6⟩
    · exact .inl h5
    · exact .inr (.inl h5)
    · exact .inr (.inr ⟨b', o', l', c', h5, by omega⟩)
theorem blkS_arg {W : World} {v : Value} {l : List Nat} (h : SlW W v l) : ArgBlk W (blkS v l) := by
  intro c hc
  rcases h with ⟨rfl, rfl⟩ | ⟨b, o, cap, rfl, _, _, _, hu⟩
  · simp [blkS] at hc
  · cases l with
    | nil => simp [blkS] at hc
    | cons x r =>
      simp [blkS] at hc
      subst hc
      obtain ⟨arr, ty, fz, h1, h2, h3⟩ := hu (by simp)
      exact ⟨arr, ty, fz, o + 0, _, h1, (h3 0 x rfl).2⟩
theorem SlW.rest {W : World} {v : Value} {l : List Nat} (h : SlW W v l) : RestV (hA W (blkS v l)) (absS v) l.length := by
  rcases h with ⟨rfl, rfl⟩ | ⟨b, o, cap, rfl, h1, h2, h3, hu⟩
  · exact .inl ⟨rfl, rfl⟩
  · refine .inr ⟨16 + b, o, cap, rfl, h1, h2, fun hpos => ?_, by rw [(hA_next _ _).1]; omega⟩
    cases l with
    | nil => simp at hpos
    | cons x r =>
      obtain ⟨arr, ty, fz, k1, k2, k3⟩ := hu (by simp)
      refine ⟨storeL (arr.toList.map absV) 0 .nil fun t => t, arr.size, UNK, true, true, ?_, k2, fun k hk => ?_⟩
      · rw [hA_at, if_pos ⟨by omega, by rw [Nat.add_sub_cancel_left]; simp [blkS]⟩, Nat.add_sub_cancel_left]
        unfold objOf
        rw [k1]
      · obtain ⟨q1, q2⟩ := k3 k _ (List.getElem?_eq_getElem hk)
        refine ⟨_, q1, ?_⟩
        have hlt := (Array.getElem?_eq_some_iff.1 q2).1
        rw [z_stget, if_pos ⟨by omega, by simp; omega⟩, Nat.sub_zero, List.getElem?_map, Array.getElem?_toList, q2]; rfl
theorem SlW.rel {W : World} {v : Value} {l : List Nat} (h : SlW W v l) : VRel (fA W) (absS v) v := by
  rcases h with ⟨rfl, rfl⟩ | ⟨b, o, cap, rfl, h1, h2, h3, _⟩
  · exact .nilSlice 0 0
  · have := VRel.slice (f := fA W) (16 + b) o l.length cap ⟨b, 0, sizeW W b, 0⟩ (fA_arg h3) h2 h1
    rw [show (⟨b, 0, sizeW W b, 0⟩ : Img).o + o = o by simp] at this
    exact this
theorem SlW.low {W : World} {v : Value} {l : List Nat} (h : SlW W v l) : Low (16 + W.heap.size) (absS v) := by
  rcases h with ⟨rfl, rfl⟩ | ⟨b, o, cap, rfl, h1, h2, h3, _⟩
  · exact .inl rfl
  · exact .inr (.inr ⟨16 + b, o, _, cap, rfl, by omega⟩)
theorem hA_base {W : World} {v : Value} {l : List Nat} (h : SlW W v l) : Base (hA W (blkS v l)) := ⟨by rw [(hA_next _ _).1]; omega, fun b hb => by rw [hA_at, if_neg (by omega)]⟩
end Abs
end Go
