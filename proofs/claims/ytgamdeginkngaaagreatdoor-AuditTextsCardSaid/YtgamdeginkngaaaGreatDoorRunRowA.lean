/-
AuditTexts: the arguments, opened.
Conditions: none.
-/
import Derived.ProofKit
import Derived.OpenShut
import Derived.ChangeArms
import Derived.Test.YtgamdeginkngaaaGreatDoorRunZ
set_option linter.unusedVariables false
set_option linter.unusedSimpArgs false
set_option maxRecDepth 100000
namespace Go
namespace Abs
open RowKit Proofs
section
variable {H : Type} {enc : TypeId × Value → H} {W : World} {sp : Nat → Bool} {held : Bool}
theorem ints_of {k : IntKind} {Q : Int → Prop} : ∀ {L : List Value}, (∀ v ∈ L, ∃ n, Q n ∧ v = Value.int k n) → ∃ l : List Int, l.length = L.length ∧ (∀ x ∈ l, Q x) ∧ L = l.map fun n => Value.int k n := by
  intro L
  induction L with
  | nil => intro _; exact ⟨[], rfl, fun x hx => by simp at hx, rfl⟩
  | cons v L ih =>
    intro h
    obtain ⟨n, h1, h2⟩ := h v (by simp)
    obtain ⟨l, h3, h4, h5⟩ := ih fun u hu => h u (by simp [hu])
    refine ⟨n :: l, by simp [h3], fun x hx => ?_, by rw [h2, h5]; rfl⟩
    rcases List.mem_cons.1 hx with rfl | hx
    · exact h1
    · exact h4 x hx
theorem take1 {α : Type} {l : List α} {k : Nat} {x : α} (h : (l.drop k).take 1 = [x]) : l[k]? = some x := by
  have := congrArg (fun l => l[0]?) h
  simpa using this
theorem take_drop1 {α : Type} {l : List α} {i s n k : Nat} {x : α} (hk : k < n) (h : ((((l.drop (i * s)).take n).drop k).take 1) = [x]) : l[i * s + k]? = some x := by
  have := take1 h
  rw [List.getElem?_take, if_pos hk, List.getElem?_drop] at this
  exact this
theorem mem_of_all {L : List Value} {n : Nat} {R : Value → Prop} (hl : L.length = n) (h : ∀ k, k < n → ∃ v, R v ∧ L[k]? = some v) : ∀ v ∈ L, R v := fun v hv => by
  obtain ⟨k, hk, e⟩ := List.getElem_of_mem hv
  obtain ⟨u, h1, h2⟩ := h k (by omega)
  rw [List.getElem?_eq_getElem hk] at h2
  cases h2
  rw [← e]; exact h1
theorem cells3 : Tryz.prog.cellsOf 3 = 1 := by kernel_rfl
theorem cells5 : Tryz.prog.cellsOf 5 = 1 := by kernel_rfl
theorem cells23 : Tryz.prog.cellsOf 23 = 9 := by kernel_rfl
theorem cells24 : Tryz.prog.cellsOf 24 = 18 := by kernel_rfl
theorem cells25 : Tryz.prog.cellsOf 25 = 1 := by kernel_rfl
theorem cells26 : Tryz.prog.cellsOf 26 = 1 := by kernel_rfl
theorem cells28 : Tryz.prog.cellsOf 28 = 3 := by kernel_rfl
theorem cells29 : Tryz.prog.cellsOf 29 = 6 := by kernel_rfl
theorem cells30 : Tryz.prog.cellsOf 30 = 3 := by kernel_rfl
theorem cells64 : Tryz.prog.cellsOf 64 = 2 := by kernel_rfl
theorem under25 : Tryz.prog.underlying 25 = some (.int .u16) := by kernel_rfl
theorem under26 : Tryz.prog.underlying 26 = some (.slice 64) := by kernel_rfl
/-- the states -/
theorem open24 {cs : List Value} {n : Nat} {x : DataW H × List MemPlace} (h : DataW.trod enc Tryz.prog W 0 sp held n 24 cs = some x) : ∃ l : List Int, l.length = 18 ∧ (∀ z ∈ l, I64 z) ∧ cs = l.map fun z => Value.int .i64 z := by
  obtain ⟨xs, m, rfl, _, hl, hxl, he⟩ := DataW.trod_array Tryz.underlying24 h
  rw [cells24] at hl
  rw [cells23] at he
  obtain ⟨l, h1, h2, h3⟩ := ints_of (k := .i64) (Q := I64) (mem_of_all (R := fun v => ∃ n, I64 n ∧ v = .int .i64 n) hl fun k hk => by
    obtain ⟨i, j, hi, hj, rfl⟩ : ∃ i j, i < 2 ∧ j < 9 ∧ k = i * 9 + j := ⟨k / 9, k % 9, by omega, by omega, by omega⟩
    have h1 := he i hi
    obtain ⟨y, hy⟩ : ∃ y, xs[i]? = some y := ⟨_, List.getElem?_eq_getElem (by omega)⟩
    rw [hy] at h1
    obtain ⟨ys, m', rfl, _, hl2, hyl, hf⟩ := DataW.trod_struct Tryz.underlying23 h1
    have fld : ∀ (f : Field), f.type = 3 → f.offset = j → (∃ z, ys[j]? = some z) → DataW.trod enc Tryz.prog W 0 sp held m' f.type ((((cs.drop (i * 9)).take 9).drop f.offset).take (Tryz.prog.cellsOf f.type)) = ys[j]? → ∃ v, (∃ n, I64 n ∧ v = Value.int .i64 n) ∧ cs[i * 9 + j]? = some v := fun f ft fo ⟨z, hz⟩ hh => by
      rw [ft, fo, cells3, hz] at hh
      obtain ⟨n, e1, _, wf⟩ := DataW.trod_int Tryz.underlying3 hh
      have := bounds_i64 wf
      exact ⟨_, ⟨n, ⟨this.1, this.2⟩, rfl⟩, take_drop1 hj e1⟩
    have hys : ys.length = 9 := hyl
    have ex : ∃ z, ys[j]? = some z := ⟨_, List.getElem?_eq_getElem (by omega)⟩
    rcases (by omega : j = 0 ∨ j = 1 ∨ j = 2 ∨ j = 3 ∨ j = 4 ∨ j = 5 ∨ j = 6 ∨ j = 7 ∨ j = 8) with rfl | rfl | rfl | rfl | rfl | rfl | rfl | rfl | rfl
    all_goals exact fld _ rfl rfl ex (hf _ _ rfl))
  exact ⟨l, by rw [h1, hl], h2, h3⟩
theorem u8_bounds {n : Int} (h : (Lit.int .u8 n).wf = true) : ∃ m : Nat, m < 256 ∧ n = .ofNat m := by
  have := bounds_u8 h
  exact ⟨n.toNat, by omega, by show n = (n.toNat : Int); omega⟩
/-- three bytes -/
theorem open30 {cs : List Value} {n : Nat} {x : DataW H × List MemPlace} (h : DataW.trod enc Tryz.prog W 0 sp held n 30 cs = some x) : ∃ a b c : Nat, a < 256 ∧ b < 256 ∧ c < 256 ∧ cs = [.int .u8 (.ofNat a), .int .u8 (.ofNat b), .int .u8 (.ofNat c)] := by
  obtain ⟨xs, m, rfl, _, hl, hxl, he⟩ := DataW.trod_array Tryz.underlying30 h
  rw [cells30] at hl
  rw [cells5] at he
  have one : ∀ i, i < 3 → ∃ a : Nat, a < 256 ∧ cs[i]? = some (.int .u8 (.ofNat a)) := fun i hi => by
    have h1 := he i hi
    obtain ⟨y, hy⟩ : ∃ y, xs[i]? = some y := ⟨_, List.getElem?_eq_getElem (by omega)⟩
    rw [hy, Nat.mul_one] at h1
    obtain ⟨n, e1, _, wf⟩ := DataW.trod_int Tryz.underlying5 h1
    obtain ⟨a, ha, rfl⟩ := u8_bounds wf
    exact ⟨a, ha, take1 e1⟩
  obtain ⟨a, ha, h0⟩ := one 0 (by omega)
  obtain ⟨b, hb, h1⟩ := one 1 (by omega)
  obtain ⟨c, hc, h2⟩ := one 2 (by omega)
  refine ⟨a, b, c, ha, hb, hc, List.ext_getElem? fun i => ?_⟩
  match i with
  | 0 => exact h0
  | 1 => exact h1
  | 2 => exact h2
  | i + 3 => rw [List.getElem?_eq_none (by omega)]; rfl
/-- two bytes -/
theorem open64 {cs : List Value} {n : Nat} {x : DataW H × List MemPlace} (h : DataW.trod enc Tryz.prog W 0 sp held n 64 cs = some x) : ∃ a b : Nat, cs = [.int .u8 (.ofNat a), .int .u8 (.ofNat b)] := by
  obtain ⟨xs, m, rfl, _, hl, hxl, he⟩ := DataW.trod_array Tryz.underlying64 h
  rw [cells64] at hl
  rw [cells5] at he
  have one : ∀ i, i < 2 → ∃ a : Nat, a < 256 ∧ cs[i]? = some (.int .u8 (.ofNat a)) := fun i hi => by
    have h1 := he i hi
    obtain ⟨y, hy⟩ : ∃ y, xs[i]? = some y := ⟨_, List.getElem?_eq_getElem (by omega)⟩
    rw [hy, Nat.mul_one] at h1
    obtain ⟨n, e1, _, wf⟩ := DataW.trod_int Tryz.underlying5 h1
    obtain ⟨a, ha, rfl⟩ := u8_bounds wf
    exact ⟨a, ha, take1 e1⟩
  obtain ⟨a, ha, h0⟩ := one 0 (by omega)
  obtain ⟨b, hb, h1⟩ := one 1 (by omega)
  refine ⟨a, b, List.ext_getElem? fun i => ?_⟩
  match i with
  | 0 => exact h0
  | 1 => exact h1
  | i + 2 => rw [List.getElem?_eq_none (by omega)]; rfl
/-- two cells, read one by one -/
theorem cells2 {a : Addr} {cs : List Value} (hs : a.spot = none) (h : W.cells? 0 a 2 = some cs) {x y : Value} (e : cs = [x, y]) : W.cell? ⟨a.block, a.off, none⟩ = some x ∧ W.cell? ⟨a.block, a.off + 1, none⟩ = some y := by
  subst e
  unfold World.cells? at h
  rw [if_pos (Nat.zero_le _)] at h
  have h0 := mapM_some_get h 0 0 rfl
  have h1 := mapM_some_get h 1 1 rfl
  obtain ⟨b, o, s⟩ := a
  cases hs
  exact ⟨h0, h1⟩

theorem list_of {α : Type} {Q : Nat → α → Prop} : ∀ (n : Nat), (∀ i, i < n → ∃ p, Q i p) → ∃ l : List α, l.length = n ∧ ∀ (i : Nat) (p : α), l[i]? = some p → Q i p := by
  intro n
  induction n with
  | zero => intro _; exact ⟨[], rfl, fun i p h => by simp at h⟩
  | succ n ih =>
    intro h
    obtain ⟨l, h1, h2⟩ := ih fun i hi => h i (by omega)
    obtain ⟨p, hp⟩ := h n (by omega)
    refine ⟨l ++ [p], by simp [h1], fun i q hq => ?_⟩
    by_cases hi : i < n
    · rw [List.getElem?_append_left (by omega)] at hq
      exact h2 i q hq
    · have hlt := (List.getElem?_eq_some_iff.1 hq).1
      simp [h1] at hlt
      have : i = n := by omega
      subst this
      rw [List.getElem?_append_right (by omega), h1, Nat.sub_self] at hq
      cases hq
      exact hp
theorem addr_addW {a : Addr} (hs : a.spot = none) (k : Nat) : (a.add k).block = a.block ∧ (a.add k).off = a.off + k ∧ (a.add k).spot = none := by
  unfold Addr.add
  split
  · rename_i h; subst h; exact ⟨rfl, by simp, hs⟩
  · exact ⟨rfl, rfl, rfl⟩
theorem arr_of {b o : Nat} {v : Value} (h : W.cell? ⟨b, o, none⟩ = some v) : ∃ arr ty fz, W.heap[b]? = some (.cells arr ty fz) ∧ arr[o]? = some v := by
  unfold World.cell? at h
  split at h
  · rename_i c t f heq
    exact ⟨c, t, f, heq, by simpa using h⟩
  · cases h
theorem open26 {v : Value} {n base : Nat} {x : DataW H × List MemPlace} (h : DataW.trod enc Tryz.prog W 0 sp held n 26 [v] = some x) (hok : Cell.okWide Tryz.prog W .any base 26 v) : ∃ l, SlW W v l := by
  rcases DataW.trod_slice under26 h with ⟨e, _⟩ | ⟨a, len, cap, elems, rest, m, rfl, e, _, _, h1, h2, h3, h4, _, _⟩
  · cases e; exact ⟨[], .inl ⟨rfl, rfl⟩⟩
  · cases e
    have hs : a.spot = none ∧ a.block < W.heap.size := by
      have h5 : len ≤ cap ∧ (cap : Int) ≤ IntKind.i64.max ∧ W.has Tryz.prog .any base a 64 cap := by
        unfold Cell.okWide at hok
        rw [under26] at hok
        unfold Cell.ok at hok
        rw [under26] at hok
        exact hok
      obtain ⟨_, _, _, hsp, row, cells, hsh, _⟩ := h5
      refine ⟨hsp, ?_⟩
      rcases Nat.lt_or_ge a.block W.heap.size with hlt | hge
      · exact hlt
      · unfold World.shape? at hsh
        rw [Array.getElem?_eq_none hge] at hsh
        cases hsh
    obtain ⟨hsp, hblk⟩ := hs
    rw [cells64] at h4
    obtain ⟨l, hl, hq⟩ := list_of (Q := fun i (p : Nat × Nat) => W.cell? ⟨a.block, a.off + i * 2, none⟩ = some (.int .u8 (.ofNat p.1)) ∧ W.cell? ⟨a.block, a.off + i * 2 + 1, none⟩ = some (.int .u8 (.ofNat p.2))) len fun i hi => by
      have h5 := h4 i hi
      obtain ⟨y, hy⟩ : ∃ y, elems[i]? = some y := ⟨_, List.getElem?_eq_getElem (by omega)⟩
      rw [hy] at h5
      obtain ⟨cs, h6, h7⟩ := Option.bind_eq_some_iff.1 h5
      obtain ⟨p, q, e⟩ := open64 h7
      obtain ⟨a1, a2, a3⟩ := addr_addW hsp (i * 2)
      obtain ⟨k1, k2⟩ := cells2 a3 h6 e
      rw [a1, a2] at k1 k2
      exact ⟨(p, q), k1, k2⟩
    refine ⟨l, .inr ⟨a.block, a.off, cap, ?_, by omega, by unfold OPEN; unfold maxLen at h2; omega, hblk, fun hne => ?_⟩⟩
    · obtain ⟨b, o, s⟩ := a
      cases hsp
      rw [hl]
    · have hpos : 0 < l.length := by cases l with | nil => exact absurd rfl hne | cons _ _ => simp
      obtain ⟨arr, ty, fz, k1, _⟩ := arr_of (hq 0 _ (List.getElem?_eq_getElem hpos)).1
      have same : ∀ {k v}, W.cell? ⟨a.block, k, none⟩ = some v → arr[k]? = some v := fun {k v} hk => by
        obtain ⟨arr', ty', fz', k2, k3⟩ := arr_of hk
        rw [k1] at k2
        cases k2
        exact k3
      refine ⟨arr, ty, fz, k1, ?_, fun j x hx => ⟨same (hq j x hx).1, same (hq j x hx).2⟩⟩
      have := same (hq (l.length - 1) _ (List.getElem?_eq_getElem (by omega))).2
      have := (Array.getElem?_eq_some_iff.1 this).1
      omega
theorem okW_cell {t u : TypeId} {cs : Array Value} {ts : List TypeId} {base i : Nat} {v : Value} (hts : Tryz.prog.cellTypes Tryz.prog.depth t = some ts) (h : Row.okWide Tryz.prog W .any base t cs) (hv : cs[i]? = some v) (hu : ts[i % ts.length]? = some u) : Cell.okWide Tryz.prog W .any base u v := by
  obtain ⟨ts', h1, _, h2⟩ := h
  rw [hts] at h1
  cases h1
  obtain ⟨u', h3, h4⟩ := h2 i v hv
  rw [hu] at h3
  cases h3
  exact h4
theorem types29 : Tryz.prog.cellTypes Tryz.prog.depth 29 = some [25, 26, 26, 25, 26, 26] := by kernel_rfl
/-- what settings are made of -/
theorem open29 {cs : Array Value} {n base : Nat} {x : DataW H × List MemPlace} (h : DataW.trod enc Tryz.prog W 0 sp held n 29 cs.toList = some x) (hok : Row.okWide Tryz.prog W .any base 29 cs) :
    ∃ (va vb : Nat) (rva rka rvb rkb : Value) (lva lka lvb lkb : List (Nat × Nat)), va < 65536 ∧ vb < 65536 ∧ cs.toList = [.int .u16 (.ofNat va), rva, rka, .int .u16 (.ofNat vb), rvb, rkb] ∧ SlW W rva lva ∧ SlW W rka lka ∧ SlW W rvb lvb ∧ SlW W rkb lkb := by
  obtain ⟨xs, m, rfl, _, hl, hxl, he⟩ := DataW.trod_array Tryz.underlying29 h
  rw [cells29] at hl
  rw [cells28] at he
  have one : ∀ i, i < 2 → ∃ (a : Nat) (r k : Value), a < 65536 ∧ cs.toList[i * 3 + 0]? = some (.int .u16 (.ofNat a)) ∧ cs.toList[i * 3 + 1]? = some r ∧ cs.toList[i * 3 + 2]? = some k ∧
      (∃ (m' : Nat) (y : DataW H × List MemPlace), DataW.trod enc Tryz.prog W 0 sp held m' 26 [r] = some y) ∧ (∃ (m' : Nat) (y : DataW H × List MemPlace), DataW.trod enc Tryz.prog W 0 sp held m' 26 [k] = some y) := fun i hi => by
    have h1 := he i hi
    obtain ⟨y, hy⟩ : ∃ y, xs[i]? = some y := ⟨_, List.getElem?_eq_getElem (by omega)⟩
    rw [hy] at h1
    obtain ⟨ys, m', rfl, _, hl2, hyl, hf⟩ := DataW.trod_struct Tryz.underlying28 h1
    have hys : ys.length = 3 := hyl
    have fld : ∀ (j : Nat) (f : Field) (t : TypeId), f.type = t → f.offset = j → DataW.trod enc Tryz.prog W 0 sp held m' f.type ((((cs.toList.drop (i * 3)).take 3).drop f.offset).take (Tryz.prog.cellsOf f.type)) = ys[j]? →
        DataW.trod enc Tryz.prog W 0 sp held m' t ((((cs.toList.drop (i * 3)).take 3).drop j).take (Tryz.prog.cellsOf t)) = ys[j]? := fun j f t h1 h2 h3 => by
      rw [h1, h2] at h3; exact h3
    have f0 := fld 0 _ 25 rfl rfl (hf 0 _ rfl)
    have f1 := fld 1 _ 26 rfl rfl (hf 1 _ rfl)
    have f2 := fld 2 _ 26 rfl rfl (hf 2 _ rfl)
    obtain ⟨z0, hz0⟩ : ∃ z, ys[0]? = some z := ⟨_, List.getElem?_eq_getElem (by omega)⟩
    obtain ⟨z1, hz1⟩ : ∃ z, ys[1]? = some z := ⟨_, List.getElem?_eq_getElem (by omega)⟩
    obtain ⟨z2, hz2⟩ : ∃ z, ys[2]? = some z := ⟨_, List.getElem?_eq_getElem (by omega)⟩
    rw [cells25, hz0] at f0
    rw [cells26, hz1] at f1
    rw [cells26, hz2] at f2
    obtain ⟨a, e0, _, wf⟩ := DataW.trod_int under25 f0
    have hb := bounds_u16 wf
    have g0 := take_drop1 (k := 0) (by omega) e0
    obtain ⟨r, hr⟩ : ∃ r, cs.toList[i * 3 + 1]? = some r := ⟨_, List.getElem?_eq_getElem (by omega)⟩
    obtain ⟨k, hk⟩ : ∃ k, cs.toList[i * 3 + 2]? = some k := ⟨_, List.getElem?_eq_getElem (by omega)⟩
    have tk : ∀ j v, j < 3 → cs.toList[i * 3 + j]? = some v → (((cs.toList.drop (i * 3)).take 3).drop j).take 1 = [v] := fun j v hj hv => by
      refine List.ext_getElem? fun q => ?_
      cases q with
      | zero =>
        rw [List.getElem?_take, if_pos (by omega), List.getElem?_drop, List.getElem?_take, if_pos (by omega), List.getElem?_drop, Nat.add_zero, hv]; rfl
      | succ q => rw [List.getElem?_take, if_neg (by omega)]; rfl
    rw [tk 1 r (by omega) hr] at f1
    rw [tk 2 k (by omega) hk] at f2
    refine ⟨a.toNat, r, k, by omega, ?_, hr, hk, ⟨_, _, f1⟩, ⟨_, _, f2⟩⟩
    rw [g0]
    have : a = Int.ofNat a.toNat := by show a = (a.toNat : Int); omega
    rw [← this]
  obtain ⟨va, rva, rka, hva, a0, a1, a2, ⟨m1, y1, t1⟩, ⟨m2, y2, t2⟩⟩ := one 0 (by omega)
  obtain ⟨vb, rvb, rkb, hvb, b0, b1, b2, ⟨m3, y3, t3⟩, ⟨m4, y4, t4⟩⟩ := one 1 (by omega)
  have arr : ∀ {k v}, cs.toList[k]? = some v → cs[k]? = some v := fun {k v} h => by rw [← Array.getElem?_toList]; exact h
  obtain ⟨lva, s1⟩ := open26 t1 (okW_cell (i := 1) types29 hok (arr a1) rfl)
  obtain ⟨lka, s2⟩ := open26 t2 (okW_cell (i := 2) types29 hok (arr a2) rfl)
  obtain ⟨lvb, s3⟩ := open26 t3 (okW_cell (i := 4) types29 hok (arr b1) rfl)
  obtain ⟨lkb, s4⟩ := open26 t4 (okW_cell (i := 5) types29 hok (arr b2) rfl)
  refine ⟨va, vb, rva, rka, rvb, rkb, lva, lka, lvb, lkb, hva, hvb, List.ext_getElem? fun i => ?_, s1, s2, s3, s4⟩
  match i with
  | 0 => exact a0
  | 1 => exact a1
  | 2 => exact a2
  | 3 => exact b0
  | 4 => exact b1
  | 5 => exact b2
  | i + 6 => rw [List.getElem?_eq_none (by omega)]; rfl
end
end Abs
end Go
