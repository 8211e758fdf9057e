/-
AuditTexts: the calls that are known by a contract: Itoa, Join, sanity.
Conditions: none.
-/
import Derived.Test.YtgamdeginkngaaaGreatDoorRunW
import Derived.Test.YtgamdeginkngaaaGreatDoorEvalX
import Derived.Test.YtgamdeginkngaaaGreatDoorRunShelf
set_option linter.unusedVariables false
set_option linter.unusedSimpArgs false
namespace Go
namespace Abs
open RowKit
variable {P : Program} {gs : List Nat}
theorem below_at {g : FuncId} {args : List Value} {h : Hp} {v : Value} (hv : ∀ f, VRel f v v) (hent : Enters P g)
    (H : ∀ (args' : List Value) (f : Map) (w : World), GRel gs f → HRel f h w → LRel f args args' → Calls P g args'.toArray w fun e w' => e = .returned v ∧ Below w.heap.size w w') : CallAt P gs g args h (.val v h) := by
  intro args' f w hG hr hl
  refine ⟨hent, (H args' f w hG hr hl).mono fun e w' he => ?_⟩
  obtain ⟨rfl, hb⟩ := he
  refine ⟨f, AStep.refl h, ⟨hr, Map.le_refl f, ⟨fun b o i hb' ho => ?_, hr.inj, fun b i hb' => ⟨(hr.fresh b i hb').1, Nat.lt_of_lt_of_le (hr.fresh b i hb').2 hb.size⟩, hr.dead, hr.base⟩, hb.size, hb.tape, hb.os, hb.output, fun c hc _ => hb.block c hc, fun b i h1 h2 => by (rw [h1] at h2; cases h2)⟩, hv f⟩
  obtain ⟨x, hx, hor⟩ := hr.obj b o i hb' ho
  exact ⟨x, by rw [hb.block i.blk (hr.fresh b i hb').2]; exact hx, hor⟩
theorem joinS_eq (l : List (List UInt8)) : Lib.join l [32] = joinS l := by
  unfold Lib.join
  induction l with
  | nil => rfl
  | cons x l ih =>
    cases l with
    | nil => simp [joinS, List.intercalate]
    | cons y r =>
      have : joinS (x :: y :: r) = x ++ 32 :: joinS (y :: r) := rfl
      rw [this, ← ih]
      simp [List.intercalate, List.intersperse]
theorem cell_at {f : Map} {h : Hp} {w : World} {b k : Nat} {i : Img} {c : T Value} {m : Nat} {e : TypeId} {cl ro : Bool} {s : ByteArray} (hr : HRel f h w) (hb : f b = some i) (hat : h.at b = some (.row c m e cl ro)) (hk : k < m) (hc : c.get (path k) = some (.string s)) : w.cell? ⟨i.blk, i.o + k, none⟩ = some (.string s) := by
  obtain ⟨x, hx, hor⟩ := hr.obj b _ i hb hat
  cases hor with
  | row cells n elem cl ro arr elem' fz he hs hn hcl hro hcc =>
    obtain ⟨v', h1, h2⟩ := hcc k _ hk hc
    cases h2
    unfold World.cell?
    rw [hx]
    exact h1
theorem enters41 : Enters Proofs.Tryz.prog 41 := by
  obtain ⟨fn, h⟩ : ∃ fn, Proofs.Tryz.prog.funcs[41]? = some fn := ⟨_, Proofs.Tryz.func41⟩
  exact ⟨_, Proofs.Tryz.func41, by kernel_rfl, by kernel_rfl⟩
theorem enters40 : Enters Proofs.Tryz.prog 40 := ⟨_, Proofs.Tryz.func40, by kernel_rfl, by kernel_rfl⟩
theorem join_at {h : Hp} {b c : Nat} {l : List (List UInt8)} (hs : Strs h b l) (h0 : 0 < l.length) (hn : l.length ≤ 10) (hl : ∀ x ∈ l, x.length ≤ 100) : CallAt Proofs.Tryz.prog gs 41 [slV b 0 l.length c, .string (mkS [32])] h (.val (.string (mkS (joinS l))) h) := by
  refine below_at (fun f => .string _) enters41 fun args' f w hG hr hlr => ?_
  obtain ⟨v', r, rfl, h1, h2⟩ := hlr.uncons
  obtain ⟨v2, r, rfl, h3, h4⟩ := h2.uncons
  have := h4.unnil; subst this
  cases h3
  obtain ⟨cc, m, e, cl, ro, hat, hm, hc⟩ := hs
  have key : ∀ (i : Img) (o' c' : Nat), f b = some i → o' = i.o → l.length ≤ c' → Calls Proofs.Tryz.prog 41 #[.slice (some ⟨i.blk, o', none⟩) l.length c', .string (mkS [32])] w fun e w' => e = .returned (.string (mkS (joinS l))) ∧ Below w.heap.size w w' := fun i o' c' hi ho hcap => by
    subst ho
    have hj : Lib.join ((l.map mkS).map (·.data.toList)) (mkS [32]).data.toList = joinS l := by
      rw [← joinS_eq]
      congr 1
      rw [List.map_map]
      exact List.map_id' l
    have := Proofs.Any.strings_Join Proofs.Tryz.lays156 Proofs.Tryz.Builder_Extra_156 i.blk i.o c' (l.map mkS) (mkS [32]) w (fun j x hx => by
      rw [List.getElem?_map] at hx
      cases hlj : l[j]? with
      | none => rw [hlj] at hx; cases hx
      | some y =>
        rw [hlj] at hx
        cases hx
        have hjl := (List.getElem?_eq_some_iff.1 hlj).1
        exact cell_at hr hi hat (by omega) (hc j y hlj)) (hr.fresh b i hi).2 (by rw [List.length_map]; omega) (by rw [List.length_map]; exact hcap)
      (by rw [hj]; have := joinS_len hl; omega)
    rw [List.length_map, hj] at this
    exact this
  cases h1 with
  | slice _ _ _ _ i hi hc' hl' => exact key i _ _ hi rfl hl'
  | sliceO _ _ _ _ lb i o' c' hi hc' hlb hl' hb' ho' hn' => exact key i _ _ hi (by rcases ho' with h | h <;> omega) (by omega)

/- ===== the memory of the globals ===== -/
theorem hpG_at (b : Nat) : hpG.at b = if b = 5 then some (rowG [.iface 270 (ptrV 12 0)]) else if b = 4 then some (rowG [.iface 270 (ptrV 11 0)]) else if b = 3 then some (rowG pow10G) else if b = 2 then some (rowG (u32G roundsG)) else if b = 0 then some (rowG (u32G initG)) else none := by
  have e : hpG = ⟨T.set (path 5) (T.set (path 4) (T.set (path 3) (T.set (path 2) (T.set (path 0) .nil (some (rowG (u32G initG)))) (some (rowG (u32G roundsG)))) (some (rowG pow10G))) (some (rowG [.iface 270 (ptrV 11 0)]))) (some (rowG [.iface 270 (ptrV 12 0)])), 16, 16, []⟩ := by
    unfold hpG
    rw [T.setK_eq, T.setK_eq, T.setK_eq, T.setK_eq, T.setK_eq]
  rw [e]
  have pi : ∀ i, (path i = path b) ↔ b = i := fun i => ⟨fun h => (path_inj h).symm, fun h => by rw [h]⟩
  unfold Hp.at
  simp only [T.get_set, pi]
  rfl
/-- a value that looks at no block from 16 on -/
def Low (v : Value) : Prop := plainC v = true ∨ ∃ t b o, v = .iface t (ptrV b o) ∧ b < 16
def low (f : Map) : Map := fun b => if b < 16 then f b else none
theorem VRel.low {f : Map} {v v' : Value} (hv : Low v) (h : VRel f v v') : VRel (low f) v v' := by
  rcases hv with hp | ⟨t, b, o, rfl, hb⟩
  · exact h.plain_inv hp
  · cases h with
    | iface t v v' h =>
      cases h with
      | ptr b o i h => exact .iface t _ _ (.ptr b o i (by unfold Abs.low; rw [if_pos hb]; exact h))
theorem rowG_low {f : Map} {i : Img} {l : List Value} {x : Obj} (hl : ∀ v ∈ l, Low v) (h : ORel f i (rowG l) x) : ORel (low f) i (rowG l) x := by
  unfold rowG at *
  cases h with
  | row cells n elem cl ro arr elem' fz he hs hn hcl hro hc =>
    refine .row _ _ _ _ _ arr elem' fz he hs hn hcl hro fun k v hk hv => ?_
    obtain ⟨v', h1, h2⟩ := hc k v hk hv
    refine ⟨v', h1, h2.low (hl v ?_)⟩
    rw [z_stget, if_pos ⟨by omega, by omega⟩] at hv
    exact List.mem_of_getElem? hv
theorem u32_low (l : List Nat) : ∀ v ∈ u32G l, Low v := fun v hv => by
  obtain ⟨n, _, rfl⟩ := List.mem_map.1 hv
  exact .inl rfl
theorem pow_low : ∀ v ∈ pow10G, Low v := fun v hv => by
  obtain ⟨n, _, rfl⟩ := List.mem_map.1 hv
  exact .inl rfl
theorem hrel_low {f : Map} {h : Hp} {w : World} (hr : HRel f h w) (hB : Base h) : HRel (low f) hpG w := by
  have lt : ∀ {b i}, low f b = some i → b < 16 ∧ f b = some i := fun {b i} h => by
    unfold low at h
    split at h
    · exact ⟨by assumption, h⟩
    · cases h
  have some_ : ∀ b, (hpG.at b).isSome → b < 16 := fun b h => by
    rw [hpG_at] at h
    repeat' split at h
    all_goals first | omega | cases h
  refine ⟨fun b o i hb ho => ?_, fun b c i j hb hc h1 h2 => ?_, fun b i hb => ⟨(lt hb).1, (hr.fresh b i (lt hb).2).2⟩, fun b hb => ?_, Nat.le_refl _⟩
  · obtain ⟨h16, hf⟩ := lt hb
    obtain ⟨x, hx, hor⟩ := hr.obj b o i hf (by rw [hB.at_ b h16]; exact ho)
    refine ⟨x, hx, ?_⟩
    rw [hpG_at] at ho
    repeat' split at ho
    · cases ho; exact rowG_low (fun v hv => by simp only [List.mem_singleton] at hv; subst hv; exact .inr ⟨270, 12, 0, rfl, by omega⟩) hor
    · cases ho; exact rowG_low (fun v hv => by simp only [List.mem_singleton] at hv; subst hv; exact .inr ⟨270, 11, 0, rfl, by omega⟩) hor
    · cases ho; exact rowG_low pow_low hor
    · cases ho; exact rowG_low (u32_low _) hor
    · cases ho; exact rowG_low (u32_low _) hor
    · cases ho
  · obtain ⟨hb16, hfb⟩ := lt hb
    obtain ⟨hc16, hfc⟩ := lt hc
    exact hr.inj b c i j hfb hfc (by rw [hB.at_ b hb16]; exact h1) (by rw [hB.at_ c hc16]; exact h2)
  · cases h : hpG.at b with
    | none => rfl
    | some o => have := some_ b (by rw [h]; rfl); change 16 ≤ b at hb; omega
/-- a call without an address, run over the globals alone -/
theorem base_at {call0 : Call} (hgs : ∀ g ∈ gs, g < 16) (H : CallOk P gs call0) {g : FuncId} {args : List Value} {h h1 : Hp} {v : Value} (hp : args.all plainA = true) (hrun : call0 g args hpG = .val v h1) (hlog : h1.log = []) (hpv : plainA v = true) (hB : Base h) : CallAt P gs g args h (.val v h) := by
  intro args' f w hG hr hl
  have hl0 : LRel (low f) args args' := ⟨hl.1, fun i v hv => by
    obtain ⟨v', h1, h2⟩ := hl.2 i v hv
    exact ⟨v', h1, h2.plainA_inv (List.all_eq_true.1 hp v (List.mem_of_getElem? hv))⟩⟩
  have hG0 : GRel gs (low f) := fun g hg => by
    obtain ⟨i, h1, h2⟩ := hG g hg
    exact ⟨i, by unfold low; rw [if_pos (hgs g hg)]; exact h1, h2⟩
  have h2 := H g args args' (low f) hpG w hG0 (hrel_low hr hB) hl0
  rw [hrun] at h2
  refine ⟨h2.1, h2.2.mono fun e w' he => ?_⟩
  cases e with
  | panicked c => exact he.elim
  | outgrown => exact he.elim
  | returned v' =>
    obtain ⟨f', hA, hC, hv⟩ := he
    have hk : ∀ c, c < w.heap.size → w'.heap[c]? = w.heap[c]? := fun c hc => hC.keep c hc fun b i hb _ _ => by
      refine ⟨?_, by rw [hlog]; simp⟩
      unfold low at hb
      split at hb
      · assumption
      · cases hb
    refine ⟨f, AStep.refl h, ⟨hr, Map.le_refl f, ⟨fun b o i hb ho => ?_, hr.inj, fun b i hb => ⟨(hr.fresh b i hb).1, Nat.lt_of_lt_of_le (hr.fresh b i hb).2 hC.size⟩, hr.dead, hr.base⟩, hC.size, hC.tape, hC.os, hC.out, fun c hc _ => hk c hc, fun b i h1 h2 => by (rw [h1] at h2; cases h2)⟩, hv.plainA_inv hpv⟩
    obtain ⟨x, hx, hor⟩ := hr.obj b o i hb ho
    exact ⟨x, by rw [hk i.blk (hr.fresh b i hb).2]; exact hx, hor⟩

theorem pow_tab {f : Map} {h : Hp} {w : World} (h3 : 3 ∈ gs) (hG : GRel gs f) (hr : HRel f h w) (hB : Base h) : ∃ e fz, w.heap[3]? = some (.cells (Lib.pow10Tab.map fun z => Value.int .u64 z).toArray e fz) := by
  obtain ⟨i, hi, h1, h2⟩ := hG 3 h3
  have hat : h.at 3 = some (rowG pow10G) := by rw [hB.at_ 3 (by omega), hpG_at]; rfl
  obtain ⟨x, hx, hor⟩ := hr.obj 3 _ i hi hat
  rw [h1] at hx
  have hlen : pow10G.length = 20 := rfl
  unfold rowG at hor
  cases hor with
  | row cells n elem cl ro arr elem' fz he hs hn hcl hro hc =>
    obtain ⟨_, hni⟩ := hcl rfl
    rw [h2] at hc
    have e : arr = (Lib.pow10Tab.map fun z => Value.int .u64 z).toArray := by
      have hsz : arr.size = 20 := by rw [hs, ← hni, hlen]
      refine Array.ext_getElem? fun k => ?_
      by_cases hk : k < 20
      · have hv : (storeL pow10G 0 .nil fun t => t).get (path k) = some (.int .u64 (.ofNat (10 ^ k))) := by
          rw [z_stget, if_pos ⟨by omega, by omega⟩, Nat.sub_zero]
          unfold pow10G
          rw [List.getElem?_map, List.getElem?_range hk]; rfl
        obtain ⟨v', h4, h5⟩ := hc k _ (by omega) hv
        cases h5
        rw [Nat.zero_add] at h4
        rw [h4]
        unfold Lib.pow10Tab
        rw [List.getElem?_toArray, List.getElem?_map, List.getElem?_map, List.getElem?_range hk]; rfl
      · rw [Array.getElem?_eq_none (by omega), List.getElem?_toArray, List.getElem?_eq_none (by unfold Lib.pow10Tab; simp; omega)]
    exact ⟨elem', fz, by rw [hx, e]⟩
theorem itoa_at {h : Hp} {n : Int} (h3 : 3 ∈ gs) (hB : Base h) (hn : I64 n) : CallAt Proofs.Tryz.prog gs 40 [.int .i64 n] h (.val (.string (mkS (Lib.itoa n))) h) := by
  refine below_at (fun f => .string _) enters40 fun args' f w hG hr hlr => ?_
  obtain ⟨v', r, rfl, h1, h2⟩ := hlr.uncons
  have := h2.unnil; subst this
  cases h1
  obtain ⟨e, fz, htab⟩ := pow_tab h3 hG hr hB
  refine (Proofs.Any.strconv_Itoa Proofs.Tryz.laysM171 n hn.1 hn.2 w ?_).mono fun e w' he => ?_
  · unfold Lib.TabIs World.var?
    refine (congrArg (fun o => Option.bind o _) (show _ = some 3 from by kernel_rfl)).trans ?_
    show (match w.heap[3]? with | some (.cells cs _ _) => some cs | _ => none) = _
    rw [htab]
  · obtain ⟨he, k, os, rfl⟩ := he
    refine ⟨he, rfl, rfl, rfl, ?_, fun k hk => ?_⟩
    · show w.heap.size ≤ (w.heap ++ os).size
      rw [Array.size_append]; omega
    · show (w.heap ++ os)[k]? = w.heap[k]?
      rw [Array.getElem?_append_left hk]
end Abs
end Go
