/-
The evaluator is sound, third part: operations that write, and code.
Conditions: none.
-/
import Derived.Calls
import Derived.Orders
import Derived.Laws.MakeOwn
import Derived.Laws.RangeString
import Derived.Laws.IdiomStrings
import Derived.Lib.UnsafeStr
import Derived.Laws.Append
import Derived.Test.YtkondgccabcabaaGreatDoorEvalB
set_option linter.unusedVariables false
set_option linter.unusedSimpArgs false
/- A certified evaluator for closed calls, part L: what is to be shown of an operation that may write; new rows, stores. -/
namespace Go
namespace Abs

def ERel (f : Map) (e e' : PanicEntry) : Prop := VRel f e.v e'.v ∧ e.recovered = e'.recovered ∧ e.goexit = e'.goexit
inductive ChRel (f : Map) : List PanicEntry → List PanicEntry → Prop where
  | nil : ChRel f [] []
  | cons {e e' : PanicEntry} {c c' : List PanicEntry} (h : ERel f e e') (hc : ChRel f c c') : ChRel f (e :: c) (e' :: c')
theorem ChRel.mono {f g : Map} (hfg : f.le g) {c c' : List PanicEntry} (h : ChRel f c c') : ChRel g c c' := by
  induction h with
  | nil => exact .nil
  | cons h _ ih => exact .cons ⟨h.1.mono hfg, h.2⟩ ih

section
variable {P : Program} {gs : List Nat} {ds : List (Option Tmp)} {o : Oper}

/-- a function with a Go body -/
def Enters (P : Program) (g : FuncId) : Prop := ∃ fn, P.funcs[g]? = some fn ∧ (fn.name == "runtime.NumGoroutine") = false ∧ fn.body.isNone = false
/-- what is to be shown of a call: from related arguments and heaps on -/
def CallOk (P : Program) (gs : List Nat) (call : Call) : Prop := ∀ (g : FuncId) (args args' : List Value) (f : Map) (h : Hp) (w : World), GRel gs f → HRel f h w → LRel f args args' → match call g args h with
  | .none => True
  | .val v h' => Enters P g ∧ Calls P g args'.toArray w fun | .returned v', w' => ∃ f', AStep h h' ∧ CStep f h w f' h' w' ∧ VRel f' v v' | _, _ => False
  | .panic c h' => Enters P g ∧ Calls P g args'.toArray w fun | .panicked c', w' => ∃ f', AStep h h' ∧ CStep f h w f' h' w' ∧ ChRel f' c c' | _, _ => False
def GenOk1 (P : Program) (f : Map) (h : Hp) (w : World) (a : Act) (o : Oper) (r : Res) : Prop := match r with
  | .none => True
  | .val v h' => ∀ next Q, (∀ f' v' w', AStep h h' → CStep f h w f' h' w' → VRel f' v v' → next (a.put o.dst v') w') → o.wp P a w next Q
  | .panic c h' => ∀ next Q, (∀ f' c' w', AStep h h' → CStep f h w f' h' w' → ChRel f' c c' → Q (.panic c') a w') → o.wp P a w next Q
def GenOk (P : Program) (gs : List Nat) (ds : List (Option Tmp)) (o : Oper) (fn : DO) : Prop :=
  ∀ call, CallOk P gs call → ∀ lo tm f h (a : Act) w, GRel gs f → Env f ds lo tm a.tmps → HRel f h w → GenOk1 P f h w a o (fn call lo tm h)

theorem GenOk1.value {f f' : Map} {h h' : Hp} {w w' : World} {a : Act} {v v' : Value} (hs : AStep h h') (hr : (execOp a.eval o).run P w = .ok (.value v') w') (hc : CStep f h w f' h' w') (hv : VRel f' v v') : GenOk1 P f h w a o (.val v h') := by
  intro next Q hk
  unfold Oper.wp
  rw [hr]
  exact hk f' v' w' hs hc hv
theorem GenOk1.skip {f f' : Map} {h h' : Hp} {w w' : World} {a : Act} (hs : AStep h h') (hr : (execOp a.eval o).run P w = .ok .skip w') (hc : CStep f h w f' h' w') : GenOk1 P f h w a o (.val undef h') := by
  intro next Q hk
  unfold Oper.wp
  rw [hr]
  exact hk f' undef w' hs hc (VRel.undef f')

/- ===== rows ===== -/
theorem storeL_eq {R : Type} : ∀ (l : List Value) (i : Nat) (c : T Value) (k : T Value → R), storeL l i c k = k (storeL l i c fun t => t) := by
  intro l
  induction l with
  | nil => intro i c k; rfl
  | cons v l ih =>
    intro i c k
    have e : ∀ {S : Type} (k : T Value → S), storeL (v :: l) i c k = T.setK (path i) c (some v) fun c => storeL l (Nat.succ i) c k := fun _ => rfl
    rw [e, e, T.setK_eq, T.setK_eq]
    exact ih _ _ k
theorem storeL_get : ∀ (l : List Value) (i : Nat) (c : T Value) (k : Nat), (storeL l i c fun t => t).get (path k) = if i ≤ k ∧ k < i + l.length then l[k - i]? else c.get (path k) := by
  intro l
  induction l with
  | nil => intro i c k; rw [if_neg (by simp)]; rfl
  | cons v l ih =>
    intro i c k
    have e : (storeL (v :: l) i c fun t => t) = T.setK (path i) c (some v) fun c => storeL l (Nat.succ i) c fun t => t := rfl
    rw [e, T.setK_eq, ih, get_set_path]
    by_cases h1 : Nat.succ i ≤ k ∧ k < Nat.succ i + l.length
    · rw [if_pos h1, if_pos (by simp; omega), show k - i = (k - Nat.succ i) + 1 by omega]; rfl
    · rw [if_neg h1]
      by_cases h2 : i = k
      · subst h2; rw [if_pos rfl, if_pos (by simp)]; simp
      · rw [if_neg h2, if_neg (by simp; omega)]
theorem newRowK_eq {R : Type} (h : Hp) (e : TypeId) (l : List Value) (n : Nat) (cl : Bool) (k : Nat → Hp → R) : newRowK h e l n cl k = k h.next (h.new (.row (storeL l 0 .nil fun t => t) n e cl false)) := by
  unfold newRowK
  rw [storeL_eq, Hp.newK_eq]
theorem CStep.newRow {f : Map} {h : Hp} {w w' : World} {l : List Value} {arr : Array Value} {e : TypeId} {n : Nat} {cl : Bool} {s : Nat} {fz : Nat × Nat} (hr : HRel f h w) (hl : ∀ k v, l[k]? = some v → k < n → ∃ v', arr[k]? = some v' ∧ VRel f v v') (hn : n ≤ arr.size)
    (hcl : cl = true → n = arr.size) (hfz : ∀ k, k < arr.size → ¬ (fz.1 ≤ k ∧ k < fz.2)) (hheap : w'.heap = w.heap.push (.cells arr e fz)) (ht : w'.tape = w.tape) (hos : w'.os = w.os) (hout : w'.output = w.output) :
    CStep f h w (f.ext h.next ⟨w.heap.size, 0, arr.size, s⟩) (h.new (.row (storeL l 0 .nil fun t => t) n e cl false)) w' := by
  refine CStep.new hr rfl (.row _ _ _ _ _ arr e fz (.inl rfl) rfl (by simpa using hn) (fun hc => ⟨rfl, hcl hc⟩) (fun _ => hfz) fun k v hk hv => ?_) hheap ht hos hout
  rw [storeL_get] at hv
  split at hv
  · rename_i h1
    obtain ⟨v', h2, h3⟩ := hl k v (by simpa using hv) hk
    exact ⟨v', by simpa using h2, h3.mono (Map.le_ext _ (Map.none_of_ge hr (Nat.le_refl _)))⟩
  · cases hv
theorem LRel.cells {f : Map} {l : List Value} {arr : Array Value} (h : LRel f l arr.toList) {n : Nat} : ∀ k v, l[k]? = some v → k < n → ∃ v', arr[k]? = some v' ∧ VRel f v v' := fun k v hk _ => by
  obtain ⟨v', a, b⟩ := h.2 k v hk
  exact ⟨v', by simpa using a, b⟩
theorem none_fz (n : Nat) : ∀ k, k < n → ¬ ((0, 0).1 ≤ k ∧ k < ((0, 0) : Nat × Nat).2) := fun k _ h => absurd h.2 (Nat.not_lt_zero _)

/- ===== stores ===== -/
theorem allOne_eq : ∀ (l : List Value), allOne l = true → ∀ v ∈ l, isAgg' v = false := by
  intro l
  induction l with
  | nil => intro _ v hv; cases hv
  | cons x l ih =>
    intro h v hv
    have e : allOne (x :: l) = bif isAgg' x then false else allOne l := rfl
    rw [e] at h
    cases hx : isAgg' x with
    | true => rw [hx] at h; cases h
    | false =>
      rw [hx] at h
      rcases List.mem_cons.1 hv with rfl | hv
      · exact hx
      · exact ih h v hv
theorem VRel.one {f : Map} {v v' : Value} (h : VRel f v v') (ha : isAgg' v = false) : v'.oneCell' = true ∧ (∀ xs, v ≠ .agg xs) ∧ ∀ xs, v' ≠ .agg xs := by
  cases h <;> first | (cases ha; done) | exact ⟨rfl, fun _ => by simp, fun _ => by simp⟩
theorem LRel.one {f : Map} {l l' : List Value} (h : LRel f l l') (ha : allOne l = true) : ∀ v ∈ l', v.oneCell' = true := by
  intro v hv
  obtain ⟨i, hi, e⟩ := List.getElem_of_mem hv
  have hi' : i < l.length := by rw [h.1]; exact hi
  obtain ⟨v', h1, h2⟩ := h.2 i l[i] (by simp [hi'])
  have h3 : l'[i]? = some v := by simp [hi, e]
  rw [h3] at h1; cases h1
  exact (h2.one (allOne_eq _ ha _ (List.getElem_mem hi'))).1
theorem storeCells_run (P : Program) (g : Nat) (t : TypeId) (fz : Nat × Nat) : ∀ (vs : List Value) (o i : Nat) (cur : Array Value) (w : World), w.heap[g]? = some (.cells cur t fz) → o + i + vs.length ≤ cur.size → (∀ v ∈ vs, v.oneCell' = true) → (∀ k, k < cur.size → ¬ (fz.1 ≤ k ∧ k < fz.2)) →
    ∃ w' arr, (storeCells ⟨g, o, none⟩ vs i).run P w = .ok () w' ∧ w'.heap[g]? = some (.cells arr t fz) ∧ arr.size = cur.size ∧ (∀ k, arr[k]? = if o + i ≤ k ∧ k < o + i + vs.length then vs[k - (o + i)]? else cur[k]?) ∧
      w'.heap.size = w.heap.size ∧ (∀ c, c ≠ g → w'.heap[c]? = w.heap[c]?) ∧ w'.tape = w.tape ∧ w'.os = w.os ∧ w'.output = w.output := by
  intro vs
  induction vs with
  | nil => intro o i cur w hg _ _ _; exact ⟨w, cur, rfl, hg, rfl, fun k => by rw [if_neg (by simp)], rfl, fun _ _ => rfl, rfl, rfl, rfl⟩
  | cons v vs ih =>
    intro o i cur w hg hl h1 hfz
    have hi : o + i < cur.size := by simp at hl; omega
    have hcell : w.cell? ⟨g, o + i, none⟩ = some cur[o + i] := by simp [World.cell?, hg, hi]
    have hfro : w.frozen? ⟨g, o + i, none⟩ = false := by
      have := hfz (o + i) hi
      simp only [World.frozen?, hg]
      rw [Bool.and_eq_false_iff]
      simp
      omega
    have hgl : g < w.heap.size := (Array.getElem?_eq_some_iff.1 hg).1
    have hst : (store ((⟨g, o, none⟩ : Addr).add i) v).run P w = .ok () (w.setCell ⟨g, o + i, none⟩ v) := by
      rw [addr_add, run_store P w _ v _ (h1 v (by simp)), hcell]
      simp [hfro]
    have hg' : (w.setCell ⟨g, o + i, none⟩ v).heap[g]? = some (.cells (cur.setIfInBounds (o + i) v) t fz) := by
      simp only [World.setCell, Array.getElem?_modify, hg]
      simp
    obtain ⟨w', arr, h2, h3, h4, h5, h6, h7, h8, h9, h10⟩ := ih o (i + 1) (cur.setIfInBounds (o + i) v) (w.setCell ⟨g, o + i, none⟩ v) hg' (by simp at hl ⊢; omega) (fun x hx => h1 x (by simp [hx])) (by simpa using hfz)
    refine ⟨w', arr, ?_, h3, by simpa using h4, fun k => ?_, ?_, fun c hc => ?_, h8, h9, h10⟩
    · simp only [storeCells, Sem.run_bind, hst, Result.andThen_ok]
      exact h2
    · rw [h5]
      by_cases hk : o + (i + 1) ≤ k ∧ k < o + (i + 1) + vs.length
      · rw [if_pos hk, if_pos (by simp; omega), show k - (o + i) = (k - (o + (i + 1))) + 1 by omega]; rfl
      · rw [if_neg hk]
        by_cases hk2 : k = o + i
        · subst hk2; rw [if_pos (by simp)]; simp [hi]
        · rw [if_neg (by simp; omega), Array.getElem?_setIfInBounds, if_neg (by omega)]
    · rw [h6]; simp [World.setCell]
    · rw [h7 c hc]; simp only [World.setCell, Array.getElem?_modify]; rw [if_neg (by intro e; exact hc e.symm)]
theorem rowK_or {R : Type} (h : Hp) (b : Nat) (k : T Value → Nat → TypeId → Bool → Bool → R) (z : R) : (∃ c n e cl ro, h.at b = some (.row c n e cl ro) ∧ rowK h b k z = k c n e cl ro) ∨ rowK h b k z = z := by
  unfold rowK Hp.at
  cases h.bl.get (path b) with
  | none => exact .inr rfl
  | some ob =>
    cases ob with
    | row c n e cl ro => exact .inl ⟨c, n, e, cl, ro, rfl, rfl⟩
    | iter s p => exact .inr rfl
    | mp es => exact .inr rfl
/-- cells are written at a place of a block -/
theorem write_ok {R : Type} {f : Map} {h : Hp} {w : World} {b o : Nat} {i : Img} {l l' : List Value} (hr : HRel f h w) (hb : f b = some i) (hl : LRel f l l') (k : Hp → R) (z : R) : writeK h b o l k z = z ∨
    ∃ h' w', writeK h b o l k z = k h' ∧ AStep h h' ∧ CStep f h w f h' w' ∧ (storeCells ⟨i.blk, i.o + o, none⟩ l').run P w = .ok () w' := by
  unfold writeK
  rcases rowK_or h b (fun c n e cl ro => bif ro then z else bif allOne l then bif Nat.ble (Nat.add o (len l)) n then storeL l o c fun c => h.putK b (some (.row c n e cl false)) k else z else z) z with ⟨c, n, e, cl, ro, hat, h1⟩ | h1
  · rw [h1]
    cases ro with
    | true => exact .inl rfl
    | false =>
      cases ha : allOne l with
      | false => exact .inl rfl
      | true =>
        cases hb2 : Nat.ble (Nat.add o (len l)) n with
        | false => exact .inl rfl
        | true =>
          have hble := Nat.ble_eq.mp hb2
          rw [len_eq] at hble
          have hble' : o + l.length ≤ n := hble
          obtain ⟨x, hx, hor⟩ := hr.obj b _ i hb hat
          have hlive : (h.at b).isSome := by rw [hat]; rfl
          cases hor with
          | row _ _ _ _ _ arr e' fz he hs hn hcl hro hc =>
            obtain ⟨w', arr', g1, g2, g3, g4, g5, g6, g7, g8, g9⟩ := storeCells_run P i.blk e' fz l' (i.o + o) 0 arr w hx (by rw [hs, ← hl.1]; omega) (hl.one ha) (by rw [hs]; exact hro rfl)
            refine .inr ⟨h.put b (some (.row (storeL l o c fun t => t) n e cl false)), w', ?_, AStep.put _ hlive, ?_, g1⟩
            · show storeL l o c (fun c => h.putK b (some (.row c n e cl false)) k) = _
              rw [storeL_eq, Hp.putK_eq]
            · refine CStep.put hr hb hlive g2 (.row _ _ _ _ _ arr' e' fz he (by rw [g3]; exact hs) hn hcl hro fun j v hj hv => ?_) g5 g6 g7 g8 g9
              rw [storeL_get] at hv
              split at hv
              · rename_i hj2
                obtain ⟨v', h3, h4⟩ := hl.2 _ v hv
                refine ⟨v', ?_, h4⟩
                rw [g4, if_pos (by rw [← hl.1]; omega), show i.o + j - (i.o + o + 0) = j - o by omega]
                exact h3
              · rename_i hj2
                obtain ⟨v', h3, h4⟩ := hc j v hj hv
                refine ⟨v', ?_, h4⟩
                rw [g4, if_neg (by rw [← hl.1]; omega)]
                exact h3
  · rw [h1]; exact .inl rfl
end
end Abs
end Go
/- A certified evaluator for closed calls, part M: operations that may write, one by one. -/
namespace Go
namespace Abs
section
variable {P : Program} {gs : List Nat} {ds : List (Option Tmp)} {o : Oper}

theorem gen_alloc {e : TypeId} {z : List Value} (ho : o.op = .alloc e) (hz : zeroL P e = some z) : GenOk P gs ds o (oAlloc e z z.length) := by
  intro call hcall lo tm f h a w hG hE hr
  obtain ⟨ti, v, hi, hiz, rfl, hzz, _, _⟩ := zeroL_some hz
  unfold oAlloc
  rw [newRowK_eq]
  have hc := CStep.newRow (w' := { w with heap := w.heap.push (.cells v.cells e) }) (s := 0) (e := e) (cl := true) (n := v.cells.toList.length) hr (LRel.cells (hzz f)) (by simp) (fun _ => by simp) (none_fz _) rfl rfl rfl rfl
  refine GenOk1.value (AStep.new _ hr.base) (v' := .pointer (some ⟨w.heap.size, 0, none⟩)) ?_ hc (.ptr h.next 0 _ (Map.ext_self _ _ _))
  simp [execOp, ho, Instr.alloc, zeroValue, typeInfo, hi, hiz, newVar, newRow]
theorem gen_box {e : TypeId} {x : Operand} (ho : o.op = .box e x) : GenOk P gs ds o (oBox e (cOpd gs ds x)) := by
  intro call hcall lo tm f h a w hG hE hr
  have hx := rdO_rel hG hE x
  unfold oBox boxV
  cases ht : isTop (rdO (cOpd gs ds x) lo tm) with
  | true => trivial
  | false =>
    show GenOk1 P f h w a o (newRowK h e (cellsL (rdO (cOpd gs ds x) lo tm)) (len (cellsL (rdO (cOpd gs ds x) lo tm))) true fun b h => .val (ptrV b 0) h)
    rw [newRowK_eq, len_eq]
    have hl := hx.cells ht
    have hlen : (cellsL (rdO (cOpd gs ds x) lo tm)).length = (a.eval x).cells.size := by rw [hl.1]; simp
    have hc := CStep.newRow (w' := { w with heap := w.heap.push (.cells (a.eval x).cells e) }) (s := 0) (e := e) (cl := true) (n := (cellsL (rdO (cOpd gs ds x) lo tm)).length) hr (LRel.cells hl) (by omega) (fun _ => hlen) (none_fz _) rfl rfl rfl rfl
    refine GenOk1.value (AStep.new _ hr.base) (v' := .pointer (some ⟨w.heap.size, 0, none⟩)) ?_ hc (.ptr h.next 0 _ (Map.ext_self _ _ _))
    simp [execOp, ho, Instr.box, newVar, newRow]
theorem gen_store1 {t : TypeId} {x y : Operand} {d : TypeDesc} (ho : o.op = .store t x y) (hd : P.underlying t = some d) (hs : sz P t = 1) : GenOk P gs ds o (oStore1 (cOpd gs ds x) (cOpd gs ds y)) := by
  intro call hcall lo tm f h a w hG hE hr
  have hx := rdO_rel hG hE x
  have hy := rdO_rel hG hE y
  unfold oStore1
  rcases vPtr_or (rdO (cOpd gs ds x) lo tm) (fun b o => writeK h b o [rdO (cOpd gs ds y) lo tm] (fun h => Res.val undef h) .none) .none with ⟨ad, e, h1⟩ | h1
  · rw [h1]; rw [e] at hx
    obtain ⟨_, i, hi, hxe⟩ := hx.ptr_inv
    have hl : LRel f [rdO (cOpd gs ds y) lo tm] [a.eval y] := LRel.cons hy (LRel.nil f)
    rcases write_ok (P := P) (o := ad.off) hr hi hl (fun h => Res.val undef h) .none with h2 | ⟨h', w', h2, h3, h4, h5⟩
    · rw [h2]; trivial
    · rw [h2]
      have hna : (a.eval y).cells = #[a.eval y] := by
        -- the cell is the value of one cell
        have hone : ∀ xs, a.eval y ≠ .agg xs := by
          intro xs hxs
          rw [hxs] at h5
          simp only [storeCells, Sem.run_bind] at h5
          have : ∀ (A : Addr) (w : World), (store A (.agg xs)).run P w = .halt (.stuck _) w := fun _ _ => rfl
          rw [this] at h5
          cases h5
        cases hv : a.eval y <;> first | rfl | exact absurd hv (hone _)
      refine GenOk1.skip h3 ?_ h4
      simp [execOp, ho, Instr.storeAt, Instr.sureAddr, storeVar, hxe, run_sizeOf hd, hs, hna, h5]
  · rw [h1]; trivial
theorem gen_storeA {t : TypeId} {x y : Operand} {d : TypeDesc} (ho : o.op = .store t x y) (hd : P.underlying t = some d) : GenOk P gs ds o (oStoreA (sz P t) (cOpd gs ds x) (cOpd gs ds y)) := by
  intro call hcall lo tm f h a w hG hE hr
  have hx := rdO_rel hG hE x
  have hy := rdO_rel hG hE y
  unfold oStoreA
  rcases vPtr_or (rdO (cOpd gs ds x) lo tm) (fun b o => vAgg (rdO (cOpd gs ds y) lo tm) (fun l => bif Nat.beq (len l) (sz P t) then writeK h b o l (fun h => Res.val undef h) .none else .none) .none) .none with ⟨ad, e, h1⟩ | h1
  · rw [h1]; rw [e] at hx
    obtain ⟨_, i, hi, hxe⟩ := hx.ptr_inv
    rcases vAgg_or (rdO (cOpd gs ds y) lo tm) (fun l => bif Nat.beq (len l) (sz P t) then writeK h ad.block ad.off l (fun h => Res.val undef h) .none else .none) .none with ⟨cs, e2, h2⟩ | h2
    · rw [h2]; rw [e2] at hy
      obtain ⟨cs', hye, hl⟩ := hy.agg_inv
      cases hn : Nat.beq (len cs.toList) (sz P t) with
      | false => trivial
      | true =>
        have hn := Nat.eq_of_beq_eq_true hn
        rw [len_eq] at hn
        show GenOk1 P f h w a o (writeK h ad.block ad.off cs.toList (fun h => Res.val undef h) .none)
        rcases write_ok (P := P) (o := ad.off) hr hi hl (fun h => Res.val undef h) .none with h3 | ⟨h', w', h3, h4, h5, h6⟩
        · rw [h3]; trivial
        · rw [h3]
          refine GenOk1.skip h4 ?_ h5
          have hsz : cs'.size = sz P t := by rw [← hn, hl.1]; simp
          simp [execOp, ho, Instr.storeAt, Instr.sureAddr, storeVar, hxe, hye, run_sizeOf hd, Value.cells, hsz, h6]
    · rw [h2]; trivial
  · rw [h1]; trivial
theorem gen_pnc {x : Operand} (ho : o.op = .panic x) : GenOk P gs ds o (oPnc (cOpd gs ds x)) := by
  intro call hcall lo tm f h a w hG hE hr
  have hx := rdO_rel hG hE x
  unfold oPnc
  rcases vIface_or (rdO (cOpd gs ds x) lo tm) (fun t v => Res.panic [{ v := .iface t v, recovered := false }] h) .none .none with ⟨t, v, e, h1⟩ | ⟨e, h1⟩ | h1
  · rw [h1]; rw [e] at hx
    obtain ⟨v', hxe, hv⟩ := hx.iface_inv
    intro next Q hk
    have hrun : (execOp a.eval o).run P w = .halt (.panic (.iface t v')) w := by simp [execOp, ho, Instr.panic, hxe]
    unfold Oper.wp
    rw [hrun]
    exact hk f _ w (AStep.refl h) (CStep.refl hr) (.cons ⟨.iface t v v' hv, rfl, rfl⟩ .nil)
  · rw [h1]; trivial
  · rw [h1]; trivial
theorem GenOk1.call {f : Map} {h : Hp} {w : World} {a : Act} {g : FuncId} {args : List Value} {args' : Array Value} {call : Call} (hcall : CallOk P gs call) (hG : GRel gs f) (hr : HRel f h w) (hl : LRel f args args'.toList)
    (hrun : (execOp a.eval o).run P w = (callFunc g args').run P w) : GenOk1 P f h w a o (call g args h) := by
  have hc := hcall g args args'.toList f h w hG hr hl
  revert hc
  have hin : Enters P g → (execOp a.eval o).run P w = .ok (.enter g args') w := fun ⟨fn, h1, h2, h3⟩ => by
    rw [hrun]
    have h4 : fn.name ≠ "runtime.NumGoroutine" := by simpa using h2
    simp [callFunc, h1, h4]
    intro hb
    rw [hb] at h3; cases h3
  cases call g args h with
  | none => exact fun _ => trivial
  | val v h' =>
    intro ⟨he, hc⟩ next Q hk
    unfold Oper.wp
    rw [hin he, Oper.upon_enter]
    refine Calls.mono (by rw [Array.toArray_toList] at hc; exact hc) fun e w' he => ?_
    cases e with
    | returned v' => obtain ⟨f', h0, h1, h2⟩ := he; exact hk f' v' w' h0 h1 h2
    | panicked c => exact he.elim
    | outgrown => exact he.elim
  | panic c h' =>
    intro ⟨he, hc⟩ next Q hk
    unfold Oper.wp
    rw [hin he, Oper.upon_enter]
    refine Calls.mono (by rw [Array.toArray_toList] at hc; exact hc) fun e w' he => ?_
    cases e with
    | panicked c' => obtain ⟨f', h0, h1, h2⟩ := he; exact hk f' c' w' h0 h1 h2
    | returned c => exact he.elim
    | outgrown => exact he.elim
theorem gen_callF {g : FuncId} {args : Array Operand} {ats : Array TypeId} (ho : o.op = .call { callee := .value (.func g), args := args, argTypes := ats }) : GenOk P gs ds o (oCallF g (args.toList.map (cOpd gs ds))) := by
  intro call hcall lo tm f h a w hG hE hr
  have hl := rdL_rel hG hE args.toList
  exact GenOk1.call hcall hG hr (args' := args.map a.eval) (by simpa using hl) (run_call_fn a.eval w ho rfl)
theorem gen_callV {x : Operand} {args : Array Operand} {ats : Array TypeId} (ho : o.op = .call { callee := .value x, args := args, argTypes := ats }) : GenOk P gs ds o (oCallV (cOpd gs ds x) (args.toList.map (cOpd gs ds))) := by
  intro call hcall lo tm f h a w hG hE hr
  have hx := rdO_rel hG hE x
  have hl := rdL_rel hG hE args.toList
  unfold oCallV
  rcases vFn_or (rdO (cOpd gs ds x) lo tm) (fun g first cap => call g (first ++ (rdL (args.toList.map (cOpd gs ds)) lo tm ++ cap)) h) .none with ⟨g, fi, cp, e, h1⟩ | h1
  · rw [h1]; rw [e] at hx
    obtain ⟨fi', cp', hxe, hf1, hc1⟩ := hx.fn_inv
    refine GenOk1.call hcall hG hr (args' := fi' ++ args.map a.eval ++ cp') ?_ ?_
    · have := hf1.append (hl.append hc1)
      simpa [List.append_assoc] using this
    · unfold execOp
      rw [ho]
      simp only [resolve, hxe, Deferred.ofValue, Sem.run_bind]
      simp [invoke]
  · rw [h1]; trivial
theorem gen_rng {t : TypeId} {x : Operand} (ho : o.op = .range t x) (ht : P.underlying t = some .string) : GenOk P gs ds o (oRng (cOpd gs ds x)) := by
  intro call hcall lo tm f h a w hG hE hr
  have hx := rdO_rel hG hE x
  unfold oRng
  rcases vStr_or (rdO (cOpd gs ds x) lo tm) (fun s => h.newK (.iter s 0) fun b h => Res.val (ptrV b 0) h) .none with ⟨s, e, h1⟩ | h1
  · rw [h1]; rw [e] at hx
    have hxe := hx.str_inv
    rw [Hp.newK_eq]
    have hc := CStep.new (w' := { w with heap := w.heap.push (.stringIter s 0) }) (i := ⟨w.heap.size, 0, 0, 0⟩) (o := .iter s 0) hr rfl (.iter s 0 rfl) rfl rfl rfl rfl
    refine GenOk1.value (AStep.new _ hr.base) (v' := .pointer (some ⟨w.heap.size, 0, none⟩)) ?_ hc (.ptr h.next 0 _ (Map.ext_self _ _ _))
    simp [execOp, ho, Instr.range, run_underlying ht, hxe]
  · rw [h1]; trivial
theorem iterK_or {R : Type} (h : Hp) (b : Nat) (k : ByteArray → Nat → R) (z : R) : (∃ s p, h.at b = some (.iter s p) ∧ iterK h b k z = k s p) ∨ iterK h b k z = z := by
  unfold iterK Hp.at
  cases h.bl.get (path b) with
  | none => exact .inr rfl
  | some ob =>
    cases ob with
    | row c n e cl ro => exact .inr rfl
    | iter s p => exact .inl ⟨s, p, rfl, rfl⟩
    | mp es => exact .inr rfl
theorem VRel.plainT {f : Map} {a : Array Value} (h : a.toList.all plainC = true) : VRel f (.tuple a) (.tuple a) := by
  have := VRel.tuple_list (LRel.plain (f := f) h)
  simpa using this
theorem gen_nxt {x : Operand} (ho : o.op = .next x true) : GenOk P gs ds o (oNxt (cOpd gs ds x)) := by
  intro call hcall lo tm f h a w hG hE hr
  have hx := rdO_rel hG hE x
  unfold oNxt
  rcases vPtr_or (rdO (cOpd gs ds x) lo tm) (fun b o => bif Nat.beq o 0 then iterK h b (fun s pos =>
    bif Nat.blt pos (len (bl s)) then oEl (nthB (bl s) pos) (fun c => bif Nat.blt c.toNat 128 then forceNat (Nat.succ pos) fun q => h.putK b (some (.iter s q)) fun h => Res.val (.tuple #[.bool true, .int .i64 (.ofNat pos), .int .i32 (.ofNat c.toNat)]) h else .none) .none
    else .val (.tuple #[.bool false]) h) .none else .none) .none with ⟨ad, e, h1⟩ | h1
  · rw [h1]; rw [e] at hx
    obtain ⟨_, i, hi, hxe⟩ := hx.ptr_inv
    cases h0 : Nat.beq ad.off 0 with
    | false => trivial
    | true =>
      have h0 := Nat.eq_of_beq_eq_true h0
      dsimp only [cond_true]
      rcases iterK_or h ad.block (fun s pos =>
        bif Nat.blt pos (len (bl s)) then oEl (nthB (bl s) pos) (fun c => bif Nat.blt c.toNat 128 then forceNat (Nat.succ pos) fun q => h.putK ad.block (some (.iter s q)) fun h => Res.val (.tuple #[.bool true, .int .i64 (.ofNat pos), .int .i32 (.ofNat c.toNat)]) h else .none) .none
        else .val (.tuple #[.bool false]) h) .none with ⟨s, pos, hat, h2⟩ | h2
      · rw [h2]
        obtain ⟨ob, hob, hor⟩ := hr.obj ad.block _ i hi hat
        have hlive : (h.at ad.block).isSome := by rw [hat]; rfl
        cases hor with
        | iter _ _ hio =>
        have hpt : a.eval x = .pointer (some ⟨i.blk, 0, none⟩) := by rw [hxe, hio, h0]
        cases hlt : Nat.blt pos (len (bl s)) with
        | false =>
          have hge : ¬ pos < s.size := by
            intro hh
            have : Nat.blt pos (len (bl s)) = true := Nat.blt_eq.mpr (by rw [len_eq, bl_size]; exact hh)
            rw [hlt] at this; cases this
          refine GenOk1.value (AStep.refl h) (v' := .tuple #[.bool false]) ?_ (CStep.refl hr) (VRel.plainT rfl)
          simp [execOp, ho, hpt, Instr.next, getObj, Sem.run, hob, hge]
        | true =>
          have hlt := Nat.blt_eq.mp hlt
          rw [len_eq, bl_size] at hlt
          cases hc : nthB (bl s) pos with
          | none => trivial
          | some c =>
            rw [nthB_eq] at hc
            have hce : s[pos]'hlt = c := by
              have h3 := (List.getElem?_eq_some_iff.1 hc).2
              rw [← h3]; rfl
            cases h128 : Nat.blt c.toNat 128 with
            | false =>
              show GenOk1 P f h w a o (bif Nat.blt c.toNat 128 then _ else .none)
              rw [h128]; trivial
            | true =>
              have h128' := Nat.blt_eq.mp h128
              have hd := decode_ascii s pos hlt (by rw [hce]; exact h128')
              rw [hce] at hd
              show GenOk1 P f h w a o (bif Nat.blt c.toNat 128 then _ else .none)
              rw [h128]
              show GenOk1 P f h w a o (forceNat (Nat.succ pos) fun q => h.putK ad.block (some (.iter s q)) fun h => Res.val (.tuple #[.bool true, .int .i64 (.ofNat pos), .int .i32 (.ofNat c.toNat)]) h)
              rw [forceNat_eq, Hp.putK_eq]
              have hbl : i.blk < w.heap.size := (hr.fresh _ _ hi).2
              have hc2 := CStep.put (w' := { w with heap := w.heap.setIfInBounds i.blk (.stringIter s (pos + 1)) }) (x := .stringIter s (pos + 1)) (o := .iter s (pos + 1)) hr hi hlive (by simp [hbl]) (.iter s (pos + 1) hio) (by simp)
                (fun c hc => by simp only [Array.getElem?_setIfInBounds]; rw [if_neg (fun e => hc e.symm)]) rfl rfl rfl
              refine GenOk1.value (AStep.put _ hlive) (v' := .tuple #[.bool true, .int .i64 (.ofNat pos), .int .i32 (.ofNat c.toNat)]) ?_ hc2 (VRel.plainT rfl)
              simp [execOp, ho, hpt, Instr.next, getObj, setObj, Sem.run, hob, hlt, hd, goInt]
      · rw [h2]; trivial
  · rw [h1]; trivial
/- ===== rows of zeros ===== -/
theorem repL_succ (n : Nat) (z : List Value) : repL (n + 1) z = z ++ repL n z := rfl
theorem repL_length (n : Nat) (z : List Value) : (repL n z).length = n * z.length := by
  induction n with
  | zero => show ([] : List Value).length = _; simp
  | succ n ih => rw [repL_succ, List.length_append, ih, Nat.succ_mul]; omega
theorem repL_get (n : Nat) (z : List Value) (k : Nat) (hk : k < n * z.length) : (repL n z)[k]? = z[k % z.length]? := by
  induction n generalizing k with
  | zero => simp at hk
  | succ n ih =>
    rw [repL_succ]
    rw [Nat.succ_mul] at hk
    by_cases h : k < z.length
    · rw [List.getElem?_append_left h, Nat.mod_eq_of_lt h]
    · rw [List.getElem?_append_right (by omega), ih _ (by omega)]
      congr 1
      rw [Nat.mod_eq_sub_mod (by omega : k ≥ z.length)]
theorem zeros_eq (zero : Array Value) (n s : Nat) (hs : zero.size = s) : ((Array.range (n * s)).map (zero[· % zero.size]!)).toList = repL n zero.toList := by
  apply List.ext_getElem?
  intro k
  by_cases hk : k < n * s
  · rw [repL_get _ _ _ (by simpa [hs] using hk)]
    have hs0 : 0 < s := by
      rcases Nat.eq_zero_or_pos s with h | h
      · subst h; simp at hk
      · exact h
    have hm : k % zero.size < zero.size := Nat.mod_lt _ (by omega)
    simp [hk, hm]
  · have h1 : (repL n zero.toList).length ≤ k := by rw [repL_length]; simp [hs]; omega
    rw [List.getElem?_eq_none h1]
    simp; omega
theorem repL_rel {f : Map} {z z' : List Value} (h : LRel f z z') (n : Nat) : LRel f (repL n z) (repL n z') := by
  induction n with
  | zero => exact LRel.nil f
  | succ n ih => exact h.append ih
theorem open_big : 16777216 < OPEN := by unfold OPEN; decide
theorem gen_mkS {t e : TypeId} {x y : Operand} {z : List Value} (ho : o.op = .makeSlice t x y) (ht : P.underlying t = some (.slice e)) (hz : zeroL P e = some z) : GenOk P gs ds o (oMkS e z (P.bytesOf e) (cOpd gs ds x) (cOpd gs ds y)) := by
  intro call hcall lo tm f h a w hG hE hr
  have hx := rdO_rel hG hE x
  have hy := rdO_rel hG hE y
  obtain ⟨ti, v, hi, hiz, rfl, hzz, hzl, hsz⟩ := zeroL_some hz
  unfold oMkS
  rcases vNat_or (rdO (cOpd gs ds x) lo tm) (fun n => vNat (rdO (cOpd gs ds y) lo tm) (fun c =>
    bif Nat.ble n c then bif Nat.ble (Nat.mul (P.bytesOf e) c) 16777216 then bif Nat.ble c 16777216 then newRowK h e (repL c v.cells.toList) (len (repL c v.cells.toList)) true fun b h => forceNat n fun n => forceNat c fun c => Res.val (slV b 0 n c) h else .none else .none else .none) .none) .none with ⟨k1, n, e1, h1⟩ | h1
  · rw [h1]; rw [e1] at hx
    rcases vNat_or (rdO (cOpd gs ds y) lo tm) (fun c =>
      bif Nat.ble n c then bif Nat.ble (Nat.mul (P.bytesOf e) c) 16777216 then bif Nat.ble c 16777216 then newRowK h e (repL c v.cells.toList) (len (repL c v.cells.toList)) true fun b h => forceNat n fun n => forceNat c fun c => Res.val (slV b 0 n c) h else .none else .none else .none) .none with ⟨k2, c, e2, h2⟩ | h2
    · rw [h2]; rw [e2] at hy
      cases c1 : Nat.ble n c with
      | false => trivial
      | true =>
      cases c2 : Nat.ble (Nat.mul (P.bytesOf e) c) 16777216 with
      | false => trivial
      | true =>
      cases c3 : Nat.ble c 16777216 with
      | false => trivial
      | true =>
        have c1 := Nat.ble_eq.mp c1
        have c2 : P.bytesOf e * c ≤ 16777216 := Nat.ble_eq.mp c2
        have c3 := Nat.ble_eq.mp c3
        show GenOk1 P f h w a o (newRowK h e (repL c v.cells.toList) (len (repL c v.cells.toList)) true fun b h => forceNat n fun n => forceNat c fun c => Res.val (slV b 0 n c) h)
        rw [newRowK_eq, forceNat_eq, forceNat_eq, len_eq]
        have hsize : v.cells.size = ti.size := by rw [← hzl]; simp
        have harr : (madeCells v.cells (c * ti.size)).toList = repL c v.cells.toList := zeros_eq v.cells c ti.size hsize
        have hl : LRel f (repL c v.cells.toList) (madeCells v.cells (c * ti.size)).toList := by rw [harr]; exact repL_rel (hzz f) c
        have hlen : (repL c v.cells.toList).length = (madeCells v.cells (c * ti.size)).size := by rw [hl.1]; simp
        have hc := CStep.newRow (w' := w.alloc (.cells (madeCells v.cells (c * ti.size)) e)) (s := 0) (e := e) (cl := true) (n := (repL c v.cells.toList).length) hr (LRel.cells hl) (by omega) (fun _ => hlen) (none_fz _) rfl rfl rfl rfl
        have hO := open_big
        refine GenOk1.value (AStep.new _ hr.base) (v' := .slice (some ⟨w.heap.size, 0, none⟩) n c) ?_ hc (.slice h.next 0 n c _ (Map.ext_self _ _ _) (by omega) c1)
        have hb : ti.bytes = P.bytesOf e := by simp [Program.bytesOf, hi]
        have hbytes : (ti.bytes : Int) * (c : Int) ≤ 281474976710656 := by
          rw [hb]
          have : ((P.bytesOf e * c : Nat) : Int) ≤ 16777216 := Int.ofNat_le.mpr c2
          rw [Int.natCast_mul] at this
          omega
        have hrun := run_make (P := P) w t e ti v ht hi hiz k1 k2 (n : Int) (c : Int) (by omega) (by omega) hbytes (by omega)
        rw [Int.toNat_natCast, Int.toNat_natCast] at hrun
        simp only [execOp, ho, hx.int_inv, hy.int_inv, Sem.run_bind, hrun]
        rfl
    · rw [h2]; trivial
  · rw [h1]; trivial
end
end Abs
end Go
/- A certified evaluator for closed calls, part N: operations that may write, more of them. -/
namespace Go
namespace Abs
section
variable {P : Program} {gs : List Nat} {ds : List (Option Tmp)} {o : Oper}

theorem grown_ge (w : World) (need old : Nat) (e : TypeId) : need ≤ grownCap w need old e := by
  unfold grownCap Question.cut
  exact Nat.le_add_right _ _
theorem mapB_eq (l : List UInt8) : mapB l = l.map byteV := by
  induction l with
  | nil => rfl
  | cons b l ih => show byteV b :: mapB l = _; rw [ih]; rfl
theorem gen_buildS {t e : TypeId} {n : Nat} {parts : Array (Nat × Operand)} {z : List Value} {l : List (Nat × Nat × OD)} (ho : o.op = .buildSlice t n parts) (ht : P.underlying t = some (.slice e)) (hz : zeroL P e = some z)
    (hp : cParts gs ds (fun i => some (i * sz P e, sz P e)) parts.toList = some l) (hn : n * sz P e ≤ 16777216) (hn2 : n ≤ 16777216) : GenOk P gs ds o (oBuildS e n (repL n z) l) := by
  intro call hcall lo tm f h a w hG hE hr
  obtain ⟨ti, v, hi, hiz, rfl, hzz, hzl, hsz⟩ := zeroL_some hz
  have hpo := cParts_ok _ _ hp
  unfold oBuildS
  have hsize : v.cells.size = ti.size := by rw [← hzl]; simp
  have harr : (madeCells v.cells (n * ti.size)).toList = repL n v.cells.toList := zeros_eq v.cells n ti.size hsize
  have hL : LRel f (repL n v.cells.toList) (madeCells v.cells (n * ti.size)).toList := by rw [harr]; exact repL_rel (hzz f) n
  rcases fillK_ok hG hE (fun l => newRowK h e l (len l) true fun b h => Res.val (slV b 0 n n) h) .none hpo (repL n v.cells.toList) _ hL with h1 | ⟨z', cs', h1, h2, h3, h4⟩
  · rw [h1]; trivial
  · rw [h1, newRowK_eq, len_eq]
    have hlen : z'.length = cs'.size := by rw [h3.1]; simp
    have hc := CStep.newRow (w' := w.alloc (.cells cs' e)) (s := 0) (e := e) (cl := true) (n := z'.length) hr (LRel.cells h3) (by omega) (fun _ => hlen) (none_fz _) rfl rfl rfl rfl
    have hO := open_big
    refine GenOk1.value (AStep.new _ hr.base) (v' := .slice (some ⟨w.heap.size, 0, none⟩) n n) ?_ hc (.slice h.next 0 n n _ (Map.ext_self _ _ _) (by omega) (Nat.le_refl _))
    have hsz0 : (sizeOf e).run P w = .ok ti.size w := by simp [sizeOf, typeInfo, hi]
    have hz0 : (zeroValue e).run P w = .ok v w := by simp [zeroValue, typeInfo, hi, hiz]
    rw [hsz] at h2 hn
    have hbig : ¬ n * ti.size > 2 ^ 24 := by omega
    have hfill : Instr.fill (fun i => some (i * ti.size, ti.size)) (madeCells v.cells (n * ti.size)) (parts.map fun (i, x) => (i, a.eval x)).toList = some cs' := by
      rw [Array.toList_map]; exact h2
    simp only [execOp, ho, Instr.buildSlice, Sem.run_bind, run_underlying ht, Result.andThen_ok, hsz0]
    rw [if_neg hbig]
    by_cases h0 : n * ti.size = 0
    · have e0 : (Array.range (n * ti.size)).map (fun x => (#[] : Array Value)[x % (#[] : Array Value).size]!) = madeCells v.cells (n * ti.size) := by
        rw [h0]; simp [madeCells]
      simp only [if_pos h0, Sem.run_bind, Sem.run_pure, Result.andThen_ok]
      rw [e0, hfill]
      rfl
    · simp only [Sem.run_pure, Result.andThen_ok, if_neg h0, Sem.run_bind, hz0]
      rw [show (Array.range (n * ti.size)).map (fun x => v.cells[x % v.cells.size]!) = madeCells v.cells (n * ti.size) from rfl, hfill]
      rfl
theorem gen_strBytes {s d e : TypeId} {x : Operand} (ho : o.op = .convert s d x) (hs : P.underlying s = some .string) (hd : P.underlying d = some (.slice e)) (he : P.underlying e = some (.int .u8)) : GenOk P gs ds o (oStrBytes e (cOpd gs ds x)) := by
  intro call hcall lo tm f h a w hG hE hr
  have hx := rdO_rel hG hE x
  unfold oStrBytes
  rcases vStr_or (rdO (cOpd gs ds x) lo tm) (fun s => forceNat (len (bl s)) fun n => bif Nat.blt n OPEN then newRowK h e (mapB (bl s)) n false fun b h => forceNat (openC 1 n) fun c => Res.val (slV b 0 n c) h else .none) .none with ⟨str, e1, h1⟩ | h1
  · rw [h1, forceNat_eq]; rw [e1] at hx
    have hxe := hx.str_inv
    rw [len_eq, bl_size]
    cases hlt : Nat.blt str.size OPEN with
    | false => trivial
    | true =>
      have hlt := Nat.blt_eq.mp hlt
      show GenOk1 P f h w a o (newRowK h e (mapB (bl str)) str.size false fun b h => forceNat (openC 1 str.size) fun c => Res.val (slV b 0 str.size c) h)
      rw [newRowK_eq, forceNat_eq]
      have hge := grown_ge w str.size 0 e
      have hrun := run_bytes_of_string (P := P) w s d e str hs hd he
      generalize grownCap w str.size 0 e = cap at *
      have hrow : (bytesRow str cap).toList = mapB (bl str) ++ List.replicate (cap - str.size) (.int .u8 0) := by
        rw [mapB_eq]; simp [bytesRow, bl, byteV]
      have hsize : (bytesRow str cap).size = cap := by
        have := congrArg List.length hrow
        rw [mapB_eq] at this
        simp [bl_size] at this
        omega
      have hc := CStep.newRow (w' := w.drew.alloc (.cells (bytesRow str cap) e ((bytesRow str cap).size, (bytesRow str cap).size + 1))) (s := 1) (e := e) (cl := false) (n := str.size) (l := mapB (bl str)) hr (arr := bytesRow str cap) (fun k v hk hkn => by
        have hk2 : (bytesRow str cap)[k]? = some v := by
          have h3 : (bytesRow str cap).toList[k]? = some v := by
            rw [hrow, List.getElem?_append_left (by rw [mapB_eq]; simpa [bl_size] using hkn)]; exact hk
          simpa using h3
        refine ⟨v, hk2, ?_⟩
        rw [mapB_eq] at hk
        have := List.mem_of_getElem? hk
        obtain ⟨b, _, rfl⟩ := List.mem_map.1 this
        exact .int _ _) (by omega) (fun h => by cases h) (fun k hk h => by omega) rfl rfl rfl rfl
      refine GenOk1.value (AStep.new _ hr.base) (v' := .slice (some ⟨w.heap.size, 0, none⟩) str.size cap) ?_ hc ?_
      · simp only [execOp, ho, hxe, Sem.run_bind, hrun]; rfl
      · refine .sliceO h.next 0 str.size _ str.size _ 0 cap (Map.ext_self _ _ _) ?_ hlt (Nat.le_refl _) hge (.inl rfl) ?_
        · show Nat.add (Nat.mul OPEN (Nat.succ 1)) str.size = OPEN * (1 + 1) + str.size
          rfl
        · show 0 + cap * 1 ≤ (bytesRow str cap).size
          rw [hsize]; omega
  · rw [h1]; trivial
end
end Abs
end Go
/- A certified evaluator for closed calls, part O: copy and append. -/
namespace Go
namespace Abs
section
variable {P : Program} {gs : List Nat} {ds : List (Option Tmp)} {o : Oper}

theorem cellsOf_some {h : Hp} {b ao m : Nat} {cs : List Value} (hc : cellsOf h b ao m = some cs) : ∃ c n e cl ro, h.at b = some (.row c n e cl ro) ∧ ao + m ≤ n ∧ loadN c ao m [] = some cs := by
  unfold cellsOf at hc
  obtain ⟨ob, hob, hc⟩ := oEl_some _ _ hc
  obtain ⟨c, n, e, cl, ro, rfl, h1, h2⟩ := cellsOb_some hc
  exact ⟨c, n, e, cl, ro, hob, h1, h2⟩
theorem loadCells_take {w : World} {A : Addr} {l' : List Value} (h : ∀ j v, l'[j]? = some v → w.cell? (A.add j) = some v) {m : Nat} (hm : m ≤ l'.length) : (loadCells A m).run P w = .ok (l'.take m).toArray w := by
  have := run_loadCells_list (P := P) w A (l'.take m) fun j v hj => by
    rw [List.getElem?_take] at hj
    split at hj
    · exact h j v hj
    · cases hj
  rwa [List.length_take, Nat.min_eq_left hm] at this
/-- what is appended or copied -/
theorem src_ok {R : Type} {f : Map} {h : Hp} {w : World} {s : Nat} {v v' : Value} (hr : HRel f h w) (hv : VRel f v v') (k : Nat → List Value → R) (z : R) : srcK h s v k z = z ∨
    ∃ n new new', srcK h s v k z = k n new ∧ LRel f new new' ∧ new.length = n * s ∧ (∀ w : World, (Builtin.lenOf v').run P w = .ok n w) ∧ (∀ w2 : World, w2.heap = w.heap → ∀ m, m ≤ n → (Builtin.firstCells s m v').run P w2 = .ok (new'.take (m * s)).toArray w2) := by
  cases v with
  | slice p l c =>
    have e1 : srcK h s (.slice p l c) k z = bif Nat.beq l 0 then k 0 [] else Option.rec (motive := fun _ => R) z (fun a => oEl (cellsOf h a.block a.off (Nat.mul l s)) (k l) z) p := rfl
    rw [e1]
    cases hl : Nat.beq l 0 with
    | true =>
      have := Nat.eq_of_beq_eq_true hl; subst this
      refine .inr ⟨0, [], [], rfl, LRel.nil f, by simp, ?_⟩
      have hfin : ∃ q c', v' = .slice q 0 c' := by
        cases p with
        | none => cases hv; exact ⟨_, _, rfl⟩
        | some ad => obtain ⟨i, A, c', _, hx, _⟩ := hv.slice_core; exact ⟨_, _, hx⟩
      obtain ⟨q, c', rfl⟩ := hfin
      refine ⟨fun w => rfl, fun w2 _ m hm => ?_⟩
      have : m = 0 := by omega
      subst this
      cases q with
      | none => simp [Builtin.firstCells]
      | some A => simp [Builtin.firstCells, loadCells, loadCellsFrom]
    | false =>
      have hl0 : 0 < l := by
        rcases Nat.eq_zero_or_pos l with h | h
        · subst h; cases hl
        · exact h
      cases p with
      | none => exact .inl rfl
      | some ad =>
        show oEl (cellsOf h ad.block ad.off (Nat.mul l s)) (k l) z = z ∨ _
        cases hcs : cellsOf h ad.block ad.off (Nat.mul l s) with
        | none => exact .inl rfl
        | some cs =>
          obtain ⟨i, A, c', hi, rfl, hA⟩ := hv.slice_core
          obtain ⟨c2, n, e, cl, ro, hat, hm, hld⟩ := cellsOf_some hcs
          obtain ⟨x, hx, hor⟩ := hr.obj _ _ i hi hat
          obtain ⟨h1, l', h2, h3, h4⟩ := loadN_ok (P := P) hor hx hm hld
          refine .inr ⟨l, cs, l', (by show oEl (cellsOf h ad.block ad.off (Nat.mul l s)) (k l) z = _; rw [hcs]; rfl), h2, h1, fun w => rfl, fun w2 hw2 m hm2 => ?_⟩
          rw [hA hl0]
          have h5 : ∀ j v, l'[j]? = some v → w2.cell? ((⟨i.blk, i.o + ad.off, none⟩ : Addr).add j) = some v := fun j v hj => by
            have := h3 j v hj
            unfold World.cell? at this ⊢
            rw [hw2]; exact this
          exact loadCells_take h5 (by rw [← h2.1, h1]; exact Nat.mul_le_mul_right s hm2)
  | string str =>
    have := hv.str_inv; subst this
    have e1 : srcK h s (.string str) k z = bif Nat.beq s 1 then k (len (bl str)) (mapB (bl str)) else z := rfl
    rw [e1]
    cases hs : Nat.beq s 1 with
    | false => exact .inl rfl
    | true =>
      have := Nat.eq_of_beq_eq_true hs; subst this
      refine .inr ⟨str.size, mapB (bl str), mapB (bl str), by rw [len_eq, bl_size]; rfl, ?_, by rw [mapB_eq]; simp [bl_size], fun w => rfl, fun w2 _ m hm => ?_⟩
      · rw [mapB_eq]
        exact LRel.plain (by rw [List.all_map, List.all_eq_true]; intro b _; rfl)
      · rw [mapB_eq, Nat.mul_one, ← List.map_take]
        simp only [Builtin.firstCells, Sem.run_pure]
        congr 1
        apply Array.toList_inj.1
        have e2 : (str.extract 0 m).data.toList = (bl str).take m := by
          simp [bl, ByteArray.data_extract]
        simp only [Array.toList_map, e2]
        rfl
  | _ => exact .inl rfl
theorem VRel.slice_pos {f : Map} {v' : Value} {a : Addr} {l c : Nat} (h : VRel f (.slice (some a) l c) v') (hl : 0 < l) : ∃ i c', f a.block = some i ∧ v' = .slice (some ⟨i.blk, i.o + a.off, none⟩) l c' := by
  obtain ⟨i, A, c', hi, rfl, hA⟩ := h.slice_core
  exact ⟨i, c', hi, by rw [hA hl]⟩
theorem vOf_nat (k : IntKind) (n : Nat) (h : Hp) : vOf (kNat k n) h = .val (.int k (n : Int)) h := by rw [kNat_eq]; rfl
theorem run_copy {dT sT ty e : TypeId} {ti : TypeInfo} {base : Option Addr} {dl dc n : Nat} {src : Value} {cs : List Value} {w w' : World} (hu : P.underlying dT = some (.slice e)) (hi : P.info? e = some ti) (hlen : (Builtin.lenOf src).run P w = .ok n w)
    (hf : (Builtin.firstCells ti.size (Nat.min n dl) src).run P w = .ok cs.toArray w) (hst : match base with | some A => (storeCells A cs).run P w = .ok () w' | none => w' = w) :
    (Builtin.copy_ #[dT, sT] ty #[.slice base dl dc, src]).run P w = .ok (goInt (Nat.min n dl)) w' := by
  have hs : (sizeOf e).run P w = .ok ti.size w := by simp [sizeOf, typeInfo, hi]
  cases base with
  | none => subst hst; simp [Builtin.copy_, run_underlying hu, hlen, hs, hf]
  | some A => simp [Builtin.copy_, run_underlying hu, hlen, hs, hf, hst]
theorem gen_cpy {x y : Operand} {args : Array Operand} {ats : Array TypeId} {t u e : TypeId} {ti : TypeInfo} (ho : o.op = .call { callee := .builtin .copy, args := args, argTypes := ats }) (ha : args.toList = [x, y]) (hat : ats.toList = [t, u])
    (ht : P.underlying t = some (.slice e)) (hi : P.info? e = some ti) : GenOk P gs ds o (oCpy ti.size (cOpd gs ds x) (cOpd gs ds y)) := by
  intro call hcall lo tm f h a w hG hE hr
  have hx := rdO_rel hG hE x
  have hy := rdO_rel hG hE y
  have := toList2 ha; subst this
  have := toList2 hat; subst this
  obtain ⟨cs, hrun⟩ := run_builtin (P := P) a.eval w ho
  have e4 : (#[x, y] : Array Operand).map a.eval = #[a.eval x, a.eval y] := by simp
  rw [e4] at hrun
  have hfin : ∀ (f' : Map) (h' : Hp) (w' : World) (m : Nat), AStep h h' → CStep f h w f' h' w' → (Builtin.copy_ #[t, u] o.type #[a.eval x, a.eval y]).run P w = .ok (goInt m) w' → GenOk1 P f h w a o (.val (.int .i64 (m : Int)) h') := fun f' h' w' m h1 h2 h3 => by
    refine GenOk1.value h1 (v' := .int .i64 (m : Int)) ?_ h2 (.int _ _)
    rw [hrun]
    simp [builtin, h3, goInt]
  unfold oCpy
  rcases src_ok (P := P) hr hy (s := ti.size) (fun n new => vSl (rdO (cOpd gs ds x) lo tm)
    (fun b o l _ => forceNat (nmin n l) fun m => bif Nat.beq m 0 then vOf (kNat .i64 0) h else writeK h b o (takeL (Nat.mul m ti.size) new) (fun h => vOf (kNat .i64 m) h) .none) (fun l _ => bif Nat.beq l 0 then vOf (kNat .i64 0) h else .none) .none) .none with h1 | ⟨n, new, new', h1, h2, h3, h4, h5⟩
  · rw [h1]; trivial
  · rw [h1]
    rcases vSl_or (rdO (cOpd gs ds x) lo tm) (fun b o l _ => forceNat (nmin n l) fun m => bif Nat.beq m 0 then vOf (kNat .i64 0) h else writeK h b o (takeL (Nat.mul m ti.size) new) (fun h => vOf (kNat .i64 m) h) .none) (fun l _ => bif Nat.beq l 0 then vOf (kNat .i64 0) h else .none) Res.none with ⟨ad, l, c, e1, h6⟩ | ⟨l, c, e1, h6⟩ | h6
    · rw [h6, forceNat_eq, nmin_eq]; rw [e1] at hx
      have hmin : Nat.min n l = min n l := rfl
      have hf5 := h5 w rfl (Nat.min n l) (Nat.min_le_left _ _)
      cases hm : Nat.beq (min n l) 0 with
      | true =>
        have hm := Nat.eq_of_beq_eq_true hm
        show GenOk1 P f h w a o (vOf (kNat .i64 0) h)
        rw [vOf_nat]
        obtain ⟨i, A, c', hi', hxe, hA⟩ := hx.slice_core
        refine hfin f h w 0 (AStep.refl h) (CStep.refl hr) ?_
        rw [hxe]
        have := run_copy (P := P) (sT := u) (ty := o.type) (base := some A) (dl := l) (dc := c') (cs := new'.take (Nat.min n l * ti.size)) (w' := w) ht hi (h4 w) hf5 (by
          show (storeCells A (new'.take (Nat.min n l * ti.size))).run P w = _
          rw [hmin, hm]; simp [storeCells])
        rw [hmin, hm] at this
        exact this
      | false =>
        have hm0 : 0 < min n l := by
          rcases Nat.eq_zero_or_pos (min n l) with h | h
          · rw [h] at hm; cases hm
          · exact h
        obtain ⟨i, c', hi', hxe⟩ := hx.slice_pos (by omega)
        show GenOk1 P f h w a o (writeK h ad.block ad.off (takeL (Nat.mul (min n l) ti.size) new) (fun h => vOf (kNat .i64 (min n l)) h) .none)
        rw [takeL_eq]
        rcases write_ok (P := P) (o := ad.off) hr hi' (h2.take (Nat.mul (min n l) ti.size)) (fun h => vOf (kNat .i64 (min n l)) h) .none with h7 | ⟨h', w', h7, h8, h9, h10⟩
        · rw [h7]; trivial
        · rw [h7, vOf_nat]
          refine hfin f h' w' _ h8 h9 ?_
          rw [hxe]
          exact run_copy (P := P) (sT := u) (ty := o.type) (base := some ⟨i.blk, i.o + ad.off, none⟩) (dl := l) (dc := c') (cs := new'.take (Nat.min n l * ti.size)) (w' := w') ht hi (h4 w) hf5 h10
    · rw [h6]; rw [e1] at hx
      cases hl : Nat.beq l 0 with
      | false => trivial
      | true =>
        have := Nat.eq_of_beq_eq_true hl; subst this
        show GenOk1 P f h w a o (vOf (kNat .i64 0) h)
        rw [vOf_nat]
        have hxe : a.eval x = .slice none 0 c := by
          generalize a.eval x = ux at *
          cases hx; rfl
        refine hfin f h w 0 (AStep.refl h) (CStep.refl hr) ?_
        rw [hxe]
        have := run_copy (P := P) (sT := u) (ty := o.type) (base := none) (dl := 0) (dc := c) (cs := new'.take (Nat.min n 0 * ti.size)) (w' := w) ht hi (h4 w) (h5 w rfl _ (Nat.min_le_left _ _)) rfl
        rwa [show Nat.min n 0 = 0 from Nat.min_zero n] at this
    · rw [h6]; trivial

/- ===== append ===== -/
theorem CStep.drop {f : Map} {h : Hp} {w : World} {b : Nat} {i : Img} (hr : HRel f h w) (hb : f b = some i) (hl : (h.at b).isSome) : CStep f h w f (h.put b none) w := by
  have hat : ∀ c, (h.put b none).at c = if b = c then none else h.at c := fun c => Hp.at_put h b c none
  refine ⟨hr, Map.le_refl f, ⟨?_, ?_, hr.fresh, ?_, hr.base⟩, Nat.le_refl _, rfl, rfl, rfl, fun _ _ _ => rfl, fun c j e e' => by rw [e] at e'; cases e'⟩
  · intro c o' j hc ho'
    rw [hat] at ho'
    split at ho'
    · cases ho'
    · exact hr.obj c o' j hc ho'
  · intro c d j k hc hd hlc hld e
    rw [hat] at hlc hld
    refine hr.inj c d j k hc hd ?_ ?_ e
    · split at hlc
      · cases hlc
      · exact hlc
    · split at hld
      · cases hld
      · exact hld
  · intro c hc
    rw [hat]
    split
    · rfl
    · exact hr.dead c hc
theorem growBy_le (m : Nat) : ∀ (r c : Nat), c < m → Builtin.growBy m r c ≤ m + (m + 768) / 4 := by
  intro r
  induction r with
  | zero => intro c hc; simp [Builtin.growBy]; omega
  | succ r ih =>
    intro c hc
    simp only [Builtin.growBy]
    rw [if_neg (by omega)]
    by_cases h : c + (c + 768) / 4 < m
    · exact ih _ h
    · cases r with
      | zero => simp [Builtin.growBy]; omega
      | succ r => simp only [Builtin.growBy]; rw [if_pos (by omega)]; omega
theorem next_le {need sCap : Nat} (h : sCap < need) (hn : need ≤ 16777216) : Builtin.nextslicecap need sCap ≤ 33554432 := by
  unfold Builtin.nextslicecap
  split
  · omega
  · split
    · omega
    · have := growBy_le need 4 sCap h; omega
/-- what is known of the second operand: how many, and which cells -/
def Appd (P : Program) (e : TypeId) (ti : TypeInfo) (zeros : Bool) (n : Nat) (x : Value) (news : List Value) (w : World) : Prop :=
  (if zeros then ∃ (k : IntKind) (z : Value), x = .int k (n : Int) ∧ n ≤ 16777216 ∧ ti.bytes ≤ 8388608 ∧ ti.zero = some z ∧ z.cells.size = ti.size ∧ news = repL n z.cells.toList
    else (Builtin.lenOf x).run P w = .ok n w ∧ ∀ w2 : World, w2.heap = w.heap → (Builtin.firstCells ti.size n x).run P w2 = .ok news.toArray w2)
theorem zeroCells_eq (zero : Array Value) (n s : Nat) (hs : zero.size = s) : (Builtin.zeroCells zero n).toList = repL n zero.toList := by
  have := zeros_eq zero n s hs
  rw [← this]
  unfold Builtin.zeroCells
  rw [hs]
section
variable {t u ty e : TypeId} {ti : TypeInfo} {zeros : Bool} {base : Option Addr} {sLen sCap n : Nat} {x : Value} {news : List Value} {w : World} {z : Value}
theorem append_fit (ht : P.underlying t = some (.slice e)) (hu : if zeros then ∃ k, P.underlying u = some (.int k) else (∃ e', P.underlying u = some (.slice e')) ∨ P.underlying u = some .string) (hi : P.info? e = some ti) (ha : Appd P e ti zeros n x news w) (hfit : sLen + n ≤ sCap) {w' : World}
    (hst : match base with | some A => (storeCells (A.add (sLen * ti.size)) news).run P w = .ok () w' | none => w' = w) :
    (Builtin.append_ #[t, u] ty #[.slice base sLen sCap, x]).run P w = .ok (.slice base (sLen + n) sCap) w' := by
  cases zeros with
  | true =>
    obtain ⟨k, z, rfl, hn, hb, hz, hzs, rfl⟩ : ∃ (k : IntKind) (z : Value), x = .int k (n : Int) ∧ n ≤ 16777216 ∧ ti.bytes ≤ 8388608 ∧ ti.zero = some z ∧ z.cells.size = ti.size ∧ news = repL n z.cells.toList := ha
    obtain ⟨k', hu⟩ : ∃ k, P.underlying u = some (.int k) := hu
    have hw : IntKind.i64.wrap (n : Int) = n := by rw [IntKind.wrap_i64]; omega
    have hneg : ¬ ((n : Int) < 0) := by omega
    have hmul : n * ti.bytes ≤ 16777216 * 8388608 := Nat.mul_le_mul hn hb
    have hbig : ¬ (281474976710656 < (n : Int) * (ti.bytes : Int)) := by
      have : ((n * ti.bytes : Nat) : Int) ≤ ((16777216 * 8388608 : Nat) : Int) := Int.ofNat_le.mpr hmul
      rw [Int.natCast_mul] at this
      have h2 : ((16777216 * 8388608 : Nat) : Int) ≤ 281474976710656 := by decide
      omega
    have hzc := zeroCells_eq z.cells n ti.size hzs
    by_cases h0 : n * ti.size = 0
    · have hr0 : repL n z.cells.toList = [] := by
        apply List.eq_nil_of_length_eq_zero
        rw [repL_length]; simpa [hzs] using h0
      rw [hr0] at hst
      have hw' : w' = w := by
        cases base with
        | none => exact hst
        | some A => simp [storeCells] at hst; exact hst.symm
      subst hw'
      cases base <;> simp [Builtin.append_, run_underlying ht, run_underlying hu, sizeOf, typeInfo, hi, asInt, asIntOf, hw, hneg, hbig, hfit, h0, storeCells]
    · cases base with
      | none => subst hst; simp [Builtin.append_, run_underlying ht, run_underlying hu, sizeOf, typeInfo, zeroValue, hz, hi, asInt, asIntOf, hw, hneg, hbig, hfit, h0]
      | some A => 
        have hst : (storeCells (A.add (sLen * ti.size)) (repL n z.cells.toList)).run P w = .ok () w' := hst
        simp [Builtin.append_, run_underlying ht, run_underlying hu, sizeOf, typeInfo, zeroValue, hz, hi, asInt, asIntOf, hw, hneg, hbig, hfit, h0, hzc, hst]
  | false =>
    obtain ⟨h1, h2⟩ : (Builtin.lenOf x).run P w = .ok n w ∧ ∀ w2 : World, w2.heap = w.heap → (Builtin.firstCells ti.size n x).run P w2 = .ok news.toArray w2 := ha
    have h2' := h2 w rfl
    rcases hu with ⟨e', hu⟩ | hu
    · cases base with
      | none => subst hst; simp [Builtin.append_, run_underlying ht, run_underlying hu, sizeOf, typeInfo, hi, h1, hfit, h2']
      | some A =>
        have hst : (storeCells (A.add (sLen * ti.size)) news).run P w = .ok () w' := hst
        simp [Builtin.append_, run_underlying ht, run_underlying hu, sizeOf, typeInfo, hi, h1, hfit, h2', hst]
    · cases base with
      | none => subst hst; simp [Builtin.append_, run_underlying ht, run_underlying hu, sizeOf, typeInfo, hi, h1, hfit, h2']
      | some A =>
        have hst : (storeCells (A.add (sLen * ti.size)) news).run P w = .ok () w' := hst
        simp [Builtin.append_, run_underlying ht, run_underlying hu, sizeOf, typeInfo, hi, h1, hfit, h2', hst]
theorem append_grow (ht : P.underlying t = some (.slice e)) (hu : if zeros then ∃ k, P.underlying u = some (.int k) else (∃ e', P.underlying u = some (.slice e')) ∨ P.underlying u = some .string) (hi : P.info? e = some ti) (hz : ti.zero = some z) (ha : Appd P e ti zeros n x news w) (hg : sCap < sLen + n)
    (hn : sLen + n ≤ 16777216) (hb : ti.bytes ≤ 8388608) {olds : List Value} (hold : (Builtin.firstCells ti.size sLen (.slice base sLen sCap)).run P w.drew = .ok olds.toArray w.drew) :
    ∃ arr : Array Value, arr.toList = olds ++ news ++ (Builtin.zeroCells z.cells (grownCap w (sLen + n) sCap e - (sLen + n))).toList ∧
    (Builtin.append_ #[t, u] ty #[.slice base sLen sCap, x]).run P w = .ok (.slice (some ⟨w.heap.size, 0, none⟩) (sLen + n) (grownCap w (sLen + n) sCap e)) (w.drew.alloc (.cells arr e)) := by
  have hnf : ¬ (sLen + n ≤ sCap) := by omega
  have h63 : ¬ (9223372036854775807 < ((sLen : Int) + (n : Int))) := by omega
  have h48 : ¬ (281474976710656 < Builtin.nextslicecap (sLen + n) sCap * ti.bytes) := by
    have h1 := next_le hg hn
    have := Nat.mul_le_mul h1 hb
    omega
  cases zeros with
  | true =>
    obtain ⟨k, z2, rfl, hn2, _, hz2, hzs, rfl⟩ : ∃ (k : IntKind) (z : Value), x = .int k (n : Int) ∧ n ≤ 16777216 ∧ ti.bytes ≤ 8388608 ∧ ti.zero = some z ∧ z.cells.size = ti.size ∧ news = repL n z.cells.toList := ha
    rw [hz] at hz2; cases hz2
    have hneg : ¬ ((n : Int) < 0) := by omega
    obtain ⟨k', hu⟩ : ∃ k, P.underlying u = some (.int k) := hu
    have hw : IntKind.i64.wrap (n : Int) = n := by rw [IntKind.wrap_i64]; omega
    have hmul : n * ti.bytes ≤ 16777216 * 8388608 := Nat.mul_le_mul hn2 hb
    have hbig : ¬ (281474976710656 < (n : Int) * (ti.bytes : Int)) := by
      have : ((n * ti.bytes : Nat) : Int) ≤ ((16777216 * 8388608 : Nat) : Int) := Int.ofNat_le.mpr hmul
      rw [Int.natCast_mul] at this
      have h2 : ((16777216 * 8388608 : Nat) : Int) ≤ 281474976710656 := by decide
      omega
    have hzc := zeroCells_eq z.cells n ti.size hzs
    by_cases h0 : n * ti.size = 0
    · have hr0 : repL n z.cells.toList = [] := by
        apply List.eq_nil_of_length_eq_zero
        rw [repL_length]; simpa [hzs] using h0
      refine ⟨olds.toArray ++ #[] ++ Builtin.zeroCells z.cells (grownCap w (sLen + n) sCap e - (sLen + n)), by simp [hr0], ?_⟩
      simp [Builtin.append_, run_underlying ht, run_underlying hu, sizeOf, typeInfo, zeroValue, hz, hi, asInt, asIntOf, hw, hneg, hbig, hnf, h63, h48, h0, Question.forced, hold, newRow, grownCap]
    · refine ⟨olds.toArray ++ Builtin.zeroCells z.cells n ++ Builtin.zeroCells z.cells (grownCap w (sLen + n) sCap e - (sLen + n)), by simp [hzc], ?_⟩
      simp [Builtin.append_, run_underlying ht, run_underlying hu, sizeOf, typeInfo, zeroValue, hz, hi, asInt, asIntOf, hw, hneg, hbig, hnf, h63, h48, h0, Question.forced, hold, newRow, grownCap]
  | false =>
    obtain ⟨h1, h2⟩ : (Builtin.lenOf x).run P w = .ok n w ∧ ∀ w2 : World, w2.heap = w.heap → (Builtin.firstCells ti.size n x).run P w2 = .ok news.toArray w2 := ha
    have h2' := h2 w.drew rfl
    refine ⟨olds.toArray ++ news.toArray ++ Builtin.zeroCells z.cells (grownCap w (sLen + n) sCap e - (sLen + n)), by simp, ?_⟩
    rcases hu with ⟨e', hu⟩ | hu
    · simp [Builtin.append_, run_underlying ht, run_underlying hu, sizeOf, typeInfo, zeroValue, hz, hi, h1, hnf, h63, h48, Question.forced, hold, h2', newRow, grownCap]
      congr 2
      apply Array.ext'
      simp [List.append_assoc]
    · simp [Builtin.append_, run_underlying ht, run_underlying hu, sizeOf, typeInfo, zeroValue, hz, hi, h1, hnf, h63, h48, Question.forced, hold, h2', newRow, grownCap]
      congr 2
      apply Array.ext'
      simp [List.append_assoc]
end
end
end Abs
end Go
/- A certified evaluator for closed calls, part P: append, whole. -/
namespace Go
namespace Abs
section
variable {P : Program} {gs : List Nat} {ds : List (Option Tmp)} {o : Oper}

/-- a new row for what was and what is appended -/
theorem opened_ok {f : Map} {h : Hp} {w w' : World} {e : TypeId} {s need cap : Nat} {l l' rest : List Value} {arr : Array Value} (hr : HRel f h w) (hl : LRel f l l') (hlen : l.length = need * s) (hn : need ≤ 16777216) (hcap : need ≤ cap)
    (harr : arr.toList = l' ++ rest) (hrest : rest.length = (cap - need) * s) (hheap : w'.heap = w.heap.push (.cells arr e)) (ht : w'.tape = w.tape) (hos : w'.os = w.os) (hout : w'.output = w.output) :
    ∃ h' f' c, opened e s l need h = .val (slV h.next 0 need c) h' ∧ AStep h h' ∧ CStep f h w f' h' w' ∧ VRel f' (slV h.next 0 need c) (.slice (some ⟨w.heap.size, 0, none⟩) need cap) := by
  have hsz : arr.size = cap * s := by
    have := congrArg List.length harr
    simp [hrest, ← hl.1, hlen] at this
    rw [this, ← Nat.add_mul]; congr 1; omega
  have hle : l.length ≤ arr.size := by rw [hlen, hsz]; exact Nat.mul_le_mul_right s hcap
  have hc := CStep.newRow (f := f) (h := h) (w := w) (w' := w') (l := l) (arr := arr) (e := e) (n := l.length) (cl := false) (s := s) (fz := (0, 0)) hr (fun k v hk hkn => by
    obtain ⟨v', h1, h2⟩ := hl.2 k v hk
    refine ⟨v', ?_, h2⟩
    have h3 : arr.toList[k]? = some v' := by rw [harr, List.getElem?_append_left (by rw [← hl.1]; exact hkn)]; exact h1
    simpa using h3) hle (fun h => by cases h) (none_fz _) hheap ht hos hout
  refine ⟨_, _, openC s need, ?_, AStep.new _ hr.base, hc, ?_⟩
  · unfold opened
    rw [newRowK_eq, forceNat_eq, len_eq]
  · have hO := open_big
    refine .sliceO h.next 0 need _ need _ 0 cap (Map.ext_self _ _ _) ?_ (by omega) (Nat.le_refl _) hcap (.inl rfl) ?_
    · show Nat.add (Nat.mul OPEN (Nat.succ s)) need = OPEN * (s + 1) + need
      rfl
    · show 0 + cap * s ≤ arr.size
      omega
theorem VRel.sl_need {f : Map} {p : Addr} {l c need : Nat} {v' : Value} (h : VRel f (.slice (some p) l c) v') (hn : need ≤ sure c) : ∃ A c', v' = .slice (some A) l c' ∧ need ≤ c' ∧ VRel f (.slice (some p) need c) (.slice (some A) need c') := by
  cases h with
  | slice b o _ _ i h hc hl =>
    rw [(sure_closed hc).2] at hn
    exact ⟨_, _, rfl, hn, .slice b o need c i h hc hn⟩
  | sliceO b o _ _ lb i o' c' h hc hlb hl hb ho hnn =>
    rw [(sure_open hc hlb).2.1] at hn
    exact ⟨_, _, rfl, by omega, .sliceO b o need c lb i o' c' h hc hlb hn hb ho hnn⟩
theorem gen_appS {f : Map} {h : Hp} {w : World} {a : Act} {t u ty e : TypeId} {ti : TypeInfo} {z : Value} {zeros : Bool} {n l c : Nat} {new new' : List Value} {p : Addr} {s' x' : Value} (hr : HRel f h w)
    (ht : P.underlying t = some (.slice e)) (hu : if zeros then ∃ k, P.underlying u = some (.int k) else (∃ e', P.underlying u = some (.slice e')) ∨ P.underlying u = some .string) (hi : P.info? e = some ti) (hz : ti.zero = some z) (hzs : z.cells.size = ti.size)
    (hb : ti.bytes ≤ 8388608) (ha : Appd P e ti zeros n x' new' w) (hnew : LRel f new new') (hnl : new.length = n * ti.size) (hs : VRel f (.slice (some p) l c) s')
    (hrun : (execOp a.eval o).run P w = ((Builtin.append_ #[t, u] ty #[s', x']).run P w).andThen fun v w => .ok (.value v) w) : GenOk1 P f h w a o (appS e ti.size h n new p.block p.off l c) := by
  have hsp : p.spot = none := by cases hs <;> rfl
  have hpe : (⟨p.block, p.off, none⟩ : Addr) = p := by cases p; cases hsp; rfl
  unfold appS
  rw [forceNat_eq]
  show GenOk1 P f h w a o (bif Nat.ble (l + n) (sure c) then _ else _)
  cases hfit : Nat.ble (l + n) (sure c) with
  | true =>
    have hfit := Nat.ble_eq.mp hfit
    obtain ⟨A, c', rfl, hc', hv'⟩ := hs.sl_need hfit
    cases hn0 : Nat.beq n 0 with
    | true =>
      have := Nat.eq_of_beq_eq_true hn0; subst this
      show GenOk1 P f h w a o (.val (slV p.block p.off l c) h)
      have hnil : new' = [] := by
        apply List.eq_nil_of_length_eq_zero
        rw [← hnew.1, hnl]; simp
      subst hnil
      have hap := append_fit (P := P) (t := t) (u := u) (ty := ty) (base := some A) (w' := w) ht hu hi ha hc' (by simp [storeCells])
      refine GenOk1.value (AStep.refl h) (v' := .slice (some A) (l + 0) c') ?_ (CStep.refl hr) ?_
      · rw [hrun, hap]; rfl
      · unfold slV; rw [hpe]; exact hv'
    | false =>
      have hnpos : 0 < n := by
        rcases Nat.eq_zero_or_pos n with h | h
        · subst h; cases hn0
        · exact h
      show GenOk1 P f h w a o (writeK h p.block (Nat.add p.off (Nat.mul l ti.size)) new (fun h => .val (slV p.block p.off (l + n) c) h) .none)
      obtain ⟨i, c2, hpi, hA⟩ := hv'.slice_pos (by omega)
      cases hA
      rcases write_ok (P := P) (o := p.off + l * ti.size) hr hpi hnew (fun h => Res.val (slV p.block p.off (l + n) c) h) Res.none with h7 | ⟨h', w', h7, h8, h9, h10⟩
      · exact (by rw [show Nat.add p.off (Nat.mul l ti.size) = p.off + l * ti.size from rfl, h7]; trivial)
      · rw [show Nat.add p.off (Nat.mul l ti.size) = p.off + l * ti.size from rfl, h7]
        have hap := append_fit (P := P) (t := t) (u := u) (ty := ty) (base := some ⟨i.blk, i.o + p.off, none⟩) (w' := w') ht hu hi ha hc' (by
          show (storeCells ((⟨i.blk, i.o + p.off, none⟩ : Addr).add (l * ti.size)) new').run P w = _
          rw [addr_add, Nat.add_assoc]; exact h10)
        refine GenOk1.value h8 (v' := .slice (some ⟨i.blk, i.o + p.off, none⟩) (l + n) c') ?_ h9 ?_
        · rw [hrun, hap]; rfl
        · unfold slV; rw [hpe]; exact hv'
  | false =>
    have hfit' : sure c < l + n := by
      rcases Nat.lt_or_ge (sure c) (l + n) with h | h
      · exact h
      · rw [Nat.ble_eq.mpr h] at hfit; cases hfit
    show GenOk1 P f h w a o (bif Nat.ble (l + n) 16777216 then _ else .none)
    cases hbig : Nat.ble (l + n) 16777216 with
    | false => trivial
    | true =>
    have hbig := Nat.ble_eq.mp hbig
    have hrest : ∀ cap, (Builtin.zeroCells z.cells (cap - (l + n))).toList.length = (cap - (l + n)) * ti.size := fun cap => by
      rw [zeroCells_eq _ _ _ hzs, repL_length]; simp [hzs]
    -- a new row, whatever the old cells are
    have hgrow : ∀ (h1 : Hp) (A : Addr) (c' : Nat) (old old' : List Value), s' = .slice (some A) l c' → c' < l + n → LRel f old old' → old.length = l * ti.size → (Builtin.firstCells ti.size l (.slice (some A) l c')).run P w.drew = .ok old'.toArray w.drew →
        AStep h h1 → CStep f h w f h1 w → h1.next = h.next → GenOk1 P f h w a o (opened e ti.size (old ++ new) (l + n) h1) := fun h1 A c' old old' hs' hlt hold hol hload hst1 hcs1 hnx => by
      subst hs'
      obtain ⟨arr, harr, hap⟩ := append_grow (P := P) (t := t) (u := u) (ty := ty) (base := some A) (sLen := l) (sCap := c') ht hu hi hz ha hlt hbig hb hload
      have hge := grown_ge w (l + n) c' e
      generalize grownCap w (l + n) c' e = cap at *
      obtain ⟨h', f', c2, g1, g2, g3, g4⟩ := opened_ok (f := f) (h := h1) (w := w) (w' := w.drew.alloc (.cells arr e)) (e := e) (s := ti.size) hcs1.rel (hold.append hnew) (by rw [List.length_append, hol, hnl, Nat.add_mul]) hbig hge harr (hrest cap) rfl rfl rfl rfl
      rw [g1]
      refine GenOk1.value (hst1.trans g2) (v' := .slice (some ⟨w.heap.size, 0, none⟩) (l + n) cap) ?_ (hcs1.trans hst1 g2 g3) g4
      rw [hrun, hap]; rfl
    cases hl0 : Nat.beq l 0 with
    | true =>
      have := Nat.eq_of_beq_eq_true hl0; subst this
      show GenOk1 P f h w a o (bif isOpen c then .none else opened e ti.size new (0 + n) h)
      cases hop : isOpen c with
      | true => trivial
      | false =>
        show GenOk1 P f h w a o (opened e ti.size new (0 + n) h)
        have hcl : ∃ A, s' = .slice (some A) 0 c ∧ c < 0 + n := by
          obtain ⟨i, hpi, ⟨hc, _, hxe⟩ | ⟨lb, _, _, hc, hlb, _⟩⟩ := hs.slice_inv
          · exact ⟨_, hxe, by rw [(sure_closed hc).2] at hfit'; exact hfit'⟩
          · rw [(sure_open hc hlb).1] at hop; cases hop
        obtain ⟨A, hs', hlt⟩ := hcl
        have := hgrow h A c [] [] hs' hlt (LRel.nil f) (by simp) (by simp [Builtin.firstCells, loadCells, loadCellsFrom]) (AStep.refl h) (CStep.refl hr) rfl
        simpa using this
    | false =>
      have hlpos : 0 < l := by
        rcases Nat.eq_zero_or_pos l with h | h
        · subst h; cases hl0
        · exact h
      show GenOk1 P f h w a o (oEl (cellsOf h p.block p.off (Nat.mul l ti.size)) _ .none)
      cases hcs : cellsOf h p.block p.off (Nat.mul l ti.size) with
      | none => trivial
      | some old =>
        obtain ⟨i, c', hpi, hs'⟩ := hs.slice_pos hlpos
        obtain ⟨cc, m, e', cl, ro, hat, hm, hld⟩ := cellsOf_some hcs
        obtain ⟨ox, hox, hor⟩ := hr.obj _ _ i hpi hat
        obtain ⟨h1, old', h2, h3, h4⟩ := loadN_ok (P := P) hor hox hm hld
        have hold : (Builtin.firstCells ti.size l (.slice (some ⟨i.blk, i.o + p.off, none⟩) l c')).run P w.drew = .ok old'.toArray w.drew := by
          have := loadCells_take (P := P) (w := w.drew) (A := ⟨i.blk, i.o + p.off, none⟩) (l' := old') (fun j v hj => h3 j v hj) (m := l * ti.size) (by rw [← h2.1, h1]; exact Nat.le_refl _)
          rw [List.take_of_length_le (by rw [← h2.1, h1]; exact Nat.le_refl _)] at this
          exact this
        have hlive : (h.at p.block).isSome := by rw [hat]; rfl
        show GenOk1 P f h w a o (bif isOpen c then rowK h p.block (fun _ _ e' _ ro => bif ro then .none else bif Nat.beq e e' && Nat.beq (esz c) (Nat.succ ti.size) && allOne new then h.putK p.block none fun h => opened e ti.size (old ++ new) (l + n) h else .none) .none else opened e ti.size (old ++ new) (l + n) h)
        cases hop : isOpen c with
        | false =>
          have hlt : c' < l + n := by
            obtain ⟨i2, hpi2, ⟨hc, _, hxe⟩ | ⟨lb, _, _, hc, hlb, _⟩⟩ := hs.slice_inv
            · rw [hpi] at hpi2; cases hpi2; rw [hs'] at hxe; cases hxe; rw [(sure_closed hc).2] at hfit'; exact hfit'
            · rw [(sure_open hc hlb).1] at hop; cases hop
          exact hgrow h _ c' old old' hs' hlt h2 h1 hold (AStep.refl h) (CStep.refl hr) rfl
        | true =>
          show GenOk1 P f h w a o (rowK h p.block (fun _ _ e' _ ro => bif ro then .none else bif Nat.beq e e' && Nat.beq (esz c) (Nat.succ ti.size) && allOne new then h.putK p.block none fun h => opened e ti.size (old ++ new) (l + n) h else .none) .none)
          have hrk : rowK h p.block (fun _ _ e' _ ro => bif ro then Res.none else bif Nat.beq e e' && Nat.beq (esz c) (Nat.succ ti.size) && allOne new then h.putK p.block none fun h => opened e ti.size (old ++ new) (l + n) h else .none) .none =
              bif ro then Res.none else bif Nat.beq e e' && Nat.beq (esz c) (Nat.succ ti.size) && allOne new then h.putK p.block none fun h => opened e ti.size (old ++ new) (l + n) h else .none := by
            unfold rowK
            unfold Hp.at at hat
            rw [hat]; rfl
          rw [hrk]
          cases ro with
          | true => trivial
          | false =>
            show GenOk1 P f h w a o (bif Nat.beq e e' && Nat.beq (esz c) (Nat.succ ti.size) && allOne new then _ else .none)
            cases hcond : (Nat.beq e e' && Nat.beq (esz c) (Nat.succ ti.size) && allOne new) with
            | false => trivial
            | true =>
              rw [Bool.and_eq_true, Bool.and_eq_true] at hcond
              obtain ⟨⟨c1, c2⟩, c3⟩ := hcond
              have c1 := Nat.eq_of_beq_eq_true c1
              have c2 := Nat.eq_of_beq_eq_true c2
              subst c1
              show GenOk1 P f h w a o (h.putK p.block none fun h => opened e ti.size (old ++ new) (l + n) h)
              rw [Hp.putK_eq]
              by_cases hcc : c' < l + n
              · exact hgrow (h.put p.block none) _ c' old old' hs' hcc h2 h1 hold (AStep.put none hlive) (CStep.drop hr hpi hlive) rfl
              · have hcc : l + n ≤ c' := by omega
                have hopen : i.s = ti.size ∧ i.o + p.off + c' * ti.size ≤ i.n := by
                  obtain ⟨i2, hpi2, ⟨hc, _, hxe⟩ | ⟨lb, o', c2', hc, hlb, hll, hlc, hoo, hnn, hxe⟩⟩ := hs.slice_inv
                  · rw [(sure_closed hc).1] at hop; cases hop
                  · rw [hpi] at hpi2; cases hpi2
                    rw [hs'] at hxe
                    cases hxe
                    have he := (sure_open hc hlb).2.2
                    have : i.s = ti.size := by omega
                    rw [this] at hnn
                    exact ⟨this, hnn⟩
                obtain ⟨his, hfitn⟩ := hopen
                have hmul : (l + n) * ti.size ≤ c' * ti.size := Nat.mul_le_mul_right _ hcc
                rw [Nat.add_mul] at hmul
                have hnl' : new'.length = n * ti.size := by rw [← hnew.1]; exact hnl
                have hol' : old'.length = l * ti.size := by rw [← h2.1]; exact h1
                cases hor with
                | row _ _ _ _ _ arr e2 fz he hsz hn hcl hro hc =>
                obtain ⟨w', arr', g1, g2, g3, g4, g5, g6, g7, g8, g9⟩ := storeCells_run P i.blk e2 fz new' (i.o + p.off + l * ti.size) 0 arr w hox (by rw [hsz, hnl']; omega) (hnew.one c3) (by rw [hsz]; exact hro rfl)
                have hap := append_fit (P := P) (t := t) (u := u) (ty := ty) (base := some ⟨i.blk, i.o + p.off, none⟩) (sLen := l) (sCap := c') (w' := w') ht hu hi ha hcc (by
                  show (storeCells ((⟨i.blk, i.o + p.off, none⟩ : Addr).add (l * ti.size)) new').run P w = _
                  rw [addr_add]; exact g1)
                have hnone : f h.next = none := Map.none_of_ge hr (Nat.le_refl _)
                have hlen : (old ++ new).length = l * ti.size + n * ti.size := by rw [List.length_append, h1, hnl]; rfl
                have hmm : p.off + l * ti.size ≤ m := hm
                have hcons := CStep.consume (w' := w') (j := ⟨i.blk, i.o + p.off, i.n, ti.size⟩) (x := .cells arr' e2 fz) (o := .row (storeL (old ++ new) 0 .nil fun t => t) (old ++ new).length e false false) hr hpi hlive rfl g2
                  (.row _ _ _ _ _ arr' e2 fz he (by rw [g3]; exact hsz) (by show i.o + p.off + _ ≤ i.n; rw [hlen]; omega) (fun h => by cases h) (fun _ => hro rfl) fun k v hk hv => by
                    rw [storeL_get] at hv
                    rw [if_pos (by omega)] at hv
                    rw [Nat.sub_zero] at hv
                    show ∃ v', arr'[i.o + p.off + k]? = some v' ∧ _
                    rw [g4]
                    by_cases hkl : k < l * ti.size
                    · rw [if_neg (by omega)]
                      rw [List.getElem?_append_left (by rw [h1]; exact hkl)] at hv
                      obtain ⟨v', q1, q2⟩ := h2.2 k v hv
                      refine ⟨v', ?_, q2.mono (Map.le_ext _ hnone)⟩
                      have := h3 k v' q1
                      rw [addr_add] at this
                      simpa [World.cell?, hox] using this
                    · rw [if_pos (by rw [hnl']; omega)]
                      rw [List.getElem?_append_right (by rw [h1]; exact Nat.le_of_not_lt hkl), h1] at hv
                      obtain ⟨v', q1, q2⟩ := hnew.2 _ v hv
                      refine ⟨v', ?_, q2.mono (Map.le_ext _ hnone)⟩
                      rw [← q1]; congr 1
                      have : Nat.mul l ti.size = l * ti.size := rfl
                      omega) g5 g6 g7 g8 g9
                have hope : opened e ti.size (old ++ new) (l + n) (h.put p.block none) = .val (slV h.next 0 (l + n) (openC ti.size (l + n))) ((h.put p.block none).new (.row (storeL (old ++ new) 0 .nil fun t => t) (old ++ new).length e false false)) := by
                  unfold opened
                  rw [newRowK_eq, forceNat_eq, len_eq]; rfl
                rw [hope]
                refine GenOk1.value (AStep.consume _ hlive hr.base) (v' := .slice (some ⟨i.blk, i.o + p.off, none⟩) (l + n) c') ?_ hcons ?_
                · rw [hrun, hs', hap]; rfl
                · have hO := open_big
                  refine .sliceO h.next 0 (l + n) _ (l + n) ⟨i.blk, i.o + p.off, i.n, ti.size⟩ (i.o + p.off) c' (Map.ext_self _ _ _) ?_ (by omega) (Nat.le_refl _) hcc (.inl rfl) ?_
                  · show Nat.add (Nat.mul OPEN (Nat.succ ti.size)) (l + n) = OPEN * (ti.size + 1) + (l + n)
                    rfl
                  · exact hfitn
theorem gen_appN {f : Map} {h : Hp} {w : World} {a : Act} {t u ty e : TypeId} {ti : TypeInfo} {z : Value} {zeros : Bool} {n l c : Nat} {new new' : List Value} {x' : Value} (hr : HRel f h w)
    (ht : P.underlying t = some (.slice e)) (hu : if zeros then ∃ k, P.underlying u = some (.int k) else (∃ e', P.underlying u = some (.slice e')) ∨ P.underlying u = some .string) (hi : P.info? e = some ti) (hz : ti.zero = some z) (hzs : z.cells.size = ti.size)
    (hb : ti.bytes ≤ 8388608) (ha : Appd P e ti zeros n x' new' w) (hnew : LRel f new new') (hnl : new.length = n * ti.size)
    (hrun : (execOp a.eval o).run P w = ((Builtin.append_ #[t, u] ty #[.slice none l c, x']).run P w).andThen fun v w => .ok (.value v) w) : GenOk1 P f h w a o (appN e ti.size h n new l c) := by
  unfold appN
  cases hl : Nat.beq l 0 with
  | false => trivial
  | true =>
  cases hc : Nat.beq c 0 with
  | false => trivial
  | true =>
  have := Nat.eq_of_beq_eq_true hl; subst this
  have := Nat.eq_of_beq_eq_true hc; subst this
  cases hn : Nat.beq n 0 with
  | true =>
    have := Nat.eq_of_beq_eq_true hn; subst this
    show GenOk1 P f h w a o (.val (.slice none 0 0) h)
    have hap := append_fit (P := P) (t := t) (u := u) (ty := ty) (base := none) (sLen := 0) (sCap := 0) (w' := w) ht hu hi ha (Nat.le_refl _) rfl
    refine GenOk1.value (AStep.refl h) (v' := .slice none (0 + 0) 0) ?_ (CStep.refl hr) (.nilSlice 0 0)
    rw [hrun, hap]; rfl
  | false =>
    have hnpos : 0 < n := by
      rcases Nat.eq_zero_or_pos n with h | h
      · subst h; cases hn
      · exact h
    show GenOk1 P f h w a o (bif Nat.ble n 16777216 then opened e ti.size new n h else .none)
    cases hbig : Nat.ble n 16777216 with
    | false => trivial
    | true =>
      have hbig := Nat.ble_eq.mp hbig
      obtain ⟨arr, harr, hap⟩ := append_grow (P := P) (t := t) (u := u) (ty := ty) (base := none) (sLen := 0) (sCap := 0) (olds := []) ht hu hi hz ha (by omega) (by omega) hb (by simp [Builtin.firstCells])
      have hge := grown_ge w (0 + n) 0 e
      generalize grownCap w (0 + n) 0 e = cap at *
      rw [Nat.zero_add] at *
      obtain ⟨h', f', c2, g1, g2, g3, g4⟩ := opened_ok (f := f) (h := h) (w := w) (w' := w.drew.alloc (.cells arr e)) (e := e) (s := ti.size) (cap := cap) (need := n) hr hnew hnl hbig hge harr (by rw [zeroCells_eq _ _ _ hzs, repL_length]; simp [hzs]) rfl rfl rfl rfl
      show GenOk1 P f h w a o (opened e ti.size new n h)
      rw [g1]
      refine GenOk1.value g2 (v' := .slice (some ⟨w.heap.size, 0, none⟩) n cap) ?_ g3 g4
      rw [hrun, hap]; rfl
theorem gen_appAny {f : Map} {h : Hp} {w : World} {a : Act} {t u ty e : TypeId} {ti : TypeInfo} {z : Value} {zeros : Bool} {n : Nat} {new new' : List Value} {x x' s' : Value} (hr : HRel f h w)
    (ht : P.underlying t = some (.slice e)) (hu : if zeros then ∃ k, P.underlying u = some (.int k) else (∃ e', P.underlying u = some (.slice e')) ∨ P.underlying u = some .string) (hi : P.info? e = some ti) (hz : ti.zero = some z) (hzs : z.cells.size = ti.size)
    (hb : ti.bytes ≤ 8388608) (ha : Appd P e ti zeros n x' new' w) (hnew : LRel f new new') (hnl : new.length = n * ti.size) (hs : VRel f x s')
    (hrun : (execOp a.eval o).run P w = ((Builtin.append_ #[t, u] ty #[s', x']).run P w).andThen fun v w => .ok (.value v) w) : GenOk1 P f h w a o (vSl x (appS e ti.size h n new) (appN e ti.size h n new) .none) := by
  rcases vSl_or x (appS e ti.size h n new) (appN e ti.size h n new) .none with ⟨p, l, c, rfl, h1⟩ | ⟨l, c, rfl, h1⟩ | h1
  · rw [h1]; exact gen_appS hr ht hu hi hz hzs hb ha hnew hnl hs hrun
  · rw [h1]
    have : s' = .slice none l c := by cases hs; rfl
    subst this
    exact gen_appN hr ht hu hi hz hzs hb ha hnew hnl hrun
  · rw [h1]; trivial
theorem run_app {x y : Operand} {args : Array Operand} {ats : Array TypeId} {t u : TypeId} (a : Act) (w : World) (ho : o.op = .call { callee := .builtin .append, args := args, argTypes := ats }) (ha : args.toList = [x, y]) (hat : ats.toList = [t, u]) :
    (execOp a.eval o).run P w = ((Builtin.append_ #[t, u] o.type #[a.eval x, a.eval y]).run P w).andThen fun v w => .ok (.value v) w := by
  have := toList2 ha; subst this
  have := toList2 hat; subst this
  obtain ⟨cs, hrun⟩ := run_builtin (P := P) a.eval w ho
  rw [hrun, show (#[x, y] : Array Operand).map a.eval = #[a.eval x, a.eval y] by simp]
  simp [builtin]
theorem gen_app {x y : Operand} {args : Array Operand} {ats : Array TypeId} {t u e : TypeId} {ti : TypeInfo} {z : List Value} (ho : o.op = .call { callee := .builtin .append, args := args, argTypes := ats }) (ha : args.toList = [x, y]) (hat : ats.toList = [t, u])
    (ht : P.underlying t = some (.slice e)) (hu : (∃ e', P.underlying u = some (.slice e')) ∨ P.underlying u = some .string) (hi : P.info? e = some ti) (hz : zeroL P e = some z) (hb : ti.bytes ≤ 8388608) : GenOk P gs ds o (oApp e ti.size (cOpd gs ds x) (cOpd gs ds y)) := by
  intro call hcall lo tm f h a w hG hE hr
  have hx := rdO_rel hG hE x
  have hy := rdO_rel hG hE y
  obtain ⟨ti', v, hi', hiz, rfl, hzz, hzl, hsz⟩ := zeroL_some hz
  rw [hi] at hi'; cases hi'
  unfold oApp
  rcases src_ok (P := P) hr hy (s := ti.size) (fun n new => vSl (rdO (cOpd gs ds x) lo tm) (appS e ti.size h n new) (appN e ti.size h n new) .none) .none with h1 | ⟨n, new, new', h1, h2, h3, h4, h5⟩
  · rw [h1]; trivial
  · rw [h1]
    refine gen_appAny (zeros := false) (new' := new') hr ht hu hi hiz (by rw [← hzl]; simp) hb ⟨h4 w, fun w2 hw2 => ?_⟩ h2 h3 hx (run_app a w ho ha hat)
    have := h5 w2 hw2 n (Nat.le_refl _)
    rwa [List.take_of_length_le (by rw [← h2.1, h3]; exact Nat.le_refl _)] at this
theorem gen_appZ {x y : Operand} {args : Array Operand} {ats : Array TypeId} {t u e : TypeId} {ti : TypeInfo} {k : IntKind} {z : List Value} (ho : o.op = .call { callee := .builtin .append, args := args, argTypes := ats }) (ha : args.toList = [x, y]) (hat : ats.toList = [t, u])
    (ht : P.underlying t = some (.slice e)) (hu : P.underlying u = some (.int k)) (hi : P.info? e = some ti) (hz : zeroL P e = some z) (hb : ti.bytes ≤ 8388608) : GenOk P gs ds o (oAppZ e ti.size z (cOpd gs ds x) (cOpd gs ds y)) := by
  intro call hcall lo tm f h a w hG hE hr
  have hx := rdO_rel hG hE x
  have hy := rdO_rel hG hE y
  obtain ⟨ti', v, hi', hiz, rfl, hzz, hzl, hsz⟩ := zeroL_some hz
  rw [hi] at hi'; cases hi'
  have hvs : v.cells.size = ti.size := by rw [← hzl]; simp
  unfold oAppZ
  rcases vNat_or (rdO (cOpd gs ds y) lo tm) (fun n => bif Nat.ble n 16777216 then vSl (rdO (cOpd gs ds x) lo tm) (appS e ti.size h n (repL n v.cells.toList)) (appN e ti.size h n (repL n v.cells.toList)) .none else .none) .none with ⟨k1, n, e1, h1⟩ | h1
  · rw [h1]; rw [e1] at hy
    cases hn : Nat.ble n 16777216 with
    | false => trivial
    | true =>
      have hn := Nat.ble_eq.mp hn
      show GenOk1 P f h w a o (vSl (rdO (cOpd gs ds x) lo tm) (appS e ti.size h n (repL n v.cells.toList)) (appN e ti.size h n (repL n v.cells.toList)) .none)
      exact gen_appAny (zeros := true) (new' := repL n v.cells.toList) hr ht ⟨k, hu⟩ hi hiz hvs hb ⟨k1, v, hy.int_inv, hn, hb, hiz, hvs, rfl⟩ (repL_rel (hzz f) n) (by rw [repL_length]; simp [hvs]) hx (run_app a w ho ha hat)
  · rw [h1]; trivial
end
end Abs
end Go
/- A certified evaluator for closed calls, part Q: unsafe.String, bytealg.MakeNoZero. -/
namespace Go
namespace Abs
section
variable {P : Program} {gs : List Nat} {ds : List (Option Tmp)} {o : Oper}

theorem lies_bytes {e : TypeId} (hc : P.cellsOf e = 1) (count off n : Nat) (hn : off + n ≤ count) : liesAt P P.depth e (count / P.cellsOf e) off e n = true := by
  have hd : P.depth = (2 * (P.types.size + Made.depth) + 1) + 1 := rfl
  rw [hd]
  simp only [liesAt, Bool.or_eq_true]
  left
  rw [hd]
  simp [rowAt, hc, hn, sameLayout, Nat.mod_one]
theorem gen_uStr {x y : Operand} {args : Array Operand} {ats : Array TypeId} {t e : TypeId} {rest : List TypeId} (ho : o.op = .call { callee := .builtin .unsafeString, args := args, argTypes := ats }) (ha : args.toList = [x, y]) (hat : ats.toList = t :: rest)
    (ht : P.underlying t = some (.pointer e)) (hc1 : P.cellsOf e = 1) (hU : e ≠ UNK) : GenOk P gs ds o (oUStr e (cOpd gs ds x) (cOpd gs ds y)) := by
  intro call hcall lo tm f h a w hG hE hr
  have hx := rdO_rel hG hE x
  have hy := rdO_rel hG hE y
  have := toList2 ha; subst this
  have hat0 : ats[0]? = some t := by rw [← Array.getElem?_toList, hat]; rfl
  obtain ⟨csx, hrun⟩ := run_builtin (P := P) a.eval w ho
  rw [show (#[x, y] : Array Operand).map a.eval = #[a.eval x, a.eval y] by simp] at hrun
  unfold oUStr
  rcases vNat_or (rdO (cOpd gs ds y) lo tm) (fun n => bif Nat.beq n 0 || Nat.blt 16777216 n then Res.none else vPtr (rdO (cOpd gs ds x) lo tm) (fun b o =>
    rowK h b (fun c m e' cl _ => bif Nat.beq e e' then bif Nat.ble (Nat.add o n) m then oEl (loadN c o n []) (fun cs => oEl (Abs.bytesOf cs) (fun bs => h.putK b (some (.row c m e' cl true)) fun h => vOf (kStr bs) h) .none) .none else .none else .none) .none) .none) .none with ⟨k1, n, e1, h1⟩ | h1
  · rw [h1]; rw [e1] at hy
    cases hn : (Nat.beq n 0 || Nat.blt 16777216 n) with
    | true => trivial
    | false =>
    rw [Bool.or_eq_false_iff] at hn
    have hn0 : n ≠ 0 := by intro h; subst h; cases hn.1
    have hnb : n ≤ 16777216 := by
      rcases Nat.lt_or_ge 16777216 n with h | h
      · rw [Nat.blt_eq.mpr h] at hn; cases hn.2
      · exact h
    show GenOk1 P f h w a o (vPtr (rdO (cOpd gs ds x) lo tm) (fun b o =>
      rowK h b (fun c m e' cl _ => bif Nat.beq e e' then bif Nat.ble (Nat.add o n) m then oEl (loadN c o n []) (fun cs => oEl (Abs.bytesOf cs) (fun bs => h.putK b (some (.row c m e' cl true)) fun h => vOf (kStr bs) h) .none) .none else .none else .none) .none) .none)
    rcases vPtr_or (rdO (cOpd gs ds x) lo tm) (fun b o =>
      rowK h b (fun c m e' cl _ => bif Nat.beq e e' then bif Nat.ble (Nat.add o n) m then oEl (loadN c o n []) (fun cs => oEl (Abs.bytesOf cs) (fun bs => h.putK b (some (.row c m e' cl true)) fun h => vOf (kStr bs) h) .none) .none else .none else .none) .none) Res.none with ⟨ad, e2, h2⟩ | h2
    · rw [h2]; rw [e2] at hx
      obtain ⟨_, i, hi, hxe⟩ := hx.ptr_inv
      rcases rowK_or h ad.block (fun c m e' cl _ => bif Nat.beq e e' then bif Nat.ble (Nat.add ad.off n) m then oEl (loadN c ad.off n []) (fun cs => oEl (Abs.bytesOf cs) (fun bs => h.putK ad.block (some (.row c m e' cl true)) fun h => vOf (kStr bs) h) .none) .none else .none else .none) Res.none with ⟨c, m, e', cl, ro, hrow, h3⟩ | h3
      · rw [h3]
        cases hee : Nat.beq e e' with
        | false => trivial
        | true =>
        cases hble : Nat.ble (Nat.add ad.off n) m with
        | false => trivial
        | true =>
        have hee := Nat.eq_of_beq_eq_true hee
        subst hee
        have hble : ad.off + n ≤ m := Nat.ble_eq.mp hble
        show GenOk1 P f h w a o (oEl (loadN c ad.off n []) (fun cs => oEl (Abs.bytesOf cs) (fun bs => h.putK ad.block (some (.row c m e cl true)) fun h => vOf (kStr bs) h) .none) .none)
        cases hld : loadN c ad.off n [] with
        | none => trivial
        | some cs =>
        show GenOk1 P f h w a o (oEl (Abs.bytesOf cs) (fun bs => h.putK ad.block (some (.row c m e cl true)) fun h => vOf (kStr bs) h) .none)
        cases hbs : Abs.bytesOf cs with
        | none => trivial
        | some bs =>
        show GenOk1 P f h w a o (h.putK ad.block (some (.row c m e cl true)) fun h => vOf (kStr bs) h)
        rw [Hp.putK_eq]
        obtain ⟨ob, hob, hor⟩ := hr.obj _ _ i hi hrow
        obtain ⟨q1, q2, _⟩ := bytes_read (P := P) hor hob (ao := ad.off) (m := n) (cs := cs) (bs := bs) (by unfold cellsOb rowO; show (bif Nat.ble (Nat.add ad.off n) m then loadN c ad.off n [] else none) = _; rw [show Nat.ble (Nat.add ad.off n) m = true from Nat.ble_eq.mpr hble]; exact hld) hbs
        have hlive : (h.at ad.block).isSome := by rw [hrow]; rfl
        cases hor with
        | row _ _ _ _ _ arr e2 fz he hsz hnn hcl hro hc =>
        have hee : e2 = e := by
          rcases he with h | h
          · exact h.symm
          · exact absurd h hU
        subst hee
        have hbl : i.blk < w.heap.size := (hr.fresh _ _ hi).2
        have hheap : ∃ fz', (w.freeze ⟨i.blk, i.o + ad.off, none⟩ n).heap[i.blk]? = some (.cells arr e2 fz') := by
          unfold World.freeze
          rw [if_neg hn0]
          refine ⟨if fz.1 == fz.2 then (i.o + ad.off, i.o + ad.off + n) else (min fz.1 (i.o + ad.off), max fz.2 (i.o + ad.off + n)), ?_⟩
          simp only [Array.getElem?_modify, hob]
          simp
        obtain ⟨fz', hheap⟩ := hheap
        have hcs := CStep.put (w' := w.freeze ⟨i.blk, i.o + ad.off, none⟩ n) (x := .cells arr e2 fz') (o := .row c m e2 cl true) hr hi hlive hheap (.row _ _ _ _ _ arr e2 fz' (.inl rfl) hsz hnn hcl (fun h => by cases h) hc)
          (by unfold World.freeze; rw [if_neg hn0]; simp) (fun c hc => by unfold World.freeze; rw [if_neg hn0]; simp only [Array.getElem?_modify]; rw [if_neg (fun e => hc e.symm)])
          (by unfold World.freeze; rw [if_neg hn0]) (by unfold World.freeze; rw [if_neg hn0]) (by unfold World.freeze; rw [if_neg hn0])
        refine GenOk1.value (AStep.put _ hlive) (v' := .string (mkS bs)) ?_ hcs (.string _)
        have hlb := Lib.run_loadBytes (P := P) w bs ⟨i.blk, i.o + ad.off, none⟩ .empty q2
        rw [q1, empty_app] at hlb
        have hsh : w.shape? i.blk = some (e2, i.n) := by simp [World.shape?, hob, hsz]
        have hlies := lies_bytes (P := P) hc1 i.n (i.o + ad.off) n (by omega)
        have hdef : ∀ (A : Addr) (v : Value), Builtin.unsafeString_ ats o.type #[.pointer (some A), v] = (do
            let n ← asInt v
            let some pt := ats[0]? | stuck _
            if n < 0 then runtimePanic (.error _)
            if n > IntKind.i64.max then unsupported (.unsafePointer _)
            if n = 0 then pure (.string .empty)
            else if ← variablesAt A (← elemOf pt) n.toNat then do
              let s ← loadBytes A .empty n.toNat
              freeze A n.toNat
              pure (.string s)
            else unsupported (.unsafePointer _)) := fun _ _ => rfl
        have hmax : IntKind.i64.max = 9223372036854775807 := rfl
        have hneg : ¬ (n : Int) < 0 := by omega
        have h63 : ¬ (9223372036854775807 : Int) < (n : Int) := by omega
        have hb : (Builtin.unsafeString_ ats o.type #[a.eval x, a.eval y]).run P w = .ok (.string (mkS bs)) (w.freeze ⟨i.blk, i.o + ad.off, none⟩ n) := by
          rw [hxe, hy.int_inv, hdef]
          simp [asInt, asIntOf, hmax, h63, hneg, hn0, hat0, variablesAt, hsh, elemOf, run_underlying ht, hlies, hlb]
        rw [hrun]
        simp [builtin, hb]
      · rw [h3]; trivial
    · rw [h2]; trivial
  · rw [h1]; trivial
theorem digits_size : ∀ (n t : Nat) (acc : Array Value), (Extern.BytealgMakeNoZero.digits n t acc).size = acc.size + n := by
  intro n
  induction n with
  | zero => intro t acc; rfl
  | succ n ih => intro t acc; rw [Extern.BytealgMakeNoZero.digits, ih]; simp; omega
theorem gen_mkNZ {g : FuncId} {xs : List (Nat × Nat)} {x : Operand} {args : Array Operand} {ats : Array TypeId} {fn : Func} {e rt : TypeId} (ho : o.op = .call { callee := .value (.func g), args := args, argTypes := ats }) (ha : args.toList = [x]) (hX : XOk P xs) (hk : xk xs g = some 1)
    (hfn : P.funcs[g]? = some fn) (hrt : fn.resultTypes[0]? = some rt) (hre : P.underlying rt = some (.slice e)) : GenOk P gs ds o (oMkNZ e (cOpd gs ds x)) := by
  intro call hcall lo tm f h a w hG hE hr
  have hx := rdO_rel hG hE x
  have := toList1 ha; subst this
  obtain ⟨fn', ent, hfn', he, hrun⟩ := run_call_x (P := P) (ρ := a.eval) w ho rfl hX hk
  rw [hfn] at hfn'; cases hfn'
  have he : ent = Extern.BytealgMakeNoZero.makeNoZero fn.params fn.resultTypes := he
  subst he
  unfold oMkNZ
  rcases vInt_or (rdO (cOpd gs ds x) lo tm) (fun kd n => bif Nat.beq (kN kd) 3 then natI n (fun n => bif Nat.ble n 16777216 then h.newK (.row .nil n e false false) fun b h => forceNat n fun n => forceNat (openC 1 n) fun c => Res.val (slV b 0 n c) h else .none) .none else .none) .none with ⟨kd, nn, e1, h1⟩ | h1
  · rw [h1]; rw [e1] at hx
    cases hkd : Nat.beq (kN kd) 3 with
    | false => trivial
    | true =>
    have hkd : kd = .i64 := by cases kd <;> first | rfl | cases hkd
    subst hkd
    show GenOk1 P f h w a o (natI nn (fun n => bif Nat.ble n 16777216 then h.newK (.row .nil n e false false) fun b h => forceNat n fun n => forceNat (openC 1 n) fun c => Res.val (slV b 0 n c) h else .none) .none)
    rcases natI_or nn (fun n => bif Nat.ble n 16777216 then h.newK (.row .nil n e false false) fun b h => forceNat n fun n => forceNat (openC 1 n) fun c => Res.val (slV b 0 n c) h else .none) Res.none with ⟨n, rfl, h2⟩ | h2
    · rw [h2]
      cases hn : Nat.ble n 16777216 with
      | false => trivial
      | true =>
      have hn := Nat.ble_eq.mp hn
      show GenOk1 P f h w a o (h.newK (.row .nil n e false false) fun b h => forceNat n fun n => forceNat (openC 1 n) fun c => Res.val (slV b 0 n c) h)
      rw [Hp.newK_eq, forceNat_eq, forceNat_eq]
      have hge := grown_ge w n 0 e
      have hrun2 : ∃ arr : Array Value, arr.size = grownCap w n 0 e ∧ (Extern.BytealgMakeNoZero.makeNoZero fn.params fn.resultTypes #[.int .i64 (n : Int)]).run P w = .ok (.slice (some ⟨w.heap.size, 0, none⟩) n (grownCap w n 0 e)) (w.drew.drew.alloc (.cells arr e)) := by
        obtain ⟨q, hdef, hq⟩ : ∃ q : Question, (∀ m : Int, Extern.BytealgMakeNoZero.makeNoZero fn.params fn.resultTypes #[.int .i64 m] = (do
          let some t := fn.resultTypes[0]? | stuck _
          let .slice elem ← underlying t | stuck _
          if m < 0 || m > 2 ^ 48 then runtimePanic (.error _)
          let cap ← choose (.appendCap m.toNat 0 elem)
          askRoom cap
          let bytes ← choose q
          let a ← newRow elem (Extern.BytealgMakeNoZero.digits cap bytes #[])
          pure (.slice (some a) m.toNat cap))) ∧ q.forced = false := ⟨_, fun _ => rfl, rfl⟩
        refine ⟨Extern.BytealgMakeNoZero.digits (grownCap w n 0 e) (q.cut (w.drew.tape w.drew.drawn q)) #[], by rw [digits_size]; simp, ?_⟩
        have h1 : ¬ ((n : Int) < 0) := by omega
        have h2 : ¬ (281474976710656 < (n : Int)) := by omega
        rw [hdef]
        simp [hrt, run_underlying hre, h1, h2, hq, show ∀ a b c, (Question.appendCap a b c).forced = false from fun _ _ _ => rfl, newRow, grownCap]
      obtain ⟨arr, harr, hrun2⟩ := hrun2
      generalize grownCap w n 0 e = cap at *
      have hc := CStep.newRow (w' := w.drew.drew.alloc (.cells arr e)) (l := []) (s := 1) (e := e) (cl := false) (n := n) hr (fun k v hk _ => by simp at hk) (by omega) (fun h => by cases h) (none_fz _) rfl rfl rfl rfl
      refine GenOk1.value (AStep.new _ hr.base) (v' := .slice (some ⟨w.heap.size, 0, none⟩) n cap) ?_ hc ?_
      · rw [hrun, show (#[x] : Array Operand).map a.eval = #[a.eval x] by simp, hx.int_inv, hrun2]
        rfl
      · have hO := open_big
        refine .sliceO h.next 0 n _ n _ 0 cap (Map.ext_self _ _ _) ?_ (by omega) (Nat.le_refl _) hge (.inl rfl) ?_
        · show Nat.add (Nat.mul OPEN (Nat.succ 1)) n = OPEN * (1 + 1) + n
          rfl
        · show 0 + cap * 1 ≤ arr.size
          omega
    · rw [h2]; trivial
  · rw [h1]; trivial
end
end Abs
end Go
/- A certified evaluator for closed calls, part QM: maps whose keys are scalars; methods of interface values. -/
namespace Go
namespace Abs
section
variable {P : Program} {gs : List Nat} {ds : List (Option Tmp)} {o : Oper}

theorem vMap_or {R : Type} (v : Value) (k : Nat → R) (kn z : R) : (∃ b, v = .map (some b) ∧ vMap v k kn z = k b) ∨ (v = .map none ∧ vMap v k kn z = kn) ∨ vMap v k kn z = z := by
  cases v with
  | map a => cases a with
    | none => exact .inr (.inl ⟨rfl, rfl⟩)
    | some b => exact .inl ⟨b, rfl, rfl⟩
  | _ => exact .inr (.inr rfl)
theorem mapO_or {R : Type} (ob : AObj) (k : List (Value × Value) → R) (z : R) : (∃ es, ob = .mp es ∧ mapO ob k z = k es) ∨ mapO ob k z = z := by
  cases ob with
  | mp es => exact .inl ⟨es, rfl, rfl⟩
  | _ => exact .inr rfl
theorem VRel.map_inv {f : Map} {b : Nat} {v' : Value} (h : VRel f (.map (some b)) v') : ∃ i, f b = some i ∧ v' = .map (some i.blk) := by
  cases h with
  | map _ i h => exact ⟨i, h, rfl⟩
theorem VRel.nilMap_inv {f : Map} {v' : Value} (h : VRel f (.map none) v') : v' = .map none := by
  cases h; rfl
/-- the kinds of keys -/
def KeyTd (td : TypeDesc) : Prop := td = .bool ∨ (∃ k, td = .int k) ∨ td = .string
theorem keyT_td {t : TypeId} (h : keyT P t = true) : ∃ td, P.underlying t = some td ∧ KeyTd td := by
  unfold keyT tagOf at h
  cases hu : P.underlying t with
  | none => rw [hu] at h; cases h
  | some td =>
    rw [hu] at h
    cases td <;> first | exact ⟨_, rfl, .inl rfl⟩ | exact ⟨_, rfl, .inr (.inl ⟨_, rfl⟩)⟩ | exact ⟨_, rfl, .inr (.inr rfl)⟩ | cases h
theorem checkKey_key {kt : TypeId} {td : TypeDesc} (hu : P.underlying kt = some td) (hk : KeyTd td) (e : Bool) (v : Value) (w : World) : (Instr.checkKey e 10000 kt v).run P w = .ok () w := by
  rw [show (10000 : Nat) = 9999 + 1 from rfl, Instr.checkKey]
  simp only [Sem.run_bind, run_underlying hu, Result.andThen_ok]
  rcases hk with rfl | ⟨k, rfl⟩ | rfl <;> rfl
/-- a key that is looked for, and one that is there -/
theorem sameNow_of {f : Map} {t : TypeId} {td : TypeDesc} (hu : P.underlying t = some td) (hk : KeyTd td) {x y x' : Value} {b : Bool} (hx : VRel f x x') (h : sEqT (tagOf P t) x y = some b) :
    x' = x ∧ Instr.sameNow td x y = some b ∧ (b = true → Instr.sameBits 10000 y x = true) := by
  obtain ⟨ht, h⟩ := sEqT_some h
  have hy : ∃ y', VRel f y y' := by
    cases x <;> cases y <;> first | exact ⟨_, .int _ _⟩ | exact ⟨_, .bool _⟩ | exact ⟨_, .string _⟩ | (cases h)
  obtain ⟨y', hy⟩ := hy
  obtain ⟨rfl, rfl, h⟩ := sEq_rel hx hy h
  refine ⟨rfl, ?_⟩
  rcases h with ⟨k, m, n, rfl, rfl, rfl⟩ | ⟨p, q, rfl, rfl, rfl⟩ | ⟨p, q, rfl, rfl, rfl⟩
  · obtain ⟨k', hk'⟩ := tag_td.2.1 ht.symm
    rw [hu] at hk'; cases hk'
    refine ⟨by simp [Instr.sameNow], fun hb => ?_⟩
    have := eq_of_beq hb; subst this
    simp [Instr.sameBits]
  · have := tag_td.1 ht.symm
    rw [hu] at this; cases this
    refine ⟨by simp [Instr.sameNow], fun hb => ?_⟩
    have := eq_of_beq hb; subst this
    simp [Instr.sameBits]
  · have := tag_td.2.2 ht.symm
    rw [hu] at this; cases this
    refine ⟨by simp [Instr.sameNow, beq_toListBytes], fun hb => ?_⟩
    have := eq_of_beq hb
    simp [Instr.sameBits, beq_toListBytes, this]
/-- entries, side by side -/
def EnRel (f : Map) (es : List (Value × Value)) (en : List MapEntry) : Prop := en.length = es.length ∧ ∀ (j : Nat) (e : Value × Value), es[j]? = some e → ∃ x, en[j]? = some x ∧ x.key = e.1 ∧ VRel f e.2 x.val
theorem EnRel.tail {f : Map} {e : Value × Value} {es : List (Value × Value)} {x : MapEntry} {en : List MapEntry} (h : EnRel f (e :: es) (x :: en)) : x.key = e.1 ∧ VRel f e.2 x.val ∧ EnRel f es en := by
  obtain ⟨y, hy, a, b⟩ := h.2 0 e rfl
  cases hy
  refine ⟨a, b, by simpa using h.1, fun j e' he => ?_⟩
  obtain ⟨z, hz, c⟩ := h.2 (j + 1) e' (by simpa using he)
  exact ⟨z, by simpa using hz, c⟩
theorem oEl_none_z {α R : Type} (k : α → R) (z : R) : oEl none k z = z := rfl
theorem findM_ok {R : Type} {f : Map} {t : TypeId} {td : TypeDesc} (hu : P.underlying t = some td) (hk : KeyTd td) {k k' : Value} (hx : VRel f k k') (y : Value → R) (n z : R) :
    ∀ (es : List (Value × Value)) (en : List MapEntry) (i : Nat), EnRel f es en → findM (tagOf P t) k es y n z = z ∨
      (∃ j v x, findM (tagOf P t) k es y n z = y v ∧ Instr.findNow td k' en i = some (some (j, x)) ∧ VRel f v x) ∨
      (findM (tagOf P t) k es y n z = n ∧ Instr.findNow td k' en i = some none) := by
  intro es
  induction es with
  | nil =>
    intro en i h
    have : en = [] := List.length_eq_zero_iff.1 h.1
    subst this
    exact .inr (.inr ⟨rfl, rfl⟩)
  | cons e es ih =>
    intro en i h
    cases en with
    | nil => simp [EnRel] at h
    | cons x en =>
      obtain ⟨h1, h2, h3⟩ := h.tail
      have hu1 : findM (tagOf P t) k (e :: es) y n z = oEl (sEqT (tagOf P t) k e.1) (fun t' => Bool.rec (motive := fun _ => R) (findM (tagOf P t) k es y n z) (y e.2) t') z := rfl
      rw [hu1]
      cases hs : sEqT (tagOf P t) k e.1 with
      | none => exact .inl rfl
      | some b =>
        obtain ⟨rfl, hn, _⟩ := sameNow_of hu hk hx hs
        cases b with
        | true =>
          refine .inr (.inl ⟨i, e.2, x.val, rfl, ?_, h2⟩)
          rw [Instr.findNow, h1, hn]
        | false =>
          show findM (tagOf P t) k' es y n z = z ∨ _
          have hf : Instr.findNow td k' (x :: en) i = Instr.findNow td k' en (i + 1) := by rw [Instr.findNow, h1, hn]
          rw [hf]
          exact ih en (i + 1) h3
theorem zeroV_run {t : TypeId} {z : Value} (hz : (P.info? t).bind (·.zero) = some z) (w : World) : (zeroValue t).run P w = .ok z w := by
  cases hi : P.info? t with
  | none => rw [hi] at hz; cases hz
  | some i =>
    rw [hi] at hz
    have hz' : i.zero = some z := hz
    simp [zeroValue, typeInfo, hi, hz']
theorem zeroV_rel {f : Map} {z : Value} (hp : (cellsL z).all plainC = true) : VRel f z z := by
  cases z with
  | agg c =>
    refine .agg _ _ rfl fun i hi => ?_
    have hm : c.getD i undef ∈ c.toList := by
      rw [Array.getD_eq_getD_getElem?, Array.getElem?_eq_getElem hi]
      simp
    exact VRel.plain (List.all_eq_true.1 hp _ hm)
  | _ => exact VRel.plain (List.all_eq_true.1 hp _ (List.mem_singleton.2 rfl))
theorem lookR_rel {f : Map} {ok b : Bool} {v v' u : Value} (hv : VRel f v v') (h : lookR ok v b = some u) : VRel f u (if ok then .tuple #[v', .bool b] else v') := by
  cases ok with
  | true => cases h; exact VRel.tuple_list (LRel.cons hv (LRel.cons (.bool b) (LRel.nil f)))
  | false => cases h; exact hv
theorem ORel.map_inv {f : Map} {i : Img} {es : List (Value × Value)} {x : Obj} (h : ORel f i (.mp es) x) : ∃ en ck, x = .map en ck ∧ ck = en.size ∧ EnRel f es en.toList ∧
    ∀ (j : Nat) (e : Value × Value), es[j]? = some e → (0 < vTag e.1 ∧ vTag e.1 < 4) ∧ ∃ x, en[j]? = some x ∧ x.key = e.1 ∧ VRel f e.2 x.val ∧ x.born = j := by
  cases h with
  | mp _ en ck hl hck he =>
    refine ⟨en, ck, rfl, hck, ⟨by simpa using hl, fun j e hj => ?_⟩, he⟩
    obtain ⟨_, x, a, b, c, _⟩ := he j e hj
    exact ⟨x, by simpa using a, b, c⟩
theorem findKey_run {kt : TypeId} {td : TypeDesc} (hu : P.underlying kt = some td) {k : Value} {es : List MapEntry} {r : Option (Nat × Value)} (h : Instr.findNow td k es 0 = some r) (w : World) : (Instr.findKey kt k es).run P w = .ok r w := by
  simp only [Instr.findKey, Sem.run_bind, run_underlying hu, Result.andThen_ok, h]
  rfl
theorem read_look {t kt et : TypeId} {x k : Operand} {ok : Bool} {z : Value} (ho : o.op = .lookup t x k ok) (ht : P.underlying t = some (.map kt et)) (hz : (P.info? et).bind (·.zero) = some z) (hp : (cellsL z).all plainC = true) (hkt : keyT P kt = true) :
    ReadOk P gs ds o (oLook (tagOf P kt) z ok (cOpd gs ds x) (cOpd gs ds k)) := by
  intro lo tm f a w hG hE
  have hx := rdO_rel hG hE x
  have hkr := rdO_rel hG hE k
  obtain ⟨td, htd, hkd⟩ := keyT_td hkt
  unfold oLook
  rcases vMap_or (rdO (cOpd gs ds x) lo tm) (fun b => PR.read b fun ob => mapO ob (fun es => findM (tagOf P kt) (rdO (cOpd gs ds k) lo tm) es (fun v => lookR ok v true) (lookR ok z false) none) none) (toPR (lookR ok z false)) .none with ⟨b, e, h⟩ | ⟨e, h⟩ | h
  · rw [h]; rw [e] at hx
    obtain ⟨i, hi, hxe⟩ := hx.map_inv
    refine ⟨i, hi, fun ob v x' hv hx' hor => ?_⟩
    dsimp only at hv
    rcases mapO_or ob (fun es => findM (tagOf P kt) (rdO (cOpd gs ds k) lo tm) es (fun v => lookR ok v true) (lookR ok z false) none) none with ⟨es, rfl, h2⟩ | h2
    · rw [h2] at hv
      obtain ⟨en, ck, rfl, hck, her, _⟩ := hor.map_inv
      have hrun : ∀ {r : Option (Nat × Value)} (u : Value), Instr.findNow td (a.eval k) en.toList 0 = some r → (match r with | some (_, v) => (v, true) | none => (z, false)) = (u, r.isSome) → (execOp a.eval o).run P w = .ok (.value (if ok then .tuple #[u, .bool r.isSome] else u)) w := by
        intro r u hr hu
        simp only [execOp, ho, Instr.lookup, Sem.run_bind, run_underlying ht, Result.andThen_ok, hxe]
        rw [show (getObj i.blk).run P w = .ok (.map en ck) w by simp [getObj, Sem.run, hx']]
        simp only [Result.andThen_ok, Sem.run_bind, Sem.run_pure, checkKey_key htd hkd, findKey_run htd hr]
        cases r with
        | none =>
          cases hu
          simp [zeroV_run hz]
        | some p =>
          obtain ⟨j, pv⟩ := p
          cases hu
          simp
      rcases findM_ok htd hkd hkr (fun v => lookR ok v true) (lookR ok z false) none es en.toList 0 her with h3 | ⟨j, pv, px, h3, h4, h5⟩ | ⟨h3, h4⟩
      · rw [h3] at hv; cases hv
      · rw [h3] at hv
        exact ⟨_, hrun px h4 rfl, lookR_rel h5 hv⟩
      · rw [h3] at hv
        exact ⟨_, hrun z h4 rfl, lookR_rel (zeroV_rel hp) hv⟩
    · rw [h2] at hv; cases hv
  · rw [h]; rw [e] at hx
    have hxe := hx.nilMap_inv
    have hrun : (execOp a.eval o).run P w = .ok (.value (if ok then .tuple #[z, .bool false] else z)) w := by
      simp only [execOp, ho, Instr.lookup, Sem.run_bind, run_underlying ht, Result.andThen_ok, hxe, Sem.run_pure, checkKey_key htd hkd]
      rw [findKey_run htd (r := none) rfl]
      simp [zeroV_run hz]
    cases ok with
    | true => exact ⟨_, hrun, VRel.tuple_list (LRel.cons (zeroV_rel hp) (LRel.cons (.bool false) (LRel.nil f)))⟩
    | false => exact ⟨_, hrun, zeroV_rel hp⟩
  · rw [h]; trivial
theorem read_lenM {x : Operand} {t k e : TypeId} {args : Array Operand} {ats : Array TypeId} (ho : o.op = .call { callee := .builtin .len, args := args, argTypes := ats }) (ha : args.toList = [x]) (hat : ats.toList = [t]) (ht : P.underlying t = some (.map k e)) :
    ReadOk P gs ds o (oLenM (cOpd gs ds x)) := by
  intro lo tm f a w hG hE
  have hx := rdO_rel hG hE x
  have := toList1 ha; subst this
  have := toList1 hat; subst this
  unfold oLenM
  rcases vMap_or (rdO (cOpd gs ds x) lo tm) (fun b => PR.read b fun ob => mapO ob (fun es => kNat .i64 (len es)) none) (.val (.int .i64 (.ofNat 0))) .none with ⟨b, e, h⟩ | ⟨e, h⟩ | h
  · rw [h]; rw [e] at hx
    obtain ⟨i, hi, hxe⟩ := hx.map_inv
    refine ⟨i, hi, fun ob v x' hv hx' hor => ?_⟩
    dsimp only at hv
    rcases mapO_or ob (fun es => kNat .i64 (len es)) none with ⟨es, rfl, h2⟩ | h2
    · rw [h2] at hv
      obtain ⟨en, ck, rfl, hck, her, _⟩ := hor.map_inv
      unfold kNat at hv
      rw [forceNat_eq, len_eq] at hv
      cases hv
      refine ⟨.int .i64 (es.length : Nat), ?_, .int _ _⟩
      have hsz : en.size = es.length := by simpa using her.1
      simp [execOp, ho, resolve, invoke, builtin, Builtin.len_, run_underlying ht, hxe, getObj, Sem.run, hx', hsz, goInt]
    · rw [h2] at hv; cases hv
  · rw [h]; rw [e] at hx
    have hxe := hx.nilMap_inv
    refine ⟨.int .i64 0, ?_, .int _ _⟩
    simp [execOp, ho, resolve, invoke, builtin, Builtin.len_, run_underlying ht, hxe, goInt]
  · rw [h]; trivial
/- ===== making a map ===== -/
theorem newM_ok {f : Map} {h : Hp} {w : World} (hr : HRel f h w) : CStep f h w (f.ext h.next ⟨w.heap.size, 0, 0, 0⟩) (h.new (.mp [])) { w with heap := w.heap.push (.map #[] 0) } :=
  CStep.new (i := ⟨w.heap.size, 0, 0, 0⟩) (o := .mp []) hr rfl (.mp [] #[] 0 rfl rfl fun j e h => by simp at h) rfl rfl rfl rfl
theorem gen_mkM {t : TypeId} (ho : o.op = .makeMap t none) : GenOk P gs ds o oMkM := by
  intro call hcall lo tm f h a w hG hE hr
  unfold oMkM
  rw [Hp.newK_eq]
  refine GenOk1.value (AStep.new _ hr.base) (v' := .map (some w.heap.size)) ?_ (newM_ok hr) (.map h.next _ (Map.ext_self _ _ _))
  simp [execOp, ho, Instr.makeMap, newObj, Sem.run]
theorem gen_mkMh {t k e : TypeId} {x : Operand} (ho : o.op = .makeMap t (some x)) (ht : P.underlying t = some (.map k e)) : GenOk P gs ds o (oMkMh (cOpd gs ds x)) := by
  intro call hcall lo tm f h a w hG hE hr
  have hx := rdO_rel hG hE x
  unfold oMkMh
  rcases vInt_or (rdO (cOpd gs ds x) lo tm) (fun _ _ => h.newK (.mp []) fun b h => Res.val (.map (some b)) h) .none with ⟨kd, m, e, h1⟩ | h1
  · rw [h1]; rw [e] at hx
    have hxe := hx.int_inv
    rw [Hp.newK_eq]
    refine GenOk1.value (AStep.new _ hr.base) (v' := .map (some w.heap.size)) ?_ (newM_ok hr) (.map h.next _ (Map.ext_self _ _ _))
    simp [execOp, ho, Instr.makeMap, newObj, Sem.run, run_underlying ht, hxe, asInt, asIntOf]
  · rw [h1]; trivial
/- ===== an entry is set ===== -/
theorem putM_ok {f : Map} {t : TypeId} {td : TypeDesc} (hu : P.underlying t = some td) (hk : KeyTd td) {k k' v : Value} (hx : VRel f k k') (ht : vTag k = tagOf P t) :
    ∀ (es : List (Value × Value)) (en : List MapEntry) (i : Nat) (r : List (Value × Value)), EnRel f es en → putM (tagOf P t) k v es = some r →
      (∃ j e x, es[j]? = some e ∧ en[j]? = some x ∧ r = es.set j (e.1, v) ∧ Instr.findNow td k' en i = some (some (i + j, x.val)) ∧ Instr.sameBits 10000 x.key k' = true ∧ k' = x.key) ∨
      (r = es ++ [(k, v)] ∧ Instr.findNow td k' en i = some none) := by
  intro es
  induction es with
  | nil =>
    intro en i r h hr
    have : en = [] := List.length_eq_zero_iff.1 h.1
    subst this
    cases hr
    exact .inr ⟨rfl, rfl⟩
  | cons e es ih =>
    intro en i r h hr
    cases en with
    | nil => simp [EnRel] at h
    | cons x en =>
      obtain ⟨h1, h2, h3⟩ := h.tail
      have hu1 : putM (tagOf P t) k v (e :: es) = oEl (sEqT (tagOf P t) k e.1) (fun t' => Bool.rec (motive := fun _ => Option (List (Value × Value))) (oEl (putM (tagOf P t) k v es) (fun l => some (e :: l)) none) (some ((e.1, v) :: es)) t') none := rfl
      rw [hu1] at hr
      cases hs : sEqT (tagOf P t) k e.1 with
      | none => rw [hs] at hr; cases hr
      | some b =>
        rw [hs] at hr
        obtain ⟨hkk, hn, hb⟩ := sameNow_of hu hk hx hs
        cases b with
        | true =>
          cases hr
          have hsb := hb rfl
          refine .inl ⟨0, e, x, rfl, rfl, rfl, by rw [hkk, Instr.findNow, h1, hn]; rfl, by rw [h1, hkk]; exact hsb, ?_⟩
          rw [hkk, h1]
          have h4 := (sEqT_some hs).2
          have hy : ∃ y', VRel f e.1 y' := by
            cases k <;> cases he : e.1 <;> first | exact ⟨_, .int _ _⟩ | exact ⟨_, .bool _⟩ | exact ⟨_, .string _⟩ | (rw [he] at h4; cases h4)
          obtain ⟨y', hy⟩ := hy
          obtain ⟨_, _, h5⟩ := sEq_rel hx hy h4
          rcases h5 with ⟨k1, m, n, e1, e2, e3⟩ | ⟨p, q, e1, e2, e3⟩ | ⟨p, q, e1, e2, e3⟩
          · rw [e1, e2]; rw [eq_of_beq e3.symm]
          · rw [e1, e2]; rw [eq_of_beq e3.symm]
          · rw [e1, e2]
            have h6 : p.toList = q.toList := eq_of_beq e3.symm
            rw [bl_toList, bl_toList] at h6
            obtain ⟨⟨p⟩⟩ := p; obtain ⟨⟨q⟩⟩ := q
            have h7 : p = q := h6
            rw [h7]
        | false =>
          have hr : oEl (putM (tagOf P t) k v es) (fun l => some (e :: l)) none = some r := hr
          obtain ⟨l, hl, hr⟩ := oEl_some _ _ hr
          cases hr
          have hf : Instr.findNow td k' (x :: en) i = Instr.findNow td k' en (i + 1) := by rw [Instr.findNow, h1, hkk, hn]
          rw [hf]
          rcases ih en (i + 1) l h3 hl with ⟨j, e', x', a, b, c, d, g⟩ | ⟨a, b⟩
          · refine .inl ⟨j + 1, e', x', by simpa using a, by simpa using b, by simp [c], ?_, g⟩
            rw [d, Nat.add_right_comm]; rfl
          · exact .inr ⟨by rw [a]; rfl, b⟩
theorem skip_of {f f' : Map} {h h' : Hp} {w w' : World} {a : Act} {s : Sem Unit} (hs : AStep h h') (he : execOp a.eval o = (do s; pure .skip)) (hr : s.run P w = .ok () w') (hc : CStep f h w f' h' w') : GenOk1 P f h w a o (.val undef h') :=
  GenOk1.skip hs (by rw [he]; simp [hr]) hc
theorem gen_putM {t kt et : TypeId} {m k v : Operand} (ho : o.op = .mapUpdate t m k v ∨ o.op = .insert t m k v) (ht : P.underlying t = some (.map kt et)) (hkt : keyT P kt = true) : GenOk P gs ds o (oPutM (tagOf P kt) (cOpd gs ds m) (cOpd gs ds k) (cOpd gs ds v)) := by
  intro call hcall lo tm f h a w hG hE hr
  have hm := rdO_rel hG hE m
  have hkr := rdO_rel hG hE k
  have hv := rdO_rel hG hE v
  obtain ⟨td, htd, hkd⟩ := keyT_td hkt
  have hex : execOp a.eval o = (do Instr.mapUpdate t (a.eval m) (a.eval k) (a.eval v); pure .skip) := by
    rcases ho with ho | ho <;> simp only [execOp, ho]
  unfold oPutM
  rcases vMap_or (rdO (cOpd gs ds m) lo tm) (fun b => oEl (h.bl.get (path b)) (fun ob => mapO ob (fun es =>
    bif Nat.beq (vTag (rdO (cOpd gs ds k) lo tm)) (tagOf P kt) then oEl (putM (tagOf P kt) (rdO (cOpd gs ds k) lo tm) (rdO (cOpd gs ds v) lo tm) es) (fun es => h.putK b (some (.mp es)) fun h => Res.val undef h) .none else .none) .none) .none) .none .none with ⟨b, e, h1⟩ | ⟨_, h1⟩ | h1
  · rw [h1]; rw [e] at hm
    obtain ⟨i, hi, hme⟩ := hm.map_inv
    generalize rdO (cOpd gs ds k) lo tm = ka at hkr
    generalize rdO (cOpd gs ds v) lo tm = va at hv
    cases hat : h.at b with
    | none => rw [show h.bl.get (path b) = none from hat]; trivial
    | some ob =>
      rw [show h.bl.get (path b) = some ob from hat]
      show GenOk1 P f h w a o (mapO ob (fun es => bif Nat.beq (vTag ka) (tagOf P kt) then oEl (putM (tagOf P kt) ka va es) (fun es => h.putK b (some (.mp es)) fun h => Res.val undef h) .none else .none) .none)
      rcases mapO_or ob (fun es => bif Nat.beq (vTag ka) (tagOf P kt) then oEl (putM (tagOf P kt) ka va es) (fun es => h.putK b (some (.mp es)) fun h => Res.val undef h) .none else .none) Res.none with ⟨es, rfl, h2⟩ | h2
      · rw [h2]
        cases htg : Nat.beq (vTag ka) (tagOf P kt) with
        | false => trivial
        | true =>
          have htg := Nat.eq_of_beq_eq_true htg
          rw [cond_true]
          cases hp : putM (tagOf P kt) ka va es with
          | none => trivial
          | some es' =>
            show GenOk1 P f h w a o (h.putK b (some (.mp es')) fun h => Res.val undef h)
            rw [Hp.putK_eq]
            obtain ⟨x, hx, hor⟩ := hr.obj b _ i hi hat
            obtain ⟨en, ck, rfl, hck, her, hall⟩ := hor.map_inv
            have hlive : (h.at b).isSome := by rw [hat]; rfl
            have hbl : i.blk < w.heap.size := (hr.fresh _ _ hi).2
            have hsz : en.size = es.length := by simpa using her.1
            have hi0 : 0 < tagOf P kt ∧ tagOf P kt < 4 := by
              refine ⟨?_, Nat.blt_eq.mp hkt⟩
              unfold tagOf
              split <;> decide
            have fin : ∀ en' ck', (Instr.mapUpdate t (a.eval m) (a.eval k) (a.eval v)).run P w = .ok () { w with heap := w.heap.setIfInBounds i.blk (.map en' ck') } → ORel f i (.mp es') (.map en' ck') → GenOk1 P f h w a o (.val undef (h.put b (some (.mp es')))) := by
              intro en' ck' hrun hor'
              refine skip_of (f' := f) (AStep.put _ hlive) hex hrun ?_
              exact CStep.put (o := .mp es') (x := .map en' ck') hr hi hlive (by simp [hbl]) hor' (by simp) (fun c hc => by simp only [Array.getElem?_setIfInBounds]; rw [if_neg (fun e => hc e.symm)]) rfl rfl rfl
            have hget : (getObj i.blk).run P w = .ok (.map en ck) w := by simp [getObj, Sem.run, hx]
            have hset : ∀ x', (setObj i.blk x').run P w = .ok () { w with heap := w.heap.setIfInBounds i.blk x' } := fun x' => by simp only [setObj, Sem.run, hx]
            rcases putM_ok htd hkd hkr htg es en.toList 0 es' her hp with ⟨j, ej, xj, a1, a2, a3, a4, a5, a6⟩ | ⟨a3, a4⟩
            · have a2' : en[j]? = some xj := by simpa using a2
              refine fin (en.modify j fun e => { e with key := a.eval k, val := a.eval v }) ck ?_ ?_
              · simp only [Instr.mapUpdate, Sem.run_bind, run_underlying ht, Result.andThen_ok, hme, hget, checkKey_key htd hkd, findKey_run htd a4, Nat.zero_add, a2', Option.map_some, Option.getD_some, Instr.keyThatStays, a5, if_true, Sem.run_pure, hset]
              · subst a3
                refine .mp _ _ _ (by simp [hsz]) (by simp [hck]) fun n e' hn => ?_
                rw [List.getElem?_set] at hn
                by_cases hjn : j = n
                · subst hjn
                  have hjl : j < es.length := (List.getElem?_eq_some_iff.1 a1).1
                  rw [if_pos rfl, if_pos hjl] at hn
                  cases hn
                  obtain ⟨b0, x0, b1, b2, b3, b4⟩ := hall j ej a1
                  rw [a2'] at b1; cases b1
                  exact ⟨b0, { xj with key := a.eval k, val := a.eval v }, by rw [Array.getElem?_modify, if_pos rfl, a2']; rfl, a6.trans b2, hv, b4⟩
                · rw [if_neg hjn] at hn
                  obtain ⟨b0, x0, b1, b2⟩ := hall n e' hn
                  exact ⟨b0, x0, by rw [Array.getElem?_modify, if_neg hjn]; exact b1, b2⟩
            · refine fin (en.push { key := a.eval k, val := a.eval v, born := ck }) (ck + 1) ?_ ?_
              · simp only [Instr.mapUpdate, Sem.run_bind, run_underlying ht, Result.andThen_ok, hme, hget, checkKey_key htd hkd, findKey_run htd a4, hset]
              · subst a3
                have hkk : a.eval k = ka := by
                  cases hka : ka <;> rw [hka] at htg hkr <;> first | exact hkr.int_inv | exact hkr.str_inv | exact hkr.not_top | (exfalso; have : (0 : Nat) = tagOf P kt := htg; omega)
                refine .mp _ _ _ (by simp [hsz]) (by simp [hck]) fun n e' hn => ?_
                rw [List.getElem?_append] at hn
                by_cases hnl : n < es.length
                · rw [if_pos hnl] at hn
                  obtain ⟨b0, x0, b1, b2⟩ := hall n e' hn
                  exact ⟨b0, x0, by rw [Array.getElem?_push, if_neg (by omega)]; exact b1, b2⟩
                · rw [if_neg hnl] at hn
                  have hn0 : n = es.length := by
                    have := (List.getElem?_eq_some_iff.1 hn).1
                    simp at this; omega
                  subst hn0
                  rw [Nat.sub_self] at hn
                  cases hn
                  exact ⟨by rw [htg]; exact hi0, _, by rw [Array.getElem?_push, if_pos hsz.symm], hkk, hv, by rw [hck, hsz]⟩
      · rw [h2]; trivial
  · rw [h1]; trivial
  · rw [h1]; trivial
/- ===== a method of what an interface value holds ===== -/
/-- the rows of the table are right: the function that the method of a type is; its receiver is what the interface value holds -/
def MOk (P : Program) (ms : List (String × Nat × Nat)) : Prop := ∀ e, e ∈ ms → ∃ info m d ptr, P.info? e.2.1 = some info ∧ info.methods.find? (·.name == e.1) = some m ∧ m.path = #[] ∧ m.func = some (e.2.2, ptr) ∧
  P.underlying e.2.1 = some d ∧ (match d with | .pointer _ => ptr = true | _ => ptr = false)
/-- what is asked of the lists of a context -/
def CxOk (P : Program) (cx : Cx) : Prop := XOk P cx.xs ∧ MOk P cx.ms
theorem msOf_mem {ms : List (String × Nat × Nat)} {n : String} {x : Nat × Nat} (h : x ∈ msOf ms n) : (n, x) ∈ ms := by
  induction ms with
  | nil => cases h
  | cons e r ih =>
    unfold msOf at h
    cases he : (e.1 == n) with
    | false => rw [he] at h; exact List.mem_cons_of_mem _ (ih h)
    | true =>
      rw [he] at h
      have := eq_of_beq he
      rcases List.mem_cons.1 h with rfl | h
      · subst this; exact List.mem_cons_self
      · exact List.mem_cons_of_mem _ (ih h)
theorem asc_mem {tb : List (Nat × Nat)} {t g : Nat} (h : asc tb t = some g) : (t, g) ∈ tb := by
  induction tb with
  | nil => cases h
  | cons e r ih =>
    have h' : (bif Nat.beq e.1 t then some e.2 else asc r t) = some g := h
    cases hb : Nat.beq e.1 t with
    | true =>
      rw [hb] at h'
      have := Nat.eq_of_beq_eq_true hb
      cases h'; subst this
      exact List.mem_cons_self
    | false => rw [hb] at h'; exact List.mem_cons_of_mem _ (ih h')
theorem run_method {ms : List (String × Nat × Nat)} (hM : MOk P ms) {n : String} {t g : Nat} (h : (n, t, g) ∈ ms) (D : Nat) (v : Value) (w : World) : (method (D + 1) t v n).run P w = .ok (g, v) w := by
  obtain ⟨info, m, d, ptr, hi, hm, hp, hf, hd, hptr⟩ := hM _ h
  rw [method]
  have hti : (typeInfo t).run P w = .ok info w := by simp [typeInfo, hi]
  simp only [Sem.run_bind, hti, Result.andThen_ok, hm, hp, follow, Sem.run_pure, hf]
  have hr : ∀ o, (receiverAt t (.val v) ptr o).run P w = .ok v w := by
    intro o
    simp only [receiverAt, Sem.run_bind, run_underlying hd, Result.andThen_ok]
    cases d <;> (dsimp only at hptr; subst hptr; rfl)
  simp [hr]
theorem gen_inv {ms : List (String × Nat × Nat)} (hM : MOk P ms) {r : Operand} {n : String} {args : Array Operand} {ats : Array TypeId} (ho : o.op = .call { callee := .invoke r n, args := args, argTypes := ats }) :
    GenOk P gs ds o (oInv (msOf ms n) (cOpd gs ds r) (args.toList.map (cOpd gs ds))) := by
  intro call hcall lo tm f h a w hG hE hr
  have hl := rdL_rel hG hE args.toList
  have hx := rdO_rel hG hE r
  unfold oInv
  rcases vIface_or (rdO (cOpd gs ds r) lo tm) (fun t v => oEl (asc (msOf ms n) t) (fun g => call g (v :: rdL (args.toList.map (cOpd gs ds)) lo tm) h) Res.none) .none .none with ⟨t, v, e, h1⟩ | ⟨e, h1⟩ | h1
  · rw [h1]; rw [e] at hx
    obtain ⟨v', hxe, hv⟩ := hx.iface_inv
    cases ha : asc (msOf ms n) t with
    | none => trivial
    | some g =>
      have hmem := msOf_mem (asc_mem ha)
      show GenOk1 P f h w a o (call g (v :: rdL (args.toList.map (cOpd gs ds)) lo tm) h)
      refine GenOk1.call hcall hG hr (args' := #[v'] ++ args.map a.eval) (by simpa using LRel.cons hv hl) ?_
      have hm := run_method (P := P) hM hmem (P.types.size + Made.depth - 1) v' w
      rw [show P.types.size + Made.depth - 1 + 1 = P.types.size + Made.depth from by simp [Made.depth]] at hm
      have h0 : (#[Value.iface t v'] ++ args.map a.eval)[0]? = some (.iface t v') := by
        rw [Array.getElem?_append_left (by simp)]; rfl
      have h1 : (#[Value.iface t v'] ++ args.map a.eval).extract 1 (#[Value.iface t v'] ++ args.map a.eval).size = args.map a.eval := by
        apply Array.ext'
        simp
        exact List.take_of_length_le (by simp)
      unfold execOp
      rw [ho]
      simp only [resolve, hxe, Sem.run_bind, Sem.run_pure, Result.andThen_ok, invoke, h0, callMethod, h1]
      rw [show (program).run P w = .ok P w from rfl]
      simp only [Result.andThen_ok, Sem.run_bind, hm]
  · rw [h1]; trivial
  · rw [h1]; trivial
end
end Abs
end Go
/- A certified evaluator for closed calls, part R: every operation that is compiled is sound. -/
namespace Go
namespace Abs
section
variable {P : Program} {gs : List Nat} {ds : List (Option Tmp)} {o : Oper}

def COk (P : Program) (gs : List Nat) (ds : List (Option Tmp)) (o : Oper) : CO → Prop
  | .p f => PureOk P gs ds o f
  | .r f => ReadOk P gs ds o f
  | .g f => GenOk P gs ds o f
theorem cok_bad : COk P gs ds o bad := pure_bad
theorem cok_if {b : Bool} {c : CO} (h : b = true → COk P gs ds o c) : COk P gs ds o (bif b then c else bad) := by
  cases b with
  | true => exact h rfl
  | false => exact cok_bad
theorem cok_if' {b : Bool} {c : CO} (h : b = false → COk P gs ds o c) : COk P gs ds o (bif b then bad else c) := by
  cases b with
  | true => exact cok_bad
  | false => exact h rfl
theorem cok_ite {b : Bool} {c d : CO} (h : b = true → COk P gs ds o c) (h' : b = false → COk P gs ds o d) : COk P gs ds o (bif b then c else d) := by
  cases b with
  | true => exact h rfl
  | false => exact h' rfl
theorem isK_some {t : TypeId} (h : isK P t = true) : ∃ d, P.underlying t = some d := Option.isSome_iff_exists.1 h
theorem isAggB_some {t : TypeId} (h : isAggB P t = true) : ∃ d, P.underlying t = some d := by
  unfold isAggB at h
  cases hu : P.underlying t with
  | none => rw [hu] at h; cases h
  | some d => exact ⟨d, rfl⟩
theorem sz_info {t : TypeId} (h : sz P t ≠ 0) : ∃ j, P.info? t = some j ∧ j.size ≠ 0 := by
  unfold sz Program.cellsOf at h
  cases hi : P.info? t with
  | none => simp [hi] at h
  | some j => exact ⟨j, rfl, by simpa [hi] using h⟩
theorem beq_ne {a b : Nat} (h : Nat.beq a b = false) : a ≠ b := fun e => by subst e; rw [Nat.beq_refl] at h; cases h
theorem cInt_ok {op : BinOp} {t yt : TypeId} {x y : Operand} (ho : o.op = .binOp op t x y yt) : COk P gs ds o (cInt op (cOpd gs ds x) (cOpd gs ds y)) := by
  obtain ⟨fn, h1, h2⟩ := pure_int (P := P) (gs := gs) (ds := ds) ho
  rw [h1]; exact h2
theorem cBin_ok {op : BinOp} {t yt : TypeId} {x y : Operand} (ho : o.op = .binOp op t x y yt) : COk P gs ds o (cBin P (cOpd gs ds) op t x y) := by
  unfold cBin
  cases hu : P.underlying t with
  | none => exact cok_bad
  | some d =>
    cases d with
    | int k => exact cInt_ok ho
    | string => exact pure_strOp ho
    | bool => cases op <;> first | exact cok_bad | exact pure_boolEq (neg := false) ho rfl hu | exact pure_boolEq (neg := true) ho rfl hu
    | struct fs =>
      refine cok_if fun hg => ?_
      cases hl : leaves P 100 t 0 with
      | none => exact cok_bad
      | some ls =>
        have ha : isAggB P t = true := by unfold isAggB; rw [hu]
        have hg' : P.eqGuardType P.depth t = false := by simpa using hg
        cases op <;> first | exact cok_bad | exact pure_eqA (neg := false) ho rfl hg' hl ha | exact pure_eqA (neg := true) ho rfl hg' hl ha
    | array n e =>
      refine cok_if fun hg => ?_
      cases hl : leaves P 100 t 0 with
      | none => exact cok_bad
      | some ls =>
        have ha : isAggB P t = true := by unfold isAggB; rw [hu]
        have hg' : P.eqGuardType P.depth t = false := by simpa using hg
        cases op <;> first | exact cok_bad | exact pure_eqA (neg := false) ho rfl hg' hl ha | exact pure_eqA (neg := true) ho rfl hg' hl ha
    | pointer e =>
      have hp : ptrT P t = true → P.cellsOf e ≠ 0 := fun h => by
        unfold ptrT at h; rw [hu] at h
        have h' : (!Nat.beq (sz P e) 0) = true := h
        have h'' : Nat.beq (sz P e) 0 = false := by simpa using h'
        exact beq_ne h''
      dsimp only
      split
      · exact pure_eqNil (neg := false) ho rfl trivial (nilP_key hu)
      · exact pure_eqNil (neg := true) ho rfl trivial (nilP_key hu)
      · exact cok_if fun h => pure_eqP (neg := false) ho rfl hu (hp h)
      · exact cok_if fun h => pure_eqP (neg := true) ho rfl hu (hp h)
      · exact cok_bad
    | func a b c =>
      dsimp only
      split
      · exact pure_eqNil (neg := false) ho rfl trivial (nilF_key hu)
      · exact pure_eqNil (neg := true) ho rfl trivial (nilF_key hu)
      · exact cok_bad
    | slice e =>
      dsimp only
      split
      · exact pure_eqNil (neg := false) ho rfl trivial (nilS_key hu)
      · exact pure_eqNil (neg := true) ho rfl trivial (nilS_key hu)
      · exact cok_bad
    | map k e =>
      dsimp only
      split
      · exact pure_eqNil (neg := false) ho rfl trivial (nilM_key hu)
      · exact pure_eqNil (neg := true) ho rfl trivial (nilM_key hu)
      · exact cok_bad
    | interface ms =>
      dsimp only
      split
      · exact pure_eqNil (neg := false) ho rfl trivial (nilI_key hu)
      · exact pure_eqNil (neg := true) ho rfl trivial (nilI_key hu)
      · exact pure_eqI (neg := false) ho rfl hu
      · exact pure_eqI (neg := true) ho rfl hu
      · exact cok_bad
    | _ => exact cok_bad
theorem cConv_ok {x : Operand} {s d : TypeId} (ho : o.op = .convert s d x) : COk P gs ds o (cConv P (cOpd gs ds x) s d) := by
  unfold cConv
  cases hs : P.underlying s with
  | none => exact cok_bad
  | some a =>
    cases hd : P.underlying d with
    | none => cases a <;> exact cok_bad
    | some b =>
      split
      · rename_i h1 h2; cases h1; cases h2; exact pure_toInt ho hs hd
      · rename_i e h1 h2; cases h1; cases h2
        split
        · rename_i he; exact gen_strBytes ho hs hd he
        · exact cok_bad
      · rename_i e h1 h2; cases h1; cases h2
        split
        · rename_i he; exact read_bytesStr ho hs he hd
        · exact cok_bad
      · rename_i h1 h2; cases h1; cases h2; exact pure_sameStr ho hs hd
      · rename_i e h1 h2; cases h1; cases h2
        refine cok_if' fun h => ?_
        obtain ⟨j, hj, hj0⟩ := sz_info (P := P) (beq_ne h)
        exact read_toUP ho hs hd hj hj0
      · rename_i e h1 h2; cases h1; cases h2
        refine cok_if' fun h => ?_
        rw [Bool.or_eq_false_iff] at h
        obtain ⟨j, hj, hj0⟩ := sz_info (P := P) (beq_ne h.1)
        exact read_ofUP ho hs hd hj (beq_ne h.1) (beq_ne h.2)
      · exact cok_bad
theorem cBuiltin_ok {b : Builtin} {args : Array Operand} {ats : Array TypeId} (ho : o.op = .call { callee := .builtin b, args := args, argTypes := ats }) : COk P gs ds o (cBuiltin P (cOpd gs ds) b args.toList ats.toList) := by
  generalize ha : args.toList = as
  generalize hat : ats.toList = ts
  unfold cBuiltin
  split
  · rename_i x t
    cases hu : P.underlying t with
    | none => exact cok_bad
    | some d =>
      split
      · rename_i h; cases h; exact pure_lenS ho ha hat hu
      · rename_i h; cases h; exact pure_lenL ho ha hat hu
      · rename_i h; cases h; exact pure_lenC ho ha hat (.inl ⟨_, hu⟩)
      · rename_i h; cases h; exact read_lenM ho ha hat hu
      · rename_i h; cases h
        split
        · rename_i h; exact pure_lenC ho ha hat (.inr ⟨_, _, hu, h⟩)
        · exact cok_bad
      · exact cok_bad
  · rename_i x t
    split
    · rename_i h; exact pure_cap ho ha hat h
    · exact cok_bad
  · rename_i x y t u
    split
    · rename_i h1 h2
      refine cok_if' fun _ => ?_
      split
      · rename_i z hz
        refine cok_if fun hb => ?_
        obtain ⟨ti, v, hi, _, _, _, _, hsz⟩ := zeroL_some hz
        have hb := Nat.ble_eq.mp hb
        rw [hsz]
        exact gen_app ho ha hat h1 (.inl ⟨_, h2⟩) hi hz (by simpa [Program.bytesOf, hi] using hb)
      · exact cok_bad
    · rename_i h1 h2
      refine cok_if' fun _ => ?_
      split
      · rename_i z hz
        refine cok_if fun hb => ?_
        obtain ⟨ti, v, hi, _, _, _, _, hsz⟩ := zeroL_some hz
        have hb := Nat.ble_eq.mp hb
        rw [hsz]
        exact gen_appZ ho ha hat h1 h2 hi hz (by simpa [Program.bytesOf, hi] using hb)
      · exact cok_bad
    · rename_i h1 h2
      refine cok_if fun hs1 => ?_
      have hs1 := Nat.eq_of_beq_eq_true hs1
      split
      · rename_i z hz
        refine cok_if fun hb => ?_
        obtain ⟨ti, v, hi, _, _, _, _, hsz⟩ := zeroL_some hz
        have hb := Nat.ble_eq.mp hb
        have h1' : ti.size = 1 := by omega
        rw [← h1']
        exact gen_app ho ha hat h1 (.inr h2) hi hz (by simpa [Program.bytesOf, hi] using hb)
      · exact cok_bad
    · exact cok_bad
  · rename_i x y t u
    split
    · rename_i h1
      split
      · rename_i ti hi; exact gen_cpy ho ha hat h1 hi
      · exact cok_bad
    · exact cok_bad
  · rw [← ha]; exact pure_mnmx (mx := false) ho
  · rw [← ha]; exact pure_mnmx (mx := true) ho
  · rename_i x n t r
    split
    · rename_i e h1
      split
      · rename_i h2
        refine cok_if fun h => ?_
        rw [Bool.and_eq_true] at h
        exact gen_uStr ho ha hat h1 (Nat.eq_of_beq_eq_true h.1) (beq_ne (by simpa using h.2))
      · exact cok_bad
    · exact cok_bad
  · exact pure_uData ho ha
  · exact cok_bad
theorem cCallX_ok {cx : Cx} (hX : XOk P cx.xs) {g : FuncId} {fn : Func} {args : Array Operand} {ats : Array TypeId} (ho : o.op = .call { callee := .value (.func g), args := args, argTypes := ats }) (hfn : P.funcs[g]? = some fn) : COk P cx.gs ds o (cCallX P cx ds fn args.toList g) := by
  unfold cCallX
  cases hk : xk cx.xs g with
  | none => exact cok_if fun _ => gen_callF ho
  | some k =>
    show COk P cx.gs ds o (cExt P k fn (args.toList.map (cOpd cx.gs ds)))
    generalize ha : args.toList = as
    unfold cExt
    split
    · rename_i q hq
      match as, ha, hq with
      | [x], ha, hq =>
        cases hq
        refine cok_ite (fun h => ?_) (fun _ => cok_if fun h => ?_)
        · have := Nat.eq_of_beq_eq_true h; subst this
          exact pure_xSame ho ha hX hk
        · have := Nat.eq_of_beq_eq_true h; subst this
          split
          · rename_i e hre
            refine cok_if fun _ => ?_
            cases hrt : fn.resultTypes[0]? with
            | none => rw [hrt] at hre; cases hre
            | some rt => rw [hrt] at hre; exact gen_mkNZ ho ha hX hk hfn hrt hre
          · exact cok_bad
    · rename_i q r hq
      match as, ha, hq with
      | [x, y], ha, hq =>
        cases hq
        refine cok_ite (fun h => ?_) (fun _ => cok_ite (fun h => ?_) fun _ => cok_if fun h => ?_)
        · have := Nat.eq_of_beq_eq_true h; subst this
          exact read_xCnt ho ha hX hk
        · have := Nat.eq_of_beq_eq_true h; subst this
          exact read_xIxB ho ha hX hk
        · have := Nat.eq_of_beq_eq_true h; subst this
          exact pure_xCmp ho ha hX hk
    · exact cok_bad
theorem cOp_ok {cx : Cx} (hX : CxOk P cx) : COk P cx.gs ds o (cOp P cx ds o) := by
  unfold cOp
  cases ho : o.op <;> dsimp only <;> try exact cok_bad
  case move x => exact pure_move (.inl ho)
  case assign x => exact pure_move (.inr ho)
  case pick a b c => exact pure_pick ho
  case alloc e =>
    cases hz : zeroL P e with
    | none => exact cok_bad
    | some z => exact gen_alloc ho hz
  case box e x => exact gen_box ho
  case build t parts =>
    cases hz : zeroL P t with
    | none => exact cok_bad
    | some z =>
      cases hu : P.underlying t with
      | none => exact cok_bad
      | some d =>
        cases d <;> try exact cok_bad
        case array n e =>
          dsimp only
          split
          · rename_i ie hie
            split
            · rename_i l hl; exact pure_build ho hz (.inr ⟨n, e, ie, hu, hie, rfl⟩) hl
            · exact cok_bad
          · exact cok_bad
        case struct fs =>
          dsimp only
          split
          · rename_i pl hpl
            split
            · rename_i l hl; exact pure_build ho hz (.inl ⟨fs, pl, hu, hpl, rfl⟩) hl
            · exact cok_bad
          · exact cok_bad
  case buildSlice t n parts =>
    split
    · rename_i e hu
      split
      · rename_i z l hz hl
        refine cok_if fun h => ?_
        rw [Bool.and_eq_true] at h
        exact gen_buildS ho hu hz hl (Nat.ble_eq.mp h.1) (Nat.ble_eq.mp h.2)
      · exact cok_bad
    · exact cok_bad
  case load t x =>
    refine cok_ite (fun h => ?_) (fun h => cok_if fun hk => ?_)
    · obtain ⟨d, hd⟩ := isAggB_some h; exact read_loadA ho hd h
    · obtain ⟨d, hd⟩ := isK_some hk; exact read_load1 ho hd h
  case store t x y =>
    refine cok_ite (fun h => ?_) (fun h => cok_if fun hk => ?_)
    · obtain ⟨d, hd⟩ := isAggB_some h; exact gen_storeA ho hd
    · rw [Bool.and_eq_true] at hk
      obtain ⟨d, hd⟩ := isK_some hk.1; exact gen_store1 ho hd (Nat.eq_of_beq_eq_true hk.2)
  case nilCheck x => exact pure_nilChk ho
  case binOp op t x y yt => exact cBin_ok ho
  case unOp op t x => cases op <;> first | exact pure_not ho | exact pure_neg ho | exact pure_xor ho | exact cok_bad
  case convert s d x => exact cConv_ok ho
  case makeInterface t x =>
    split
    · exact cok_bad
    · rename_i d hne hd; exact pure_mkI ho hd (fun ms h => by subst h; exact hne _ rfl)
    · exact cok_bad
  case makeFunc g first cap =>
    cases g <;> first | exact pure_mkF ho | exact cok_bad
  case makeSlice t n m =>
    split
    · rename_i e hu
      split
      · rename_i z hz; exact gen_mkS ho hu hz
      · exact cok_bad
    · exact cok_bad
  case slice t x l h m =>
    split
    · rename_i e hu
      exact cok_if fun hk => by obtain ⟨d, hd⟩ := isK_some hk; exact pure_slS ho hu hd
    · rename_i hu
      cases m with
      | none => exact pure_slStr ho hu
      | some m => exact cok_bad
    · rename_i n e hu
      refine cok_if fun hk => ?_
      rw [Bool.and_eq_true] at hk
      obtain ⟨d, hd⟩ := isK_some hk.1
      have := Nat.ble_eq.mp hk.2
      have hO := open_big
      exact pure_slA ho hu (by omega) hd
    · exact cok_bad
  case fieldAddr s x i =>
    split
    · rename_i fs hu
      split
      · rename_i fd hf
        refine cok_if' fun h => ?_
        rw [Bool.or_eq_false_iff] at h
        obtain ⟨d, hd⟩ := isK_some (P := P) (t := fd.type) (by simpa using h.1)
        exact pure_fldA ho hu hf hd (beq_ne h.2)
      · exact cok_bad
    · exact cok_bad
  case field s x i =>
    split
    · rename_i fs hu
      split
      · rename_i fd hf
        refine cok_ite (fun h => ?_) (fun h => cok_if fun hk => ?_)
        · obtain ⟨d, hd⟩ := isAggB_some h; exact pure_fldV ho hu hf hd h
        · obtain ⟨d, hd⟩ := isK_some hk; exact pure_fld1 ho hu hf hd h
      · exact cok_bad
    · exact cok_bad
  case indexAddr t x i =>
    split
    · rename_i n e hu; exact cok_if fun hk => by obtain ⟨d, hd⟩ := isK_some hk; exact pure_ixArr ho hu hd
    · rename_i e hu; exact cok_if fun hk => by obtain ⟨d, hd⟩ := isK_some hk; exact pure_ixSl ho hu hd
    · exact cok_bad
  case index t x i =>
    split
    · rename_i n e hu
      refine cok_ite (fun h => ?_) (fun h => cok_if fun hk => ?_)
      · obtain ⟨d, hd⟩ := isAggB_some h; exact pure_ixV ho hu hd h
      · rw [Bool.and_eq_true] at hk
        obtain ⟨d, hd⟩ := isK_some hk.1; exact pure_ix1 ho hu hd h (Nat.eq_of_beq_eq_true hk.2)
    · rename_i hu; exact pure_ixStr ho hu
    · exact cok_bad
  case range t x =>
    split
    · rename_i hu; exact gen_rng ho hu
    · exact cok_bad
  case next x s =>
    cases s with
    | true => exact gen_nxt ho
    | false => exact cok_bad
  case typeAssert x xt t ok =>
    split
    · exact cok_bad
    · rename_i d z hne hd hz
      exact cok_if fun h => pure_tAs ho hd (fun ms h => by subst h; exact hne _ rfl) hz h
    · exact cok_bad
  case extract x i => exact pure_ext ho
  case panic x => exact gen_pnc ho
  case call cl =>
    obtain ⟨callee, args, ats⟩ := cl
    dsimp only at ho ⊢
    split
    · rename_i g
      split
      · rename_i fn hfn; exact cCallX_ok hX.1 ho hfn
      · exact cok_bad
    · exact gen_callV ho
    · exact cBuiltin_ok ho
    · exact gen_inv hX.2 ho
  case makeMap t r =>
    cases r with
    | none => exact gen_mkM ho
    | some x =>
      dsimp only
      split
      · rename_i hu; exact gen_mkMh ho hu
      · exact cok_bad
  case lookup t x k ok =>
    split
    · rename_i kt et hu
      split
      · rename_i z hz
        refine cok_if fun h => ?_
        rw [Bool.and_eq_true] at h
        exact read_look ho hu hz h.1 h.2
      · exact cok_bad
    · exact cok_bad
  case mapUpdate t m k v =>
    split
    · rename_i hu; exact cok_if fun h => gen_putM (.inl ho) hu h
    · exact cok_bad
  case insert t m k v =>
    split
    · rename_i hu; exact cok_if fun h => gen_putM (.inr ho) hu h
    · exact cok_bad
end
end Abs
end Go
/- A certified evaluator for closed calls, part S: regions in text order. -/
namespace Go
namespace Abs
section
variable {P : Program}

/- ===== frames between regions ===== -/
structure Inv (live nt : Nat) (f : Map) (tm : T Value) (tmps : Array Value) : Prop where
  env : Env f [] [] tm tmps
  dead : ∀ t, bit live t = false → tm.get (path t) = none
  size : tmps.size = nt
inductive DRel (f : Map) : Df → List Deferred → Prop where
  | nil : DRel f [] []
  | cons {g : FuncId} {args : List Value} {d : Deferred} {df : Df} {ds : List Deferred} (cap : Array Value) (ht : d.target = .fn (.func g) cap) (ha : LRel f args (d.args ++ cap).toList) (hr : DRel f df ds) : DRel f ((g, args) :: df) (d :: ds)
theorem DRel.mono {f g : Map} (hfg : f.le g) {df : Df} {ds : List Deferred} (h : DRel f df ds) : DRel g df ds := by
  induction h with
  | nil => exact .nil
  | cons cap ht ha _ ih => exact .cons cap ht (ha.mono hfg) ih
theorem Inv.mono {live nt : Nat} {f g : Map} {tm : T Value} {tmps : Array Value} (hfg : f.le g) (h : Inv live nt f tm tmps) : Inv live nt g tm tmps := ⟨h.env.mono hfg, h.dead, h.size⟩
/-- an abstract exit, and the exit that it stands for -/
inductive XRel (f : Map) : Ex → Exit → Prop where
  | normal : XRel f .normal .normal
  | exit (id : Nat) : XRel f (.exit id) (.exit id)
  | ret : XRel f .ret .ret
  | panic {c c' : List PanicEntry} (h : ChRel f c c') : XRel f (.panic c) (.panic c')
/-- what a piece of code is to bring: 'wp' is what it is to be shown to do -/
def ROk (live nt : Nat) (f : Map) (h : Hp) (w : World) (r : ResC) (wp : (Exit → Act → World → Prop) → Prop) : Prop := match r with
  | .none => True
  | .ok e tm df h' => ∀ Q : Exit → Act → World → Prop, (∀ f' e' a' w', AStep h h' → CStep f h w f' h' w' → Inv live nt f' tm a'.tmps → DRel f' df a'.defers → XRel f' e e' → Q e' a' w') → wp Q

/- ===== the environment inside a region ===== -/
theorem Env.cons {f : Map} {ds : List (Option Tmp)} {lo : List Value} {tm : T Value} {a : Act} {d : Option Tmp} {v v' : Value} (h : Env f ds lo tm a.tmps) (hv : VRel f v v') (hd : ∀ t, d = some t → t < a.tmps.size) :
    Env f (d :: ds) (v :: lo) tm (a.put d v').tmps := by
  intro t
  cases d with
  | none =>
    refine ⟨fun i hi => ?_, fun hi u hu => ?_⟩
    · have hi' : (idx ds t).map (· + 1) = some i := hi
      cases hj : idx ds t with
      | none => rw [hj] at hi'; cases hi'
      | some j => rw [hj] at hi'; cases hi'; exact (h t).1 j hj
    · have hi' : (idx ds t).map (· + 1) = none := hi
      cases hj : idx ds t with
      | none => exact (h t).2 hj u hu
      | some j => rw [hj] at hi'; cases hi'
  | some e =>
    have he := hd e rfl
    have hput : (a.put (some e) v').tmps = a.tmps.setIfInBounds e v' := rfl
    rw [hput]
    have hidx : idx (some e :: ds) t = bif Nat.beq e t then some 0 else (idx ds t).map (· + 1) := rfl
    by_cases het : e = t
    · subst het
      refine ⟨fun i hi => ?_, fun hi => ?_⟩
      · rw [hidx, Nat.beq_refl] at hi
        cases hi
        show VRel f v _
        rw [show (a.tmps.setIfInBounds e v').getD e undef = v' by simp [Array.getD_eq_getD_getElem?, he]]
        exact hv
      · rw [hidx, Nat.beq_refl] at hi; cases hi
    · have hb : Nat.beq e t = false := by
        cases hb : Nat.beq e t with
        | false => rfl
        | true => exact absurd (Nat.eq_of_beq_eq_true hb) het
      have hget : (a.tmps.setIfInBounds e v').getD t undef = a.tmps.getD t undef := by
        simp [Array.getD_eq_getD_getElem?, Array.getElem?_setIfInBounds, het]
      rw [hget]
      refine ⟨fun i hi => ?_, fun hi u hu => ?_⟩
      · rw [hidx, hb] at hi
        have hi' : (idx ds t).map (· + 1) = some i := hi
        cases hj : idx ds t with
        | none => rw [hj] at hi'; cases hi'
        | some j => rw [hj] at hi'; cases hi'; exact (h t).1 j hj
      · rw [hidx, hb] at hi
        have hi' : (idx ds t).map (· + 1) = none := hi
        cases hj : idx ds t with
        | none => exact (h t).2 hj u hu
        | some j => rw [hj] at hi'; cases hi'
theorem put_size (a : Act) (d : Option Tmp) (v : Value) : (a.put d v).tmps.size = a.tmps.size := by cases d <;> simp [Act.put]
theorem put_defers (a : Act) (d : Option Tmp) (v : Value) : (a.put d v).defers = a.defers := by cases d <;> rfl

/- ===== flushing ===== -/
theorem idx_get {ds : List (Option Tmp)} {t : Tmp} : ∀ {j : Nat}, idx ds t = some j → ds[j]? = some (some t) := by
  induction ds with
  | nil => intro j h; cases h
  | cons d ds ih =>
    intro j h
    have step : (idx ds t).map (· + 1) = some j → (d :: ds)[j]? = some (some t) := fun h' => by
      cases hk : idx ds t with
      | none => rw [hk] at h'; cases h'
      | some k => rw [hk] at h'; cases h'; simpa using ih hk
    cases d with
    | none => exact step h
    | some e =>
      have h' : (bif Nat.beq e t then some 0 else (idx ds t).map (· + 1)) = some j := h
      cases he : Nat.beq e t with
      | true => rw [he] at h'; cases h'; have := Nat.eq_of_beq_eq_true he; subst this; rfl
      | false => rw [he] at h'; exact step h'
theorem isFirst_iff {ds : List (Option Tmp)} {t : Tmp} {i : Nat} : isFirst ds t i = true ↔ idx ds t = some i := by
  unfold isFirst
  cases h : idx ds t with
  | none => simp
  | some j =>
    constructor
    · intro h'; have := Nat.eq_of_beq_eq_true h'; rw [this]
    · intro h'; cases h'; exact Nat.beq_refl _
/-- what stands in a slot after the flush -/
noncomputable def flushed (live : Nat) (ds : List (Option Tmp)) (lo : List Value) (i : Nat) (t : Tmp) (old : Option Value) : Option Value := match idx ds t with
  | some j => if bit live t = true ∧ i ≤ j then some (nth lo j) else old
  | none => old
theorem flushed_next {live : Nat} {ds : List (Option Tmp)} {lo : List Value} {i : Nat} {t : Tmp} {old : Option Value} (h : bit live t = true → idx ds t ≠ some i) : flushed live ds lo (i + 1) t old = flushed live ds lo i t old := by
  unfold flushed
  cases hj : idx ds t with
  | none => rfl
  | some j =>
    dsimp only
    by_cases hl : bit live t = true
    · have : j ≠ i := fun e => h hl (by rw [hj, e])
      by_cases hij : i + 1 ≤ j
      · rw [if_pos ⟨hl, hij⟩, if_pos ⟨hl, by omega⟩]
      · rw [if_neg (fun q => hij q.2), if_neg (fun q => hij (by omega))]
    · rw [if_neg (fun q => hl q.1), if_neg (fun q => hl q.1)]
theorem flush_step {live : Nat} {ds : List (Option Tmp)} {lo : List Value} {i : Nat} {e t : Tmp} {tm : T Value} (hf : (isFlush live e && isFirst ds e i) = true) :
    flushed live ds lo (i + 1) t ((T.set (path e) tm (some (nth lo i))).get (path t)) = flushed live ds lo i t (tm.get (path t)) := by
  rw [Bool.and_eq_true] at hf
  have hi := isFirst_iff.1 hf.2
  rw [get_set_path]
  by_cases h : e = t
  · subst h
    rw [if_pos rfl]
    unfold flushed
    rw [hi]
    dsimp only
    rw [if_neg (fun q => absurd q.2 (by omega)), if_pos ⟨hf.1, Nat.le_refl _⟩]
  · rw [if_neg h]
    refine flushed_next fun _ hj => ?_
    have h1 := idx_get hj
    have h2 := idx_get hi
    rw [h1] at h2
    cases h2
    exact h rfl
theorem flush_skip {live : Nat} {ds : List (Option Tmp)} {lo : List Value} {i : Nat} {d : Option Tmp} {t : Tmp} {old : Option Value} (hd : ds[i]? = some d) (hf : ∀ e, d = some e → (isFlush live e && isFirst ds e i) = false) :
    flushed live ds lo (i + 1) t old = flushed live ds lo i t old := by
  refine flushed_next fun hl hj => ?_
  have h1 := idx_get hj
  rw [hd] at h1
  cases h1
  have := hf t rfl
  rw [isFirst_iff.2 hj, Bool.and_true] at this
  exact absurd hl (by unfold isFlush at this; simp [this])
theorem flushed_end {live : Nat} {ds : List (Option Tmp)} {lo : List Value} {i : Nat} {t : Tmp} {old : Option Value} (h : ds.length ≤ i) : flushed live ds lo i t old = old := by
  unfold flushed
  cases hj : idx ds t with
  | none => rfl
  | some j =>
    have := (List.getElem?_eq_some_iff.1 (idx_get hj)).1
    dsimp only
    rw [if_neg (fun q => absurd q.2 (by omega))]
theorem flushT_get {live : Nat} {ds : List (Option Tmp)} {lo : List Value} : ∀ (r : List (Option Tmp)) (i : Nat) (tm : T Value), ds.drop i = r → ∀ t,
    (flushT live ds lo r i tm).get (path t) = flushed live ds lo i t (tm.get (path t)) := by
  intro r
  induction r with
  | nil =>
    intro i tm hr t
    rw [flushed_end (by have := congrArg List.length hr; simp at this; omega)]; rfl
  | cons d r ih =>
    intro i tm hr t
    have hd : ds[i]? = some d := by
      have := congrArg (fun l => l[0]?) hr
      simpa using this
    have hr' : ds.drop (i + 1) = r := by
      have := congrArg (List.drop 1) hr
      simpa [List.drop_drop, Nat.add_comm] using this
    cases d with
    | none =>
      show (flushT live ds lo r (i + 1) tm).get (path t) = _
      rw [ih (i + 1) tm hr' t, flush_skip hd (fun e he => by cases he)]
    | some e =>
      show (bif isFlush live e && isFirst ds e i then flushT live ds lo r (i + 1) (T.set (path e) tm (some (nth lo i))) else flushT live ds lo r (i + 1) tm).get (path t) = _
      cases hf : (isFlush live e && isFirst ds e i) with
      | true => rw [cond_true, ih (i + 1) _ hr' t]; exact flush_step hf
      | false => rw [cond_false, ih (i + 1) _ hr' t, flush_skip hd (fun e' he => by cases he; exact hf)]
/-- the frame after a region -/
theorem flushed_inv {live nt : Nat} {f : Map} {ds : List (Option Tmp)} {lo : List Value} {tm tm' : T Value} {tmps : Array Value} (h : Env f ds lo tm tmps) (hd : ∀ t, bit live t = false → tm.get (path t) = none) (hs : tmps.size = nt)
    (ht : ∀ t, tm'.get (path t) = flushed live ds lo 0 t (tm.get (path t))) : Inv live nt f tm' tmps := by
  refine ⟨fun t => ⟨fun i hi => (by cases hi), fun _ v hv => ?_⟩, fun t hl => ?_, hs⟩
  · rw [ht] at hv
    unfold flushed at hv
    cases hj : idx ds t with
    | none => rw [hj] at hv; exact (h t).2 hj v hv
    | some j =>
      rw [hj] at hv
      dsimp only at hv
      by_cases hl : bit live t = true
      · rw [if_pos ⟨hl, Nat.zero_le _⟩] at hv
        cases hv
        exact (h t).1 j hj
      · rw [if_neg (fun q => hl q.1), hd t (by simpa using hl)] at hv; cases hv
  · rw [ht]
    unfold flushed
    cases hj : idx ds t with
    | none => exact hd t hl
    | some j =>
      dsimp only
      rw [if_neg (fun q => by rw [hl] at q; cases q.1)]
      exact hd t hl
theorem go_inv {live nt : Nat} {f : Map} {ds : List (Option Tmp)} {lo : List Value} {tm : T Value} {tmps : Array Value} (h : Env f ds lo tm tmps) (hd : ∀ t, bit live t = false → tm.get (path t) = none) (hs : tmps.size = nt) :
    Inv live nt f (Fl.go (live, ds) lo tm) tmps := flushed_inv h hd hs fun t => flushT_get ds 0 tm rfl t
theorem cFlush_eq {live : Nat} {ds : List (Option Tmp)} {lo : List Value} {call : Call} {df : Df} {h : Hp} : ∀ (r : List (Option Tmp)) (i : Nat) (tm : T Value), exL (cFlush live ds r i) call lo tm df h = .ok .normal (flushT live ds lo r i tm) df h := by
  intro r
  induction r with
  | nil => intro i tm; rfl
  | cons d r ih =>
    intro i tm
    cases d with
    | none => exact ih (i + 1) tm
    | some t =>
      show exL (bif isFlush live t && isFirst ds t i then .flush i (path t) (cFlush live ds r (i + 1)) else cFlush live ds r (i + 1)) call lo tm df h = .ok .normal (bif isFlush live t && isFirst ds t i then flushT live ds lo r (i + 1) (T.set (path t) tm (some (nth lo i))) else flushT live ds lo r (i + 1) tm) df h
      cases isFlush live t && isFirst ds t i with
      | true =>
        show T.setK (path t) tm (some (nth lo i)) (fun tm => exL (cFlush live ds r (i + 1)) call lo tm df h) = _
        rw [T.setK_eq, ih]; rfl
      | false => exact ih (i + 1) tm
/-- what one operation is to bring: 'K' is what comes after it -/
theorem op_step {live nt : Nat} {gs : List Nat} {ds : List (Option Tmp)} {o : Oper} {co : CO} {call : Call} {lo : List Value} {tm : T Value} {df : Df} {h : Hp} {f : Map} {a : Act} {w : World} {rest : CL}
    {K : (Exit → Act → World → Prop) → Act → World → Prop}
    (hcall : CallOk P gs call) (hc : COk P gs ds o co) (hG : GRel gs f) (hE : Env f ds lo tm a.tmps) (hd : ∀ t, bit live t = false → tm.get (path t) = none) (hs : a.tmps.size = nt) (hr : HRel f h w) (hD : DRel f df a.defers) (hdst : ∀ t, o.dst = some t → t < nt)
    (ih : ∀ v v' h1 f1 w1, CStep f h w f1 h1 w1 → AStep h h1 → Env f1 (o.dst :: ds) (v :: lo) tm (a.put o.dst v').tmps → HRel f1 h1 w1 → DRel f1 df (a.put o.dst v').defers → ROk live nt f1 h1 w1 (exL rest call (v :: lo) tm df h1) (fun Q => K Q (a.put o.dst v') w1)) :
    ROk live nt f h w (lCO (live, ds) co (exL rest) call lo tm df h) (fun Q => o.wp P a w (K Q) Q) := by
  have hdst' : ∀ t, o.dst = some t → t < a.tmps.size := fun t ht => by rw [hs]; exact hdst t ht
  -- one related step after which the rest runs
  have key : ∀ v h1, (∀ next Q, (∀ f' v' w', AStep h h1 → CStep f h w f' h1 w' → VRel f' v v' → next (a.put o.dst v') w') → o.wp P a w next Q) → ROk live nt f h w (exL rest call (v :: lo) tm df h1) (fun Q => o.wp P a w (K Q) Q) := fun v h1 hop => by
    have hrest : ∀ f' v' w', AStep h h1 → CStep f h w f' h1 w' → VRel f' v v' → ROk live nt f' h1 w' (exL rest call (v :: lo) tm df h1) (fun Q => K Q (a.put o.dst v') w') := fun f' v' w' hA hC hV =>
      ih v v' h1 f' w' hC hA (Env.cons (hE.mono hC.le) hV hdst') hC.rel (by rw [put_defers]; exact hD.mono hC.le)
    revert hrest
    cases exL rest call (v :: lo) tm df h1 with
    | none => intro _; trivial
    | ok e tm' df' h' =>
      intro hrest Q hQ
      refine hop (K Q) Q fun f' v' w' hA hC hV => hrest f' v' w' hA hC hV Q fun f2 e2 a2 w2 hA2 hC2 hI hDD hX => ?_
      exact hQ f2 e2 a2 w2 (hA.trans hA2) (hC.trans hA hA2 hC2) hI hDD hX
  have pure : ∀ v, (∃ v', (execOp a.eval o).run P w = .ok (.value v') w ∧ VRel f v v') → ROk live nt f h w (exL rest call (v :: lo) tm df h) (fun Q => o.wp P a w (K Q) Q) := fun v ⟨v', h1, h2⟩ =>
    key v h fun next Q hk => by
      unfold Oper.wp
      rw [h1]
      exact hk f v' w (AStep.refl h) (CStep.refl hr) h2
  cases co with
  | p fn =>
    show ROk live nt f h w (oEl (fn lo tm) (fun v => exL rest call (v :: lo) tm df h) .none) _
    cases hv : fn lo tm with
    | none => trivial
    | some v => exact pure v (hc lo tm v hv f a w hG hE)
  | r fn =>
    have h1 : ReadOk1 P f a o w (fn lo tm) := hc lo tm f a w hG hE
    show ROk live nt f h w (prK h (fn lo tm) (fun v => exL rest call (v :: lo) tm df h)) _
    revert h1
    cases fn lo tm with
    | none => intro _; trivial
    | val v => intro h1; exact pure v h1
    | read b g =>
      intro ⟨i, hi, h1⟩
      show ROk live nt f h w (oEl (h.bl.get (path b)) (fun ob => oEl (g ob) (fun v => exL rest call (v :: lo) tm df h) .none) .none) _
      cases hb : h.bl.get (path b) with
      | none => trivial
      | some ob =>
        show ROk live nt f h w (oEl (g ob) (fun v => exL rest call (v :: lo) tm df h) .none) _
        cases hg : g ob with
        | none => trivial
        | some v =>
          obtain ⟨x, hx, hor⟩ := hr.obj b ob i hi hb
          exact pure v (h1 ob v x hg hx hor)
  | g fn =>
    have h1 : GenOk1 P f h w a o (fn call lo tm h) := hc call hcall lo tm f h a w hG hE hr
    show ROk live nt f h w (finC (Fl.go (live, ds) lo tm) df (fun v h => exL rest call (v :: lo) tm df h) (fn call lo tm h)) _
    revert h1
    cases fn call lo tm h with
    | none => intro _; trivial
    | val v h1 => intro hg; exact key v h1 hg
    | panic c h1 =>
      intro hg Q hQ
      exact hg (K Q) Q fun f' c' w' hA hC hch => hQ f' _ a w' hA hC (go_inv (hE.mono hC.le) hd hs) (hD.mono hC.le) (.panic hch)
end
end Abs
end Go
/- A certified evaluator for closed calls, part T: regions in text order, whole; code. -/
namespace Go
namespace Abs
section
variable {P : Program}

theorem exL_consL (fl : Fl) (co : CO) (r : CL) : exL (consL fl co r) = lCO fl co (exL r) := by cases co <;> rfl
theorem vGuard_or {R : Type} {f : Map} {v v' : Value} {want : Bool} (h : VRel f v v') (y n z : R) : (∃ b, v' = .bool b ∧ vGuard v want y n z = if b = want then y else n) ∨ ((∃ xs, v' = .tuple xs) ∧ vGuard v want y n z = n) ∨ vGuard v want y n z = z := by
  cases h with
  | bool b => refine .inl ⟨b, rfl, ?_⟩; cases b <;> cases want <;> rfl
  | tuple a a' hs h => exact .inr (.inl ⟨⟨a', rfl⟩, rfl⟩)
  | _ => exact .inr (.inr rfl)
theorem wanted_bool {ops : Array Oper} {o : Oper} {a : Act} {j : Nat} {want b : Bool} {d : Tmp} (hg : o.guard = some (j, want)) (hd : (ops[j]?).bind (·.dst) = some d) (hv : a.tmps.getD d undef = .bool b) : Region.wanted o (yielded ops a.tmps) = (b == want) := by
  have ht : a.tmps[d]? = some (.bool b) := by
    rw [Array.getD_eq_getD_getElem?] at hv
    cases h : a.tmps[d]? with
    | none => rw [h] at hv; cases hv
    | some v => rw [h] at hv; cases hv; rfl
  unfold Region.wanted yielded
  rw [hg]
  simp only [hd, Option.bind_some, ht]
  cases b <;> cases want <;> rfl
theorem wanted_tuple {ops : Array Oper} {o : Oper} {a : Act} {j : Nat} {want : Bool} {d : Tmp} {xs : Array Value} (hg : o.guard = some (j, want)) (hd : (ops[j]?).bind (·.dst) = some d) (hv : a.tmps.getD d undef = .tuple xs) : Region.wanted o (yielded ops a.tmps) = false := by
  have ht : a.tmps[d]? = none ∨ ∃ xs, a.tmps[d]? = some (.tuple xs) := by
    rw [Array.getD_eq_getD_getElem?] at hv
    cases h : a.tmps[d]? with
    | none => exact .inl rfl
    | some v => rw [h] at hv; exact .inr ⟨xs, by cases hv; rfl⟩
  unfold Region.wanted yielded
  rw [hg]
  simp only [hd, Option.bind_some]
  rcases ht with h | ⟨ys, h⟩ <;> rw [h] <;> cases want <;> rfl
theorem ROk.mono {live nt : Nat} {f : Map} {h : Hp} {w : World} {r : ResC} {wp wp' : (Exit → Act → World → Prop) → Prop} (hk : ROk live nt f h w r wp) (hw : ∀ Q, wp Q → wp' Q) : ROk live nt f h w r wp' := by
  cases r with
  | none => trivial
  | ok e tm df h' => exact fun Q hQ => hw Q (hk Q hQ)
theorem ops_ok {cx : Cx} {live nt : Nat} {ops : Array Oper} {call : Call} (hX : CxOk P cx) (hcall : CallOk P cx.gs call) : ∀ (l : List Oper) (k : Nat) (ds : List (Option Tmp)), ops.toList.drop k = l →
    ∀ (lo : List Value) (tm : T Value) (df : Df) (h : Hp) (f : Map) (a : Act) (w : World), GRel cx.gs f → Env f ds lo tm a.tmps → (∀ t, bit live t = false → tm.get (path t) = none) → a.tmps.size = nt → HRel f h w → DRel f df a.defers →
    ROk live nt f h w (exL (cOps P cx live nt ops l ds) call lo tm df h) (fun Q => wpOps P ops Q (List.range' k l.length) a w) := by
  intro l
  induction l with
  | nil =>
    intro k ds _ lo tm df h f a w hG hE hd hs hr hD
    show ROk live nt f h w (exL (cFlush live ds ds 0) call lo tm df h) _
    rw [cFlush_eq]
    intro Q hQ
    exact hQ f .normal a w (AStep.refl h) (CStep.refl hr) (go_inv hE hd hs) hD .normal
  | cons o l ih =>
    intro k ds hk lo tm df h f a w hG hE hd hs hr hD
    have hok : ops[k]? = some o := by
      have := congrArg (fun l => l[0]?) hk
      simpa using this
    have hk' : ops.toList.drop (k + 1) = l := by
      have := congrArg (List.drop 1) hk
      simpa [List.drop_drop, Nat.add_comm] using this
    have hwp : ∀ Q, wpOps P ops Q (List.range' k (o :: l).length) a w = (if Region.wanted o (yielded ops a.tmps) then o.wp P a w (wpOps P ops Q (List.range' (k + 1) l.length)) Q ∨ (o.asks P a w ∧ LetsOut Q) else wpOps P ops Q (List.range' (k + 1) l.length) (a.put o.dst undef) w) := fun Q => by
      rw [List.length_cons, List.range'_succ]
      simp only [wpOps, hok]
    have hcons : cOps P cx live nt ops (o :: l) ds = bif okDst nt o.dst then (match o.guard with
      | none => (match o.op with
        | .defer cl => (match cl.callee with
          | .value f => .dfr (cOpd cx.gs ds f) (cl.args.toList.map (cOpd cx.gs ds)) (cOps P cx live nt ops l (o.dst :: ds))
          | _ => .bad)
        | _ => consL (live, ds) (cOp P cx ds o) (cOps P cx live nt ops l (o.dst :: ds)))
      | some (j, want) => match (ops[j]?).bind (·.dst) with
        | some d => .guard (live, ds) (cOpd cx.gs ds (.tmp d)) want (cOp P cx ds o) (cOps P cx live nt ops l (o.dst :: ds))
        | none => .bad) else .bad := rfl
    rw [hcons]
    cases hdst : okDst nt o.dst with
    | false => trivial
    | true =>
    have hdst' : ∀ t, o.dst = some t → t < nt := fun t ht => by
      unfold okDst at hdst; rw [ht] at hdst
      exact Nat.blt_eq.mp hdst
    have hdst2 : ∀ t, o.dst = some t → t < a.tmps.size := fun t ht => by rw [hs]; exact hdst' t ht
    rw [cond_true]
    have hop : ROk live nt f h w (lCO (live, ds) (cOp P cx ds o) (exL (cOps P cx live nt ops l (o.dst :: ds))) call lo tm df h) (fun Q => o.wp P a w (wpOps P ops Q (List.range' (k + 1) l.length)) Q) :=
      op_step (K := fun Q => wpOps P ops Q (List.range' (k + 1) l.length)) hcall (cOp_ok hX) hG hE hd hs hr hD hdst' fun v v' h1 f1 w1 hC hA hE1 hr1 hD1 =>
        ih (k + 1) (o.dst :: ds) hk' (v :: lo) tm df h1 f1 (a.put o.dst v') w1 (hG.mono hC.le) hE1 hd (by rw [put_size]; exact hs) hr1 hD1
    cases hg : o.guard with
    | none =>
      have hwant : Region.wanted o (yielded ops a.tmps) = true := by unfold Region.wanted; rw [hg]
      have hw2 : ∀ Q, wpOps P ops Q (List.range' k (o :: l).length) a w = (o.wp P a w (wpOps P ops Q (List.range' (k + 1) l.length)) Q ∨ (o.asks P a w ∧ LetsOut Q)) := fun Q => by rw [hwp, if_pos hwant]
      dsimp only
      split
      · rename_i cl hcl
        split
        · rename_i x hx
          show ROk live nt f h w (vFn (rdO (cOpd cx.gs ds x) lo tm) (fun g first cap => exL (cOps P cx live nt ops l (o.dst :: ds)) call (undef :: lo) tm ((g, first ++ (rdL (cl.args.toList.map (cOpd cx.gs ds)) lo tm ++ cap)) :: df) h) .none) _
          have hxr := rdO_rel hG hE x
          have hlr := rdL_rel hG hE cl.args.toList
          rcases vFn_or (rdO (cOpd cx.gs ds x) lo tm) (fun g first cap => exL (cOps P cx live nt ops l (o.dst :: ds)) call (undef :: lo) tm ((g, first ++ (rdL (cl.args.toList.map (cOpd cx.gs ds)) lo tm ++ cap)) :: df) h) ResC.none with ⟨g, fi, cp, e, h1⟩ | h1
          · rw [h1]; rw [e] at hxr
            obtain ⟨fi', cp', hxe, hf1, hc1⟩ := hxr.fn_inv
            have hrun : (execOp a.eval o).run P w = .ok (.defer { target := .fn (.func g) cp', args := fi' ++ cl.args.map a.eval }) w := by
              obtain ⟨callee, args, ats⟩ := cl
              dsimp only at hx
              subst hx
              simp [execOp, hcl, resolve, hxe, Deferred.ofValue]
            have := ih (k + 1) (o.dst :: ds) hk' (undef :: lo) tm ((g, fi.toList ++ (rdL (cl.args.toList.map (cOpd cx.gs ds)) lo tm ++ cp.toList)) :: df) h f ({ a with defers := { target := .fn (.func g) cp', args := fi' ++ cl.args.map a.eval } :: a.defers }.put o.dst undef) w hG
              (Env.cons (a := { a with defers := { target := .fn (.func g) cp', args := fi' ++ cl.args.map a.eval } :: a.defers }) hE (VRel.undef f) hdst2) hd (by rw [put_size]; exact hs) hr (by
                rw [put_defers]
                refine .cons cp' rfl ?_ hD
                have := hf1.append (hlr.append hc1)
                simpa [List.append_assoc] using this)
            refine this.mono fun Q hQ => ?_
            rw [hw2]
            refine .inl ?_
            unfold Oper.wp
            rw [hrun]
            exact hQ
          · rw [h1]; trivial
        · trivial
      · rw [exL_consL]
        exact hop.mono fun Q hQ => by rw [hw2]; exact .inl hQ
    | some p =>
      obtain ⟨j, want⟩ := p
      dsimp only
      cases hd2 : (ops[j]?).bind (·.dst) with
      | none => trivial
      | some d =>
        show ROk live nt f h w (vGuard (rdO (cOpd cx.gs ds (.tmp d)) lo tm) want (lCO (live, ds) (cOp P cx ds o) (exL (cOps P cx live nt ops l (o.dst :: ds))) call lo tm df h) (exL (cOps P cx live nt ops l (o.dst :: ds)) call (undef :: lo) tm df h) .none) _
        have hskip : ROk live nt f h w (exL (cOps P cx live nt ops l (o.dst :: ds)) call (undef :: lo) tm df h) (fun Q => wpOps P ops Q (List.range' (k + 1) l.length) (a.put o.dst undef) w) :=
          ih (k + 1) (o.dst :: ds) hk' (undef :: lo) tm df h f (a.put o.dst undef) w hG (Env.cons hE (VRel.undef f) hdst2) hd (by rw [put_size]; exact hs) hr (by rw [put_defers]; exact hD)
        have hgr : VRel f (rdO (cOpd cx.gs ds (.tmp d)) lo tm) (a.tmps.getD d undef) := rdO_rel hG hE (.tmp d)
        rcases vGuard_or (want := want) hgr (lCO (live, ds) (cOp P cx ds o) (exL (cOps P cx live nt ops l (o.dst :: ds))) call lo tm df h) (exL (cOps P cx live nt ops l (o.dst :: ds)) call (undef :: lo) tm df h) .none with ⟨b, hb, h1⟩ | ⟨⟨ys, hb⟩, h1⟩ | h1
        · rw [h1]
          have hwant := wanted_bool (o := o) (a := a) hg hd2 hb
          by_cases hbw : b = want
          · rw [if_pos hbw]
            refine hop.mono fun Q hQ => ?_
            rw [hwp, hwant, if_pos (by simpa using hbw)]
            exact .inl hQ
          · rw [if_neg hbw]
            refine hskip.mono fun Q hQ => ?_
            rw [hwp, hwant, if_neg (by simpa using hbw)]
            exact hQ
        · rw [h1]
          have hwant := wanted_tuple (o := o) (a := a) hg hd2 hb
          refine hskip.mono fun Q hQ => ?_
          rw [hwp, hwant]
          exact hQ
        · rw [h1]; trivial
theorem region_ok {cx : Cx} {live nt id : Nat} {ops : Array Oper} {call : Call} (hX : CxOk P cx) (hcall : CallOk P cx.gs call) {tm : T Value} {df : Df} {h : Hp} {f : Map} {a : Act} {w : World} (hG : GRel cx.gs f) (hI : Inv live nt f tm a.tmps) (hr : HRel f h w) (hD : DRel f df a.defers) :
    ROk live nt f h w (exL (cOps P cx live nt ops ops.toList []) call [] tm df h) (fun Q => (Code.region id ops false).wp P Q a w) := by
  refine (ops_ok (cx := cx) (ops := ops) hX hcall ops.toList 0 [] rfl [] tm df h f a w hG hI.env hI.dead hI.size hr hD).mono fun Q hQ => ?_
  refine wp_region ?_
  rw [List.range_eq_range']
  simpa using hQ
end
end Abs
end Go
/- A certified evaluator for closed calls, part U: code. -/
namespace Go
namespace Abs
section
variable {P : Program}

/-- drawn regions: to be shown elsewhere -/
def DrawOk (P : Program) (cx : Cx) : Prop := ∀ (live nt id : Nat) (ops : Array Oper) (call : Call), CallOk P cx.gs call → ∀ (tm : T Value) (df : Df) (h : Hp) (f : Map) (a : Act) (w : World), GRel cx.gs f → Inv live nt f tm a.tmps → HRel f h w → DRel f df a.defers →
  ROk live nt f h w (exC (cCode P cx live nt (.region id ops true)) call tm df h) (fun Q => (Code.region id ops true).wp P Q a w)
/-- one piece of code and what comes after it, where it ends normally -/
theorem ROk.seq {live nt : Nat} {f : Map} {h : Hp} {w : World} {r : ResC} {wp1 wp : (Exit → Act → World → Prop) → Prop} {kn : T Value → Df → Hp → ResC} {nx : (Exit → Act → World → Prop) → Act → World → Prop}
    (h1 : ROk live nt f h w r wp1)
    (hn : ∀ tm df h1 f1 a1 w1, AStep h h1 → CStep f h w f1 h1 w1 → Inv live nt f1 tm a1.tmps → DRel f1 df a1.defers → ROk live nt f1 h1 w1 (kn tm df h1) (fun Q => nx Q a1 w1))
    (hw : ∀ Q, wp1 (Exit.then (nx Q) Q) → wp Q) : ROk live nt f h w (exK r kn (fun i tm df h => .ok (.exit i) tm df h)) wp := by
  cases r with
  | none => trivial
  | ok e tm df h' =>
    cases e with
    | normal =>
      show ROk live nt f h w (kn tm df h') wp
      have hn' := hn tm df h'
      revert hn'
      cases kn tm df h' with
      | none => intro _; trivial
      | ok e2 tm2 df2 h2 =>
        intro hn' Q hQ
        refine hw Q (h1 _ fun f' e' a' w' hA hC hI hD hX => ?_)
        cases hX
        exact hn' f' a' w' hA hC hI hD Q fun f2 e2 a2 w2 hA2 hC2 hI2 hD2 hX2 => hQ f2 e2 a2 w2 (hA.trans hA2) (hC.trans hA hA2 hC2) hI2 hD2 hX2
    | exit i => exact fun Q hQ => hw Q (h1 _ fun f' e' a' w' hA hC hI hD hX => by cases hX; exact hQ f' _ a' w' hA hC hI hD (.exit i))
    | ret => exact fun Q hQ => hw Q (h1 _ fun f' e' a' w' hA hC hI hD hX => by cases hX; exact hQ f' _ a' w' hA hC hI hD .ret)
    | panic c => exact fun Q hQ => hw Q (h1 _ fun f' e' a' w' hA hC hI hD hX => by cases hX with | panic hc => exact hQ f' _ a' w' hA hC hI hD (.panic hc))
/-- a loop, from the beginning of a round on -/
def LoopWp (P : Program) (c : Code) (Q : Exit → Act → World → Prop) (a : Act) (w : World) : Prop := ∀ (b : Frame) (k : List Item) (cs : List Frame), ∃ e a' w', Q e a' w' ∧ Arrives P (lone (b.at a (.code c :: .inLoop c :: k)) cs w) b k cs e a' w'
theorem loop_round {c : Code} {Q : Exit → Act → World → Prop} {a : Act} {w : World} (h : c.wp P (Exit.then (LoopWp P c Q) Q) a w) : LoopWp P c Q a w := by
  intro b k cs
  obtain ⟨e, a₁, w₁, hq, harr⟩ := h b (.inLoop c :: k) cs
  cases e with
  | normal =>
    obtain ⟨e₂, a₂, w₂, hq₂, harr₂⟩ := hq b k cs
    exact ⟨e₂, a₂, w₂, hq₂, .of_steps (Steps.trans harr (.one step_inLoop)) harr₂⟩
  | exit id => exact ⟨_, a₁, w₁, hq, .pass (x := .inLoop c) rfl (fun _ _ => .inl (by simp)) harr⟩
  | goto l => exact ⟨_, a₁, w₁, hq, .pass (x := .inLoop c) rfl (fun _ _ => .inl (by simp)) harr⟩
  | ret => exact ⟨_, a₁, w₁, hq, .pass (x := .inLoop c) rfl (fun _ _ => .inl (by simp)) harr⟩
  | panic ch => exact ⟨_, a₁, w₁, hq, .pass (x := .inLoop c) rfl (fun _ _ => .inl (by simp)) harr⟩
  | outgrown => exact ⟨_, a₁, w₁, hq, .pass (x := .inLoop c) rfl (fun _ _ => .inl (by simp)) harr⟩
theorem loop_wp {c : Code} {Q : Exit → Act → World → Prop} {a : Act} {w : World} (h : LoopWp P c Q a w) : (Code.loop c).wp P Q a w := fun b k cs =>
  let ⟨e, a', w', hq, harr⟩ := h b k cs; ⟨e, a', w', hq, .of_steps (.one step_loop) harr⟩
theorem code_ok {cx : Cx} {live nt : Nat} {call : Call} (hX : CxOk P cx) (hdraw : DrawOk P cx) (hcall : CallOk P cx.gs call) : ∀ (c : Code) (tm : T Value) (df : Df) (h : Hp) (f : Map) (a : Act) (w : World), GRel cx.gs f → Inv live nt f tm a.tmps → HRel f h w → DRel f df a.defers →
    ROk live nt f h w (exC (cCode P cx live nt c) call tm df h) (fun Q => c.wp P Q a w) := by
  intro c
  induction c with
  | skip =>
    intro tm df h f a w hG hI hr hD
    exact fun Q hQ => wp_skip (hQ f .normal a w (AStep.refl h) (CStep.refl hr) hI hD .normal)
  | region id ops draw =>
    intro tm df h f a w hG hI hr hD
    cases draw with
    | true => exact hdraw live nt id ops call hcall tm df h f a w hG hI hr hD
    | false => exact region_ok hX hcall hG hI hr hD
  | seq x y ihx ihy =>
    intro tm df h f a w hG hI hr hD
    exact ROk.seq (nx := fun Q a w => y.wp P Q a w) (ihx tm df h f a w hG hI hr hD) (fun tm df h1 f1 a1 w1 hA hC hI1 hD1 => ihy tm df h1 f1 a1 w1 (hG.mono hC.le) hI1 hC.rel hD1) (fun Q h => wp_seq h)
  | cond c x y ihx ihy =>
    intro tm df h f a w hG hI hr hD
    have hc := rdO_rel hG hI.env c
    show ROk live nt f h w (vBool (rdO (cOpd cx.gs [] c) [] tm) (fun b' => Bool.rec (motive := fun _ => ResC) (exC (cCode P cx live nt y) call tm df h) (exC (cCode P cx live nt x) call tm df h) b') .none) _
    rcases vBool_or (rdO (cOpd cx.gs [] c) [] tm) (fun b' => Bool.rec (motive := fun _ => ResC) (exC (cCode P cx live nt y) call tm df h) (exC (cCode P cx live nt x) call tm df h) b') .none with ⟨b, e, h1⟩ | h1
    · rw [h1]; rw [e] at hc
      have hb := hc.not_top
      cases b with
      | true => exact (ihx tm df h f a w hG hI hr hD).mono fun Q hQ => wp_cond hb hQ
      | false => exact (ihy tm df h f a w hG hI hr hD).mono fun Q hQ => wp_cond hb hQ
    · rw [h1]; trivial
  | block id b ih =>
    intro tm df h f a w hG hI hr hD
    have h1 := ih tm df h f a w hG hI hr hD
    show ROk live nt f h w (exK (exC (cCode P cx live nt b) call tm df h) (fun tm df h => .ok .normal tm df h) (fun i tm df h => bif Nat.beq i id then .ok .normal tm df h else .ok (.exit i) tm df h)) _
    revert h1
    cases exC (cCode P cx live nt b) call tm df h with
    | none => intro _; trivial
    | ok e tm1 df1 h1 =>
      intro hk
      cases e with
      | normal => exact fun Q hQ => wp_block (hk _ fun f' e' a' w' hA hC hI hD hX => by cases hX; exact hQ f' .normal a' w' hA hC hI hD .normal)
      | ret => exact fun Q hQ => wp_block (hk _ fun f' e' a' w' hA hC hI hD hX => by cases hX; exact hQ f' .ret a' w' hA hC hI hD .ret)
      | panic c => exact fun Q hQ => wp_block (hk _ fun f' e' a' w' hA hC hI hD hX => by cases hX with | panic hc => exact hQ f' _ a' w' hA hC hI hD (.panic hc))
      | exit i =>
        show ROk live nt f h w (bif Nat.beq i id then .ok .normal tm1 df1 h1 else .ok (.exit i) tm1 df1 h1) _
        cases hi : Nat.beq i id with
        | true =>
          have := Nat.eq_of_beq_eq_true hi; subst this
          exact fun Q hQ => wp_block (hk _ fun f' e' a' w' hA hC hI hD hX => by
            cases hX
            show (if i = i then Q .normal a' w' else Q (.exit i) a' w')
            rw [if_pos rfl]
            exact hQ f' .normal a' w' hA hC hI hD .normal)
        | false =>
          have hne := beq_ne hi
          exact fun Q hQ => wp_block (hk _ fun f' e' a' w' hA hC hI hD hX => by
            cases hX
            show (if i = id then Q .normal a' w' else Q (.exit i) a' w')
            rw [if_neg hne]
            exact hQ f' (.exit i) a' w' hA hC hI hD (.exit i))
  | loop b ih =>
    intro tm df h f a w hG hI hr hD
    have main : ∀ (n : Nat) (tm : T Value) (df : Df) (h : Hp) (f : Map) (a : Act) (w : World), GRel cx.gs f → Inv live nt f tm a.tmps → HRel f h w → DRel f df a.defers → ROk live nt f h w (loopN (exC (cCode P cx live nt b)) n call tm df h) (fun Q => LoopWp P b Q a w) := by
      intro n
      induction n with
      | zero => intros; trivial
      | succ n ihn =>
        intro tm df h f a w hG hI hr hD
        exact ROk.seq (nx := fun Q a w => LoopWp P b Q a w) (ih tm df h f a w hG hI hr hD) (fun tm df h1 f1 a1 w1 hA hC hI1 hD1 => ihn tm df h1 f1 a1 w1 (hG.mono hC.le) hI1 hC.rel hD1) (fun Q h => loop_round h)
    exact (main 1000000 tm df h f a w hG hI hr hD).mono fun Q hQ => loop_wp hQ
  | exit id =>
    intro tm df h f a w hG hI hr hD
    exact fun Q hQ => wp_exit (hQ f (.exit id) a w (AStep.refl h) (CStep.refl hr) hI hD (.exit id))
  | ret =>
    intro tm df h f a w hG hI hr hD
    exact fun Q hQ => wp_ret (hQ f .ret a w (AStep.refl h) (CStep.refl hr) hI hD .ret)
  | _ => intros; trivial
end
end Abs
end Go
