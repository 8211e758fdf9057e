/-
AuditTexts: the settings that are made are right.
Conditions: none.
-/
import Derived.Test.YtgamdeginkngaaaGreatDoorRunV
set_option linter.unusedVariables false
set_option linter.unusedSimpArgs false
namespace Go
namespace Abs
theorem lLt_cons (a b : UInt8) (x y : List UInt8) : lLt (a :: x) (b :: y) = bif Nat.blt a.toNat b.toNat then true else bif bEq a b then lLt x y else false := rfl
theorem lLt_tri : ∀ (x y : List UInt8), lLt x y = false → lEq x y = false → lLt y x = true := by
  intro x
  induction x with
  | nil =>
    intro y h1 h2
    cases y with
    | nil => cases h2
    | cons b y => cases h1
  | cons a x ih =>
    intro y h1 h2
    cases y with
    | nil => rfl
    | cons b y =>
      rw [lLt_cons] at h1 ⊢
      rw [lEq_eq] at h2
      have hb : bEq a b = (a == b) := by
        have := lEq_eq [a] [b]
        have e : lEq [a] [b] = bif bEq a b then true else false := rfl
        rw [e] at this
        cases hh : bEq a b <;> rw [hh] at this <;> simp at this ⊢ <;> first | exact this | exact this.symm | (intro h; exact absurd h (by simpa using this))
      have hb' : bEq b a = (b == a) := by
        have := lEq_eq [b] [a]
        have e : lEq [b] [a] = bif bEq b a then true else false := rfl
        rw [e] at this
        cases hh : bEq b a <;> rw [hh] at this <;> simp at this ⊢ <;> first | exact this | exact this.symm | (intro h; exact absurd h (by simpa using this))
      rw [hb] at h1
      rw [hb']
      by_cases hlt : a.toNat < b.toNat
      · rw [z_blt hlt] at h1; cases h1
      · rw [z_bltF (by omega), cond_false] at h1
        by_cases hgt : b.toNat < a.toNat
        · rw [z_blt hgt]; rfl
        · have hab : a = b := UInt8.toNat_inj.1 (by omega)
          subst hab
          rw [z_bltF (by omega), cond_false]
          simp only [beq_self_eq_true, cond_true] at h1 ⊢
          refine ih y h1 ?_
          rw [lEq_eq]
          simpa using h2
/-- in its place -/
noncomputable def insV (v : ByteArray × ByteArray) : List (ByteArray × ByteArray) → List (ByteArray × ByteArray)
  | [] => [v]
  | x :: r => if lLt (bl v.1) (bl x.1) = true then v :: x :: r else x :: insV v r
theorem intoGo_true (v : ByteArray × ByteArray) : ∀ (l out : List (ByteArray × ByteArray)), intoGo v l true out = out ++ l := by
  intro l
  induction l with
  | nil => intro out; show (if true = true then out else out ++ [v]) = _; simp
  | cons x r ih => intro out; rw [intoGo_cons]; simp [ih]
theorem intoGo_false (v : ByteArray × ByteArray) : ∀ (l out : List (ByteArray × ByteArray)), intoGo v l false out = out ++ insV v l := by
  intro l
  induction l with
  | nil => intro out; rfl
  | cons x r ih =>
    intro out
    rw [intoGo_cons]
    unfold insV
    cases hlt : lLt (bl v.1) (bl x.1) with
    | true => simp [intoGo_true]
    | false => simp [ih]
/-- ordered, each before the next -/
def Srt (l : List (ByteArray × ByteArray)) : Prop := ∀ (i : Nat) (x y : ByteArray × ByteArray), l[i]? = some x → l[i + 1]? = some y → lLt (bl x.1) (bl y.1) = true
theorem Srt.tail {x : ByteArray × ByteArray} {l : List (ByteArray × ByteArray)} (h : Srt (x :: l)) : Srt l := fun i a b ha hb => h (i + 1) a b (by simpa using ha) (by simpa using hb)
theorem Srt.cons {x : ByteArray × ByteArray} {l : List (ByteArray × ByteArray)} (h : Srt l) (hx : ∀ y, l[0]? = some y → lLt (bl x.1) (bl y.1) = true) : Srt (x :: l) := fun i a b ha hb => by
  cases i with
  | zero =>
    simp only [List.getElem?_cons_zero, Option.some.injEq] at ha
    subst ha
    exact hx b (by simpa using hb)
  | succ i => exact h i a b (by simpa using ha) (by simpa using hb)
theorem findAt_neg {nm : ByteArray} : ∀ (l : List (ByteArray × ByteArray)) (i : Nat), findAt nm l i < 0 → ∀ x ∈ l, lEq (bl x.1) (bl nm) = false := by
  intro l
  induction l with
  | nil => intro i _ x hx; simp at hx
  | cons y r ih =>
    intro i h x hx
    rw [findAt_cons] at h
    split at h
    · omega
    · rename_i hne
      rcases List.mem_cons.1 hx with rfl | hx
      · simpa using hne
      · exact ih (i + 1) h x hx
theorem insV_head (v : ByteArray × ByteArray) (l : List (ByteArray × ByteArray)) (x : ByteArray × ByteArray) (hv : lLt (bl x.1) (bl v.1) = true) (hx : ∀ y, l[0]? = some y → lLt (bl x.1) (bl y.1) = true) : ∀ y, (insV v l)[0]? = some y → lLt (bl x.1) (bl y.1) = true := by
  intro y hy
  cases l with
  | nil => simp [insV] at hy; subst hy; exact hv
  | cons z r =>
    unfold insV at hy
    split at hy
    · simp at hy; subst hy; exact hv
    · simp at hy; subst hy; exact hx z rfl
theorem insV_srt (v : ByteArray × ByteArray) : ∀ (l : List (ByteArray × ByteArray)), Srt l → (∀ x ∈ l, lEq (bl x.1) (bl v.1) = false) → Srt (insV v l) := by
  intro l
  induction l with
  | nil => intro _ _ i a b ha hb; simp [insV] at hb
  | cons x r ih =>
    intro hs hn
    unfold insV
    split
    · rename_i hlt
      exact Srt.cons hs fun y hy => by simp at hy; subst hy; exact hlt
    · rename_i hlt
      refine Srt.cons (ih hs.tail fun y hy => hn y (by simp [hy])) ?_
      refine insV_head v r x (lLt_tri _ _ (by simpa using hlt) ?_) (fun y hy => hs 0 x y rfl (by simpa using hy))
      have := hn x (by simp)
      rw [lEq_eq] at this ⊢
      rw [← this]
      exact Bool.eq_iff_iff.2 (by simp only [beq_iff_eq]; exact eq_comm)
theorem insV_mem (v : ByteArray × ByteArray) : ∀ (l : List (ByteArray × ByteArray)) (x : ByteArray × ByteArray), x ∈ insV v l → x = v ∨ x ∈ l := by
  intro l
  induction l with
  | nil => intro x hx; simp [insV] at hx; exact .inl hx
  | cons y r ih =>
    intro x hx
    unfold insV at hx
    split at hx
    · rcases List.mem_cons.1 hx with h | h
      · exact .inl h
      · exact .inr h
    · rcases List.mem_cons.1 hx with h | h
      · exact .inr (by simp [h])
      · exact (ih x h).imp id (fun h => by simp [h])
theorem insV_len (v : ByteArray × ByteArray) (l : List (ByteArray × ByteArray)) : (insV v l).length = l.length + 1 := by
  induction l with
  | nil => rfl
  | cons x r ih => unfold insV; split <;> simp [ih]
theorem addVal_eq (s : List (ByteArray × ByteArray)) (x : Nat × Nat) : addVal s x = if findAt (valueOf x).1 s 0 < 0 then insV (valueOf x) s else s := by
  unfold addVal
  rw [show lEq (bl (valueOf x).1) [] = false from callS_ne _, intoGo_false, List.nil_append]
theorem made_props : ∀ (l : List (Nat × Nat)) (s : List (ByteArray × ByteArray)), Srt s → (∀ x ∈ s, Tab x) → Srt (l.foldl addVal s) ∧ (∀ x ∈ l.foldl addVal s, Tab x) ∧ (l.foldl addVal s).length ≤ s.length + l.length := by
  intro l
  induction l with
  | nil => intro s h1 h2; exact ⟨h1, h2, by simp⟩
  | cons x l ih =>
    intro s h1 h2
    rw [List.foldl_cons, addVal_eq]
    split
    · rename_i hf
      obtain ⟨a, b, c⟩ := ih (insV (valueOf x) s) (insV_srt _ _ h1 (findAt_neg s 0 hf)) (fun y hy => by
        rcases insV_mem _ _ y hy with rfl | h
        · exact ⟨x.1, x.2, rfl⟩
        · exact h2 y h)
      exact ⟨a, b, by rw [insV_len] at c; simp only [List.length_cons]; omega⟩
    · obtain ⟨a, b, c⟩ := ih s h1 h2
      exact ⟨a, b, by simp only [List.length_cons]; omega⟩
theorem made_valid (ver : Nat) (lv lk : List (Nat × Nat)) : ValidS (ver % 60001) (madeVals lv) (madeKept lk) := by
  obtain ⟨a, b, c⟩ := made_props (lv.take 8) [] (fun i x y hx _ => by simp at hx) (fun x hx => by simp at hx)
  refine ⟨by omega, ?_, ?_, b, a, ?_⟩
  · have : (lv.take 8).length ≤ 8 := by rw [List.length_take]; omega
    simp only [List.length_nil] at c
    show ((lv.take 8).foldl addVal []).length ≤ 8
    omega
  · show ((lk.take 4).map keptOf).length ≤ 4
    rw [List.length_map, List.length_take]; omega
  · intro x hx
    obtain ⟨y, _, rfl⟩ := List.mem_map.1 hx
    unfold keptOf
    split
    · exact .inl rfl
    · exact .inr ⟨y.1, y.2, rfl⟩
theorem img1_ok (k : Nat) : (img1 k).length = 32 ∧ ∀ x ∈ img1 k, x < 256 := by
  refine ⟨by unfold img1 img0; simp, fun x hx => ?_⟩
  unfold img1 img0 at hx
  rcases List.mem_or_eq_of_mem_set hx with h | h
  · have := List.eq_of_mem_replicate h; omega
  · omega
variable {A : Arg} {h : Hp}
theorem repA_ok (ok : ArgOk A h) : RepOk (repA1 A) := ⟨ok.sa, ok.sa64, ⟨by show (-9223372036854775808 : Int) ≤ (A.w0 : Int); omega, by have := ok.w0; show (A.w0 : Int) ≤ _; omega⟩, (img1_ok _).1, (img1_ok _).2, made_valid _ _ _⟩
theorem repB_ok (ok : ArgOk A h) : RepOk (repB1 A) := ⟨ok.sb, ok.sb64, ⟨by show (-9223372036854775808 : Int) ≤ (A.w1 : Int); omega, by have := ok.w1; show (A.w1 : Int) ≤ _; omega⟩, (img1_ok _).1, (img1_ok _).2, made_valid _ _ _⟩
end Abs
end Go
