/-
The plain law of AuditTexts: the text of a report tells all of it.
Conditions: none.
-/
import Derived.Test.YtgamdeginkngaaaGreatDoorRunU
set_option linter.unusedVariables false
set_option linter.unusedSimpArgs false
namespace Go
namespace Abs
/- ===== numerals ===== -/
def Dig (c : UInt8) : Prop := 48 ≤ c.toNat ∧ c.toNat ≤ 57
theorem dig_of {k : Nat} (h : k < 10) : Dig (UInt8.ofNat (48 + k)) ∧ (UInt8.ofNat (48 + k)).toNat = 48 + k := by
  have : (UInt8.ofNat (48 + k)).toNat = 48 + k := by rw [UInt8.toNat_ofNat']; omega
  exact ⟨⟨by omega, by omega⟩, this⟩
theorem dcs_small {u : Nat} (h : u < 10) : Lib.decDigits u = [UInt8.ofNat (48 + u)] := by rw [Lib.decDigits, dif_pos h]
theorem dcs_big {u : Nat} (h : ¬ u < 10) : Lib.decDigits u = Lib.decDigits (u / 10) ++ [UInt8.ofNat (48 + u % 10)] := by rw [Lib.decDigits, dif_neg h]
theorem dec_dig : ∀ (n u : Nat), u ≤ n → ∀ c ∈ Lib.decDigits u, Dig c := by
  intro n
  induction n with
  | zero => intro u hu c hc; rw [dcs_small (by omega)] at hc; simp only [List.mem_singleton] at hc; rw [hc]; exact (dig_of (by omega)).1
  | succ n ih =>
    intro u hu c hc
    by_cases h : u < 10
    · rw [dcs_small h] at hc; simp only [List.mem_singleton] at hc; rw [hc]; exact (dig_of h).1
    · rw [dcs_big h, List.mem_append] at hc
      rcases hc with hc | hc
      · exact ih (u / 10) (by omega) c hc
      · simp only [List.mem_singleton] at hc; rw [hc]; exact (dig_of (by omega)).1
theorem dec_ne (u : Nat) : Lib.decDigits u ≠ [] := by
  by_cases h : u < 10
  · rw [dcs_small h]; simp
  · rw [dcs_big h]; simp
theorem dec_inj : ∀ (n u v : Nat), u ≤ n → Lib.decDigits u = Lib.decDigits v → u = v := by
  intro n
  induction n with
  | zero =>
    intro u v hu h
    have hu0 : u = 0 := by omega
    subst hu0
    by_cases hv : v < 10
    · rw [dcs_small (by omega), dcs_small hv] at h
      have := congrArg (List.map UInt8.toNat) h
      simp only [List.map_cons, List.map_nil, List.cons.injEq, and_true] at this
      rw [(dig_of (k := 0) (by omega)).2, (dig_of hv).2] at this; omega
    · rw [dcs_small (by omega), dcs_big hv] at h
      have := congrArg List.length h
      simp at this
      exact absurd this (dec_ne _)
  | succ n ih =>
    intro u v hu h
    by_cases h1 : u < 10
    · by_cases hv : v < 10
      · rw [dcs_small h1, dcs_small hv] at h
        have := congrArg (List.map UInt8.toNat) h
        simp only [List.map_cons, List.map_nil, List.cons.injEq, and_true] at this
        rw [(dig_of h1).2, (dig_of hv).2] at this; omega
      · rw [dcs_small h1, dcs_big hv] at h
        have := congrArg List.length h
        simp at this
        exact absurd this (dec_ne _)
    · by_cases hv : v < 10
      · rw [dcs_big h1, dcs_small hv] at h
        have := congrArg List.length h
        simp at this
        exact absurd this (dec_ne _)
      · rw [dcs_big h1, dcs_big hv] at h
        obtain ⟨e1, e2⟩ := List.append_inj' h rfl
        have e3 := ih (u / 10) (v / 10) (by omega) e1
        have := congrArg (List.map UInt8.toNat) e2
        simp only [List.map_cons, List.map_nil, List.cons.injEq, and_true] at this
        rw [(dig_of (by omega)).2, (dig_of (by omega)).2] at this; omega
/-- a character of a numeral -/
def Num (c : UInt8) : Prop := Dig c ∨ c = 45
theorem itoa_num (n : Int) : ∀ c ∈ Lib.itoa n, Num c := by
  intro c hc
  unfold Lib.itoa at hc
  split at hc
  · rcases List.mem_cons.1 hc with rfl | hc
    · exact .inr rfl
    · exact .inl (dec_dig _ _ (Nat.le_refl _) c hc)
  · exact .inl (dec_dig _ _ (Nat.le_refl _) c hc)
theorem itoa_inj {n m : Int} (h : Lib.itoa n = Lib.itoa m) : n = m := by
  have first : ∀ u, ∃ c r, Lib.decDigits u = c :: r ∧ Dig c := fun u => by
    cases hd : Lib.decDigits u with
    | nil => exact absurd hd (dec_ne u)
    | cons c r => exact ⟨c, r, rfl, dec_dig u u (Nat.le_refl _) c (by rw [hd]; simp)⟩
  unfold Lib.itoa at h
  by_cases h1 : n < 0 <;> by_cases h2 : m < 0
  · rw [if_pos h1, if_pos h2] at h
    have := dec_inj _ _ _ (Nat.le_refl _) (List.cons.inj h).2
    omega
  · rw [if_pos h1, if_neg h2] at h
    obtain ⟨c, r, e, hd⟩ := first m.toNat
    rw [e] at h
    rw [← (List.cons.inj h).1] at hd
    exact absurd hd.1 (by decide)
  · rw [if_neg h1, if_pos h2] at h
    obtain ⟨c, r, e, hd⟩ := first n.toNat
    rw [e] at h
    rw [(List.cons.inj h).1] at hd
    exact absurd hd.1 (by decide)
  · rw [if_neg h1, if_neg h2] at h
    have := dec_inj _ _ _ (Nat.le_refl _) h
    omega
/- ===== cutting at a byte ===== -/
theorem cut_inj {c : UInt8} : ∀ {x y r s : List UInt8}, c ∉ x → c ∉ y → x ++ c :: r = y ++ c :: s → x = y ∧ r = s := by
  intro x
  induction x with
  | nil =>
    intro y r s hx hy h
    cases y with
    | nil => exact ⟨rfl, (List.cons.inj h).2⟩
    | cons b y => exact absurd (List.cons.inj h).1 (fun e => hy (by simp [e]))
  | cons a x ih =>
    intro y r s hx hy h
    cases y with
    | nil => exact absurd (List.cons.inj h).1 (fun e => hx (by simp [e]))
    | cons b y =>
      obtain ⟨e1, e2⟩ := List.cons.inj h
      obtain ⟨e3, e4⟩ := ih (fun hh => hx (by simp [hh])) (fun hh => hy (by simp [hh])) e2
      exact ⟨by rw [e1, e3], e4⟩
theorem lines_inj : ∀ {l m : List (List UInt8)}, (∀ x ∈ l, (10 : UInt8) ∉ x) → (∀ x ∈ m, (10 : UInt8) ∉ x) → l.flatMap (fun x => x ++ [10]) = m.flatMap (fun x => x ++ [10]) → l = m := by
  intro l
  induction l with
  | nil =>
    intro m _ _ h
    cases m with
    | nil => rfl
    | cons y m => rw [List.flatMap_cons] at h; simp at h
  | cons x l ih =>
    intro m h1 h2 h
    cases m with
    | nil => rw [List.flatMap_cons] at h; simp at h
    | cons y m =>
      rw [List.flatMap_cons, List.flatMap_cons, List.append_assoc, List.append_assoc] at h
      obtain ⟨e1, e2⟩ := cut_inj (h1 x (by simp)) (h2 y (by simp)) h
      rw [e1, ih (fun z hz => h1 z (by simp [hz])) (fun z hz => h2 z (by simp [hz])) e2]
theorem num_ne {c : UInt8} (h : Num c) : c ≠ 10 ∧ c ≠ 32 := by
  rcases h with h | rfl
  · constructor <;> (rintro rfl; exact absurd h.1 (by decide))
  · decide
theorem itoa_no (n : Int) : (10 : UInt8) ∉ Lib.itoa n ∧ (32 : UInt8) ∉ Lib.itoa n := ⟨fun h => (num_ne (itoa_num n _ h)).1 rfl, fun h => (num_ne (itoa_num n _ h)).2 rfl⟩
/- ===== digits of an image ===== -/
theorem hexD_inj : ∀ a, a < 16 → ∀ b, b < 16 → hexD a = hexD b → a = b := by decide
theorem hexT_inj : ∀ {l m : List Nat}, (∀ x ∈ l, x < 256) → (∀ x ∈ m, x < 256) → hexT l = hexT m → l = m := by
  intro l
  induction l with
  | nil =>
    intro m _ _ h
    cases m with
    | nil => rfl
    | cons y m => have := congrArg List.length h; rw [hexT_len, hexT_len] at this; simp at this
  | cons x l ih =>
    intro m h1 h2 h
    cases m with
    | nil => have := congrArg List.length h; rw [hexT_len, hexT_len] at this; simp at this
    | cons y m =>
      have e : hexD (x / 16) :: hexD (x % 16) :: hexT l = hexD (y / 16) :: hexD (y % 16) :: hexT m := h
      obtain ⟨e1, e2⟩ := List.cons.inj e
      obtain ⟨e3, e4⟩ := List.cons.inj e2
      have hx := h1 x (by simp)
      have hy := h2 y (by simp)
      have f1 := hexD_inj (x / 16) (by omega) (y / 16) (by omega) e1
      have f2 := hexD_inj (x % 16) (by omega) (y % 16) (by omega) e3
      rw [ih (fun z hz => h1 z (by simp [hz])) (fun z hz => h2 z (by simp [hz])) e4]
      congr 1; omega
theorem hexD_no : ∀ a, a < 16 → hexD a ≠ 10 := by decide
theorem hexT_no {l : List Nat} (h : ∀ x ∈ l, x < 256) : (10 : UInt8) ∉ hexT l := by
  induction l with
  | nil => simp [hexT]
  | cons x l ih =>
    have e : hexT (x :: l) = hexD (x / 16) :: hexD (x % 16) :: hexT l := rfl
    have hx := h x (by simp)
    rw [e]
    intro hm
    rcases List.mem_cons.1 hm with h1 | hm
    · exact hexD_no _ (by omega) h1.symm
    · rcases List.mem_cons.1 hm with h1 | hm
      · exact hexD_no _ (by omega) h1.symm
      · exact ih (fun z hz => h z (by simp [hz])) hm

/- ===== the table ===== -/
theorem callS_no (n : Nat) : (10 : UInt8) ∉ bl (callS n) ∧ (32 : UInt8) ∉ bl (callS n) ∧ (45 : UInt8) ∉ bl (callS n) := by
  unfold callS
  rw [bl_mkS]
  have h8 := Nat.mod_lt n (show 8 > 0 by omega)
  generalize n % 8 = k at h8
  match k with
  | 0 => decide | 1 => decide | 2 => decide | 3 => decide | 4 => decide | 5 => decide | 6 => decide | 7 => decide
theorem valS_no (n : Nat) : (10 : UInt8) ∉ bl (valS n) := by
  unfold valS
  rw [bl_mkS]
  have h8 := Nat.mod_lt n (show 4 > 0 by omega)
  generalize n % 4 = k at h8
  match k with
  | 0 => decide | 1 => decide | 2 => decide | 3 => decide
noncomputable def vBody (x : ByteArray × ByteArray) : List UInt8 := 118 :: [97, 108, 32] ++ bl x.1 ++ 32 :: bl x.2
noncomputable def kBody (x : ByteArray × ByteArray) : List UInt8 := 107 :: [101, 112, 116, 32] ++ (if lEq (bl x.1) [] = true then [45] else bl x.1 ++ 32 :: bl x.2)
theorem valLine_eq (x : ByteArray × ByteArray) : valLine x = vBody x ++ [10] := by unfold valLine vBody; simp
theorem keptLine_eq (x : ByteArray × ByteArray) : keptLine x = kBody x ++ [10] := by unfold keptLine kBody; split <;> simp
theorem pair_ext {x y : ByteArray × ByteArray} (h1 : bl x.1 = bl y.1) (h2 : bl x.2 = bl y.2) : x = y := by
  have e1 : x.1 = y.1 := by rw [← mkS_bl' x.1, ← mkS_bl' y.1, h1]
  have e2 : x.2 = y.2 := by rw [← mkS_bl' x.2, ← mkS_bl' y.2, h2]
  exact Prod.ext e1 e2
theorem Tab.no1 {x : ByteArray × ByteArray} (h : Tab x) : (10 : UInt8) ∉ bl x.1 ∧ (32 : UInt8) ∉ bl x.1 ∧ (45 : UInt8) ∉ bl x.1 := by obtain ⟨n, m, rfl⟩ := h; exact callS_no n
theorem Tab.no2 {x : ByteArray × ByteArray} (h : Tab x) : (10 : UInt8) ∉ bl x.2 := by obtain ⟨n, m, rfl⟩ := h; exact valS_no m
theorem vBody_no {x : ByteArray × ByteArray} (h : Tab x) : (10 : UInt8) ∉ vBody x := by
  unfold vBody
  have h1 := h.no1.1
  have h2 := h.no2
  simp only [List.mem_append, List.mem_cons, List.not_mem_nil, or_false, not_or]
  exact ⟨⟨by decide, h1⟩, by decide, h2⟩
theorem kBody_no {x : ByteArray × ByteArray} (h : x = (mkS [], mkS []) ∨ Tab x) : (10 : UInt8) ∉ kBody x := by
  rcases h with rfl | h
  · show (10 : UInt8) ∉ [107, 101, 112, 116, 32, 45]; decide
  · unfold kBody
    rw [h.ne]
    have h1 := h.no1.1
    have h2 := h.no2
    simp only [List.mem_append, List.mem_cons, List.not_mem_nil, or_false, not_or, Bool.false_eq_true, if_false]
    exact ⟨by decide, h1, by decide, h2⟩
theorem vBody_inj {x y : ByteArray × ByteArray} (hx : Tab x) (hy : Tab y) (h : vBody x = vBody y) : x = y := by
  unfold vBody at h
  rw [List.append_assoc, List.append_assoc] at h
  have h := List.append_cancel_left h
  obtain ⟨e1, e2⟩ := cut_inj hx.no1.2.1 hy.no1.2.1 h
  exact pair_ext e1 e2
theorem kBody_inj {x y : ByteArray × ByteArray} (hx : x = (mkS [], mkS []) ∨ Tab x) (hy : y = (mkS [], mkS []) ∨ Tab y) (h : kBody x = kBody y) : x = y := by
  have z : lEq (bl (mkS [])) [] = true := rfl
  have g : ∀ {x : ByteArray × ByteArray}, Tab x → (45 : UInt8) :: [] ≠ bl x.1 ++ 32 :: bl x.2 := fun {x} hx e => by
    cases hb : bl x.1 with
    | nil => have := hx.ne; rw [hb] at this; cases this
    | cons c r =>
      rw [hb] at e
      have e1 := (List.cons.inj e).1
      exact hx.no1.2.2 (by rw [hb, ← e1]; simp)
  rcases hx with rfl | hx
  · rcases hy with rfl | hy
    · rfl
    · unfold kBody at h
      rw [hy.ne] at h
      have h := List.append_cancel_left h
      exact absurd h (g hy)
  · rcases hy with rfl | hy
    · unfold kBody at h
      rw [hx.ne] at h
      have h := List.append_cancel_left h
      exact absurd h.symm (g hx)
    · unfold kBody at h
      rw [hx.ne, hy.ne] at h
      have h := List.append_cancel_left h
      obtain ⟨e1, e2⟩ := cut_inj hx.no1.2.1 hy.no1.2.1 h
      exact pair_ext e1 e2
theorem map_inj_on {α β : Type} {f : α → β} {P : α → Prop} (hf : ∀ x y, P x → P y → f x = f y → x = y) : ∀ {l m : List α}, (∀ x ∈ l, P x) → (∀ x ∈ m, P x) → l.map f = m.map f → l = m := by
  intro l
  induction l with
  | nil => intro m _ _ h; cases m with | nil => rfl | cons y m => simp at h
  | cons x l ih =>
    intro m h1 h2 h
    cases m with
    | nil => simp at h
    | cons y m =>
      obtain ⟨e1, e2⟩ := List.cons.inj h
      rw [hf x y (h1 x (by simp)) (h2 y (by simp)) e1, ih (fun z hz => h1 z (by simp [hz])) (fun z hz => h2 z (by simp [hz])) e2]
/-- lists of two kinds, one after the other -/
theorem split_inj {l l' m m' : List (List UInt8)} {a b : UInt8} (hab : a ≠ b) (hl : ∀ x ∈ l, ∃ r, x = a :: r) (hl' : ∀ x ∈ l', ∃ r, x = a :: r) (hm : ∀ x ∈ m, ∃ r, x = b :: r) (hm' : ∀ x ∈ m', ∃ r, x = b :: r) (h : l ++ m = l' ++ m') : l = l' ∧ m = m' := by
  induction l generalizing l' with
  | nil =>
    cases l' with
    | nil => exact ⟨rfl, h⟩
    | cons y l' =>
      obtain ⟨r, hr⟩ := hl' y (by simp)
      have hy : y ∈ m := by rw [show m = y :: l' ++ m' from h]; simp
      obtain ⟨r', hr'⟩ := hm y hy
      rw [hr] at hr'
      exact absurd (List.cons.inj hr').1 hab
  | cons x l ih =>
    cases l' with
    | nil =>
      obtain ⟨r, hr⟩ := hl x (by simp)
      have hy : x ∈ m' := by rw [show m' = x :: l ++ m from h.symm]; simp
      obtain ⟨r', hr'⟩ := hm' x hy
      rw [hr] at hr'
      exact absurd (List.cons.inj hr').1 hab
    | cons y l' =>
      obtain ⟨e1, e2⟩ := List.cons.inj h
      obtain ⟨e3, e4⟩ := ih (fun z hz => hl z (by simp [hz])) (fun z hz => hl' z (by simp [hz])) e2
      exact ⟨by rw [e1, e3], e4⟩
/- ===== the lines of a report ===== -/
/-- fields, without the end of the line -/
noncomputable def fb3 (a b c : List UInt8) (x y z : Int) : List UInt8 := a ++ 32 :: (Lib.itoa x ++ 32 :: (b ++ 32 :: (Lib.itoa y ++ 32 :: (c ++ 32 :: Lib.itoa z))))
noncomputable def fb4 (a b c d : List UInt8) (x y z u : Int) : List UInt8 := a ++ 32 :: (Lib.itoa x ++ 32 :: (b ++ 32 :: (Lib.itoa y ++ 32 :: (c ++ 32 :: (Lib.itoa z ++ 32 :: (d ++ 32 :: Lib.itoa u))))))
theorem fields3_eq (a b c : List UInt8) (x y z : Int) : fieldsT [(a, x), (b, y), (c, z)] = fb3 a b c x y z ++ [10] := by simp [fieldsT, fb3]
theorem fields4_eq (a b c d : List UInt8) (x y z u : Int) : fieldsT [(a, x), (b, y), (c, z), (d, u)] = fb4 a b c d x y z u ++ [10] := by simp [fieldsT, fb4]
theorem fb3_inj {a b c : List UInt8} {x y z x' y' z' : Int} (h : fb3 a b c x y z = fb3 a b c x' y' z') : x = x' ∧ y = y' ∧ z = z' := by
  unfold fb3 at h
  have h := (List.cons.inj (List.append_cancel_left h)).2
  obtain ⟨e1, h⟩ := cut_inj (itoa_no _).2 (itoa_no _).2 h
  have h := (List.cons.inj (List.append_cancel_left h)).2
  obtain ⟨e2, h⟩ := cut_inj (itoa_no _).2 (itoa_no _).2 h
  have h := (List.cons.inj (List.append_cancel_left h)).2
  exact ⟨itoa_inj e1, itoa_inj e2, itoa_inj h⟩
theorem fb4_inj {a b c d : List UInt8} {x y z u x' y' z' u' : Int} (h : fb4 a b c d x y z u = fb4 a b c d x' y' z' u') : x = x' ∧ y = y' ∧ z = z' ∧ u = u' := by
  unfold fb4 at h
  have h := (List.cons.inj (List.append_cancel_left h)).2
  obtain ⟨e1, h⟩ := cut_inj (itoa_no _).2 (itoa_no _).2 h
  have h := (List.cons.inj (List.append_cancel_left h)).2
  obtain ⟨e2, h⟩ := cut_inj (itoa_no _).2 (itoa_no _).2 h
  have h := (List.cons.inj (List.append_cancel_left h)).2
  obtain ⟨e3, h⟩ := cut_inj (itoa_no _).2 (itoa_no _).2 h
  have h := (List.cons.inj (List.append_cancel_left h)).2
  exact ⟨itoa_inj e1, itoa_inj e2, itoa_inj e3, itoa_inj h⟩
theorem no_app {c : UInt8} {a b : List UInt8} (ha : c ∉ a) (hb : c ∉ b) : c ∉ a ++ b := by rw [List.mem_append]; exact fun h => h.elim ha hb
theorem no_cons {c d : UInt8} {b : List UInt8} (hd : c ≠ d) (hb : c ∉ b) : c ∉ d :: b := by rw [List.mem_cons]; exact fun h => h.elim hd hb
theorem fb3_no {a b c : List UInt8} {x y z : Int} (ha : (10 : UInt8) ∉ a) (hb : (10 : UInt8) ∉ b) (hc : (10 : UInt8) ∉ c) : (10 : UInt8) ∉ fb3 a b c x y z :=
  no_app ha (no_cons (by decide) (no_app (itoa_no _).1 (no_cons (by decide) (no_app hb (no_cons (by decide) (no_app (itoa_no _).1 (no_cons (by decide) (no_app hc (no_cons (by decide) (itoa_no _).1)))))))))
theorem fb4_no {a b c d : List UInt8} {x y z u : Int} (ha : (10 : UInt8) ∉ a) (hb : (10 : UInt8) ∉ b) (hc : (10 : UInt8) ∉ c) (hd : (10 : UInt8) ∉ d) : (10 : UInt8) ∉ fb4 a b c d x y z u :=
  no_app ha (no_cons (by decide) (no_app (itoa_no _).1 (no_cons (by decide) (no_app hb (no_cons (by decide) (no_app (itoa_no _).1 (no_cons (by decide) (no_app hc (no_cons (by decide) (no_app (itoa_no _).1 (no_cons (by decide) (no_app hd (no_cons (by decide) (itoa_no _).1)))))))))))))
noncomputable def sanB (b : Bool) : List UInt8 := if b then [115, 97, 110, 101, 32, 121, 101, 115] else [115, 97, 110, 101, 32, 110, 111]
theorem sanT_eq (b : Bool) : sanT b = sanB b ++ [10] := by cases b <;> rfl
noncomputable def repLs (r : Rep) : List (List UInt8) :=
  fb3 [112, 104, 97, 115, 101] [115, 116, 101, 112] [115, 117, 98] (stG r 0) (stG r 1) (stG r 2) ::
  fb4 [117, 110, 100, 111] [116, 114, 105, 101, 115] [115, 101, 116] [115, 116, 97, 103, 101] (stG r 3) (stG r 4) (stG r 5) (stG r 6) ::
  fb3 [118, 101, 114, 115, 105, 111, 110] [108, 97, 115, 116] [116, 111, 114, 110] (stG r 7) (stG r 8) r.torn ::
  ([105, 109, 97, 103, 101, 32] ++ hexT r.img) :: sanB r.sane :: ([115, 101, 116, 116, 105, 110, 103, 115, 32] ++ Lib.itoa r.ver) :: (r.s.map vBody ++ r.k.map kBody)
theorem flat_map_lines {f g : ByteArray × ByteArray → List UInt8} (h : ∀ x, f x = g x ++ [10]) (l : List (ByteArray × ByteArray)) : l.flatMap f = (l.map g).flatMap fun x => x ++ [10] := by
  induction l with
  | nil => rfl
  | cons x l ih => rw [List.flatMap_cons, List.map_cons, List.flatMap_cons, ih, h x]
theorem repT_lines (r : Rep) : repT r = (repLs r).flatMap fun x => x ++ [10] := by
  unfold repT repLs text23 head23
  rw [fields3_eq, fields4_eq, fields3_eq, sanT_eq, flat_map_lines valLine_eq, flat_map_lines keptLine_eq]
  simp only [List.flatMap_cons, List.flatMap_append, List.append_assoc]
theorem repLs_no {r : Rep} (ok : RepOk r) : ∀ x ∈ repLs r, (10 : UInt8) ∉ x := by
  intro x hx
  unfold repLs at hx
  rcases List.mem_cons.1 hx with rfl | hx
  · exact fb3_no (by decide) (by decide) (by decide)
  rcases List.mem_cons.1 hx with rfl | hx
  · exact fb4_no (by decide) (by decide) (by decide) (by decide)
  rcases List.mem_cons.1 hx with rfl | hx
  · exact fb3_no (by decide) (by decide) (by decide)
  rcases List.mem_cons.1 hx with rfl | hx
  · exact no_app (by decide) (hexT_no ok.img8)
  rcases List.mem_cons.1 hx with rfl | hx
  · unfold sanB; split <;> decide
  rcases List.mem_cons.1 hx with rfl | hx
  · exact no_app (by decide) (itoa_no _).1
  rcases List.mem_append.1 hx with hx | hx
  · obtain ⟨y, hy, rfl⟩ := List.mem_map.1 hx
    exact vBody_no (ok.set.tab y hy)
  · obtain ⟨y, hy, rfl⟩ := List.mem_map.1 hx
    exact kBody_no (ok.set.ktab y hy)
theorem sameL_iff {l m : List (ByteArray × ByteArray)} : sameL l m = true ↔ l = m := by
  induction l generalizing m with
  | nil => cases m with | nil => simp [sameL] | cons y m => simp [sameL]
  | cons x l ih =>
    cases m with
    | nil => simp [sameL]
    | cons y m =>
      show ((lEq (bl x.1) (bl y.1) && lEq (bl x.2) (bl y.2)) && sameL l m) = true ↔ _
      rw [Bool.and_eq_true, Bool.and_eq_true, ih, lEq_eq, lEq_eq, beq_iff_eq, beq_iff_eq, List.cons.injEq]
      exact ⟨fun ⟨⟨h1, h2⟩, h3⟩ => ⟨pair_ext h1 h2, h3⟩, fun ⟨h1, h2⟩ => by subst h1; exact ⟨⟨rfl, rfl⟩, h2⟩⟩
theorem sameR_iff (a b : Rep) : sameR a b = true ↔ a = b := by
  unfold sameR sameS
  simp only [Bool.and_eq_true, decide_eq_true_eq, beq_iff_eq, sameL_iff]
  cases a; cases b
  simp only [Rep.mk.injEq]
  exact ⟨fun ⟨⟨⟨⟨h1, h2⟩, h3⟩, h4⟩, ⟨h5, h6⟩, h7⟩ => ⟨h1, h2, h3, h5, h6, h7, h4⟩, fun ⟨h1, h2, h3, h5, h6, h7, h4⟩ => ⟨⟨⟨⟨h1, h2⟩, h3⟩, h4⟩, ⟨h5, h6⟩, h7⟩⟩
theorem repT_inj {a b : Rep} (oka : RepOk a) (okb : RepOk b) (h : repT a = repT b) : a = b := by
  rw [repT_lines, repT_lines] at h
  have h := lines_inj (repLs_no oka) (repLs_no okb) h
  unfold repLs at h
  obtain ⟨e1, h⟩ := List.cons.inj h
  obtain ⟨e2, h⟩ := List.cons.inj h
  obtain ⟨e3, h⟩ := List.cons.inj h
  obtain ⟨e4, h⟩ := List.cons.inj h
  obtain ⟨e5, h⟩ := List.cons.inj h
  obtain ⟨e6, h⟩ := List.cons.inj h
  obtain ⟨f0, f1, f2⟩ := fb3_inj e1
  obtain ⟨f3, f4, f5, f6⟩ := fb4_inj e2
  obtain ⟨f7, f8, f9⟩ := fb3_inj e3
  have g4 := hexT_inj oka.img8 okb.img8 (List.append_cancel_left e4)
  have g5 : a.sane = b.sane := by
    revert e5
    cases a.sane <;> cases b.sane <;> simp [sanB]
  have g6 : (a.ver : Int) = b.ver := itoa_inj (List.append_cancel_left e6)
  obtain ⟨e7, e8⟩ := split_inj (a := 118) (b := 107) (by decide) (fun x hx => by obtain ⟨y, _, rfl⟩ := List.mem_map.1 hx; exact ⟨_, rfl⟩) (fun x hx => by obtain ⟨y, _, rfl⟩ := List.mem_map.1 hx; exact ⟨_, rfl⟩)
    (fun x hx => by obtain ⟨y, _, rfl⟩ := List.mem_map.1 hx; exact ⟨_, rfl⟩) (fun x hx => by obtain ⟨y, _, rfl⟩ := List.mem_map.1 hx; exact ⟨_, rfl⟩) h
  have g7 := map_inj_on (fun x y hx hy h => vBody_inj hx hy h) oka.set.tab okb.set.tab e7
  have g8 := map_inj_on (fun x y hx hy h => kBody_inj hx hy h) oka.set.ktab okb.set.ktab e8
  have gst : a.st = b.st := by
    refine List.ext_getElem? fun i => ?_
    have ha := oka.st
    have hb := okb.st
    by_cases hi : i < 9
    · have : stG a i = stG b i := by
        rcases (by omega : i = 0 ∨ i = 1 ∨ i = 2 ∨ i = 3 ∨ i = 4 ∨ i = 5 ∨ i = 6 ∨ i = 7 ∨ i = 8) with rfl | rfl | rfl | rfl | rfl | rfl | rfl | rfl | rfl <;> assumption
      unfold stG at this
      rw [List.getElem?_eq_getElem (by omega), List.getElem?_eq_getElem (by omega)] at this ⊢
      exact congrArg some this
    · rw [List.getElem?_eq_none (by omega), List.getElem?_eq_none (by omega)]
  cases a; cases b
  simp only [Rep.mk.injEq]
  exact ⟨gst, f9, g4, Int.ofNat.inj g6, g7, g8, g5⟩
theorem plain_law {a b : Rep} (oka : RepOk a) (okb : RepOk b) : lEq (repT a) (repT b) = sameR a b := by
  rw [lEq_eq]
  cases hs : sameR a b with
  | true => rw [(sameR_iff a b).1 hs]; simp
  | false =>
    cases he : repT a == repT b with
    | false => rfl
    | true =>
      have := repT_inj oka okb (by simpa using he)
      rw [(sameR_iff a b).2 this] at hs
      exact hs
end Abs
end Go
