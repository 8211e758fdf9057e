/-
A certified evaluator for calls of the program, first part: tries, abstract heaps, steps, and the evaluator itself.
Conditions: none.
-/
import Derived.Orders
import Derived.Recover
import Derived.Below
import Derived.Eval
import Derived.Laws.Slices
import Derived.Laws.AppendOwn
set_option linter.unusedVariables false
set_option linter.unusedSimpArgs false
/- A certified evaluator for closed calls, part A: tries, abstract heaps, the relation between abstract and concrete values, heaps and frames. -/
namespace Go
namespace Abs
noncomputable section

/- ===== tries ===== -/
inductive T (α : Type) where
  | nil
  | node (v : Option α) (l r : T α)
def pathF : Nat → Nat → List Bool
  | 0, _ => []
  | k + 1, i => match i with
    | 0 => []
    | j + 1 => (Nat.beq (Nat.mod j 2) 0) :: pathF k (Nat.div j 2)
def path (i : Nat) : List Bool := pathF i i
def T.get {α : Type} (t : T α) : List Bool → Option α :=
  T.rec (motive := fun _ => List Bool → Option α) (fun _ => none) (fun v _ _ il ir p => List.rec (motive := fun _ => Option α) v (fun b q _ => Bool.rec (motive := fun _ => Option α) (ir q) (il q) b) p) t
def T.setK {α R : Type} (p : List Bool) : T α → Option α → (T α → R) → R :=
  List.rec (motive := fun _ => T α → Option α → (T α → R) → R)
    (fun t a k => T.rec (motive := fun _ => R) (k (.node a .nil .nil)) (fun _ l r _ _ => k (.node a l r)) t)
    (fun b _ ih t a k => T.rec (motive := fun _ => R)
      (Bool.rec (motive := fun _ => R) (ih .nil a fun r => k (.node none .nil r)) (ih .nil a fun l => k (.node none l .nil)) b)
      (fun v l r _ _ => Bool.rec (motive := fun _ => R) (ih r a fun r => k (.node v l r)) (ih l a fun l => k (.node v l r)) b) t) p
def T.set {α : Type} (p : List Bool) (t : T α) (a : Option α) : T α := T.setK p t a fun t => t

@[simp] theorem T.get_nil {α : Type} (p : List Bool) : (T.nil : T α).get p = none := rfl
@[simp] theorem T.get_node_nil {α : Type} (v : Option α) (l r : T α) : (T.node v l r).get [] = v := rfl
@[simp] theorem T.get_node_true {α : Type} (v : Option α) (l r : T α) (q : List Bool) : (T.node v l r).get (true :: q) = l.get q := rfl
@[simp] theorem T.get_node_false {α : Type} (v : Option α) (l r : T α) (q : List Bool) : (T.node v l r).get (false :: q) = r.get q := rfl

theorem T.setK_comp {α R S : Type} : ∀ (p : List Bool) (t : T α) (a : Option α) (k : T α → R) (g : R → S), g (T.setK p t a k) = T.setK p t a fun t => g (k t) := by
  intro p
  induction p with
  | nil => intro t a k g; cases t <;> rfl
  | cons b p ih =>
    intro t a k g
    cases t <;> cases b <;> exact ih _ _ _ _
theorem T.setK_eq {α R : Type} (p : List Bool) (t : T α) (a : Option α) (k : T α → R) : T.setK p t a k = k (T.set p t a) :=
  (T.setK_comp p t a (fun t => t) k).symm

theorem T.set_cons_nil {α : Type} (b : Bool) (p : List Bool) (a : Option α) :
    T.set (b :: p) .nil a = if b then .node none (T.set p .nil a) .nil else .node none .nil (T.set p .nil a) := by
  cases b
  · exact T.setK_eq p .nil a fun r => T.node none .nil r
  · exact T.setK_eq p .nil a fun r => T.node none r .nil
theorem T.set_cons_node {α : Type} (b : Bool) (p : List Bool) (v : Option α) (l r : T α) (a : Option α) :
    T.set (b :: p) (.node v l r) a = if b then .node v (T.set p l a) r else .node v l (T.set p r a) := by
  cases b
  · exact T.setK_eq p r a fun r => T.node v l r
  · exact T.setK_eq p l a fun l => T.node v l r

theorem T.get_set {α : Type} : ∀ (p q : List Bool) (t : T α) (a : Option α), (T.set p t a).get q = if p = q then a else t.get q := by
  intro p
  induction p with
  | nil =>
    intro q t a
    cases t <;> cases q <;> first | rfl | (rename_i b q; cases b <;> rfl)
  | cons b p ih =>
    intro q t a
    cases t with
    | nil =>
      rw [T.set_cons_nil]
      cases q with
      | nil => cases b <;> simp
      | cons c q => cases b <;> cases c <;> simp [ih]
    | node v l r =>
      rw [T.set_cons_node]
      cases q with
      | nil => cases b <;> simp
      | cons c q => cases b <;> cases c <;> simp [ih]

def unpath : List Bool → Nat
  | [] => 0
  | b :: p => if b then 2 * unpath p + 1 else 2 * unpath p + 2
theorem unpath_pathF : ∀ (k i : Nat), i ≤ k → unpath (pathF k i) = i := by
  intro k
  induction k with
  | zero => intro i h; have : i = 0 := by omega
            subst this; rfl
  | succ k ih =>
    intro i h
    cases i with
    | zero => rfl
    | succ j =>
      have hj := ih (j / 2) (by omega)
      simp only [pathF, unpath]
      show (if (Nat.beq (j % 2) 0) = true then 2 * unpath (pathF k (j / 2)) + 1 else 2 * unpath (pathF k (j / 2)) + 2) = j + 1
      rw [hj]
      by_cases h2 : j % 2 = 0
      · rw [if_pos (by simpa using h2)]; omega
      · rw [if_neg (by simpa using h2)]; omega
theorem path_inj {i j : Nat} (h : path i = path j) : i = j := by
  have hi := unpath_pathF i i (Nat.le_refl _)
  have hj := unpath_pathF j j (Nat.le_refl _)
  unfold path at h
  rw [h] at hi
  omega
theorem get_set_path {α : Type} (t : T α) (i j : Nat) (a : Option α) : (T.set (path i) t a).get (path j) = if i = j then a else t.get (path j) := by
  rw [T.get_set]
  by_cases h : i = j
  · subst h; simp
  · rw [if_neg (fun e => h (path_inj e)), if_neg h]

/- ===== forcing ===== -/
def forceNat {α : Type} (n : Nat) (k : Nat → α) : α := Nat.rec (motive := fun _ => α) (k 0) (fun m _ => k (Nat.succ m)) n
theorem forceNat_eq {α : Type} (n : Nat) (k : Nat → α) : forceNat n k = k n := by cases n <;> rfl
def forceInt {α : Type} (x : Int) (k : Int → α) : α := Int.rec (motive := fun _ => α) (fun n => forceNat n fun n => k (.ofNat n)) (fun n => forceNat n fun n => k (.negSucc n)) x
theorem forceInt_eq {α : Type} (x : Int) (k : Int → α) : forceInt x k = k x := by
  cases x with
  | ofNat n => exact forceNat_eq n fun n => k (.ofNat n)
  | negSucc n => exact forceNat_eq n fun n => k (.negSucc n)

/- ===== images, values ===== -/
/-- where an abstract block lies: the block, the first cell, the row's size, the cells of one element -/
structure Img where
  blk : Nat
  o : Nat
  n : Nat
  s : Nat
abbrev Map := Nat → Option Img
/-- a capacity 'OPEN * (s + 1) + n' stands for one that is open: n at least, over elements of s cells -/
def OPEN : Nat := 18446744073709551616
/-- the unknown value -/
def top : Value := .chan (some 0)

inductive VRel (f : Map) : Value → Value → Prop where
  | top (v : Value) : VRel f (.chan (some 0)) v
  | bool (b : Bool) : VRel f (.bool b) (.bool b)
  | int (k : IntKind) (n : Int) : VRel f (.int k n) (.int k n)
  | string (s : ByteArray) : VRel f (.string s) (.string s)
  | nilPtr : VRel f (.pointer none) (.pointer none)
  | ptr (b o : Nat) (i : Img) (h : f b = some i) : VRel f (.pointer (some ⟨b, o, none⟩)) (.pointer (some ⟨i.blk, i.o + o, none⟩))
  | nilSlice (l c : Nat) : VRel f (.slice none l c) (.slice none l c)
  | slice (b o l c : Nat) (i : Img) (h : f b = some i) (hc : c < OPEN) (hl : l ≤ c) : VRel f (.slice (some ⟨b, o, none⟩) l c) (.slice (some ⟨i.blk, i.o + o, none⟩) l c)
  | sliceO (b o l c lb : Nat) (i : Img) (o' c' : Nat) (h : f b = some i) (hc : c = OPEN * (i.s + 1) + lb) (hlb : lb < OPEN) (hl : l ≤ lb) (hb : lb ≤ c')
      (ho : o' = i.o + o ∨ lb = 0) (hn : o' + c' * i.s ≤ i.n) : VRel f (.slice (some ⟨b, o, none⟩) l c) (.slice (some ⟨i.blk, o', none⟩) l c')
  | nilMap : VRel f (.map none) (.map none)
  | map (b : Nat) (i : Img) (h : f b = some i) : VRel f (.map (some b)) (.map (some i.blk))
  | func (g : Fn) (a c a' c' : Array Value) (ha : a.size = a'.size) (hc : c.size = c'.size)
      (va : ∀ i, i < a.size → VRel f (a.getD i undef) (a'.getD i undef)) (vc : ∀ i, i < c.size → VRel f (c.getD i undef) (c'.getD i undef)) :
      VRel f (.func g a c) (.func g a' c')
  | nilFunc : VRel f .nilFunc .nilFunc
  | iface (t : TypeId) (v v' : Value) (h : VRel f v v') : VRel f (.iface t v) (.iface t v')
  | nilIface : VRel f .nilIface .nilIface
  | agg (a a' : Array Value) (hs : a.size = a'.size) (h : ∀ i, i < a.size → VRel f (a.getD i undef) (a'.getD i undef)) : VRel f (.agg a) (.agg a')
  | tuple (a a' : Array Value) (hs : a.size = a'.size) (h : ∀ i, i < a.size → VRel f (a.getD i undef) (a'.getD i undef)) : VRel f (.tuple a) (.tuple a')

def Map.le (f g : Map) : Prop := ∀ b i, f b = some i → g b = some i
theorem Map.le_refl (f : Map) : f.le f := fun _ _ h => h
theorem Map.le_trans {f g h : Map} (a : f.le g) (b : g.le h) : f.le h := fun x i e => b x i (a x i e)

theorem VRel.mono {f g : Map} (hfg : f.le g) {v v' : Value} (h : VRel f v v') : VRel g v v' := by
  induction h with
  | top v => exact .top v
  | bool b => exact .bool b
  | int k n => exact .int k n
  | string s => exact .string s
  | nilPtr => exact .nilPtr
  | ptr b o i h => exact .ptr b o i (hfg _ _ h)
  | nilSlice l c => exact .nilSlice l c
  | slice b o l c i h hc hl => exact .slice b o l c i (hfg _ _ h) hc hl
  | sliceO b o l c lb i o' c' h hc hlb hl hb ho hn => exact .sliceO b o l c lb i o' c' (hfg _ _ h) hc hlb hl hb ho hn
  | nilMap => exact .nilMap
  | map b i h => exact .map b i (hfg _ _ h)
  | func g a c a' c' ha hc va vc iha ihc => exact .func g a c a' c' ha hc iha ihc
  | nilFunc => exact .nilFunc
  | iface t v v' h ih => exact .iface t v v' ih
  | nilIface => exact .nilIface
  | agg a a' hs h ih => exact .agg a a' hs ih
  | tuple a a' hs h ih => exact .tuple a a' hs ih

theorem VRel.undef (f : Map) : VRel f Go.undef Go.undef := .tuple #[] #[] rfl fun i h => by simp at h

/-- lists of values, cell by cell -/
def LRel (f : Map) (l l' : List Value) : Prop := l.length = l'.length ∧ ∀ (i : Nat) (v : Value), l[i]? = some v → ∃ v', l'[i]? = some v' ∧ VRel f v v'
theorem LRel.nil (f : Map) : LRel f [] [] := ⟨rfl, fun i v h => by simp at h⟩
theorem LRel.cons {f : Map} {v v' : Value} {l l' : List Value} (h : VRel f v v') (hl : LRel f l l') : LRel f (v :: l) (v' :: l') := by
  refine ⟨by simp [hl.1], fun i x hx => ?_⟩
  cases i with
  | zero => simp at hx; subst hx; exact ⟨v', rfl, h⟩
  | succ i => simp at hx; obtain ⟨y, hy, hr⟩ := hl.2 i x hx; exact ⟨y, by simpa using hy, hr⟩
theorem LRel.uncons {f : Map} {v : Value} {l l' : List Value} (h : LRel f (v :: l) l') : ∃ v' r, l' = v' :: r ∧ VRel f v v' ∧ LRel f l r := by
  obtain ⟨hl, h⟩ := h
  cases l' with
  | nil => simp at hl
  | cons v' r =>
    refine ⟨v', r, rfl, ?_, by simpa using hl, fun i x hx => ?_⟩
    · obtain ⟨y, hy, hr⟩ := h 0 v rfl; simp at hy; exact hy ▸ hr
    · obtain ⟨y, hy, hr⟩ := h (i + 1) x (by simpa using hx); exact ⟨y, by simpa using hy, hr⟩
theorem LRel.unnil {f : Map} {l' : List Value} (h : LRel f [] l') : l' = [] := by
  cases l' with
  | nil => rfl
  | cons a b => simp [LRel] at h
theorem LRel.mono {f g : Map} (hfg : f.le g) {l l' : List Value} (h : LRel f l l') : LRel g l l' :=
  ⟨h.1, fun i v hv => let ⟨v', a, b⟩ := h.2 i v hv; ⟨v', a, b.mono hfg⟩⟩
theorem LRel.append {f : Map} {a a' b b' : List Value} (h : LRel f a a') (k : LRel f b b') : LRel f (a ++ b) (a' ++ b') := by
  refine ⟨by simp [h.1, k.1], fun i v hv => ?_⟩
  rcases Nat.lt_or_ge i a.length with hi | hi
  · rw [List.getElem?_append_left hi] at hv
    rw [List.getElem?_append_left (by rw [← h.1]; exact hi)]
    exact h.2 i v hv
  · rw [List.getElem?_append_right hi] at hv
    rw [List.getElem?_append_right (by rw [← h.1]; exact hi), ← h.1]
    exact k.2 _ v hv
theorem getD_of_getElem? {a : Array Value} {i : Nat} {v : Value} (h : a[i]? = some v) : a.getD i undef = v := by
  simp [Array.getD_eq_getD_getElem?, h]
theorem LRel.of_array {f : Map} {a a' : Array Value} (hs : a.size = a'.size) (h : ∀ i, i < a.size → VRel f (a.getD i undef) (a'.getD i undef)) : LRel f a.toList a'.toList := by
  refine ⟨by simpa using hs, fun i v hv => ?_⟩
  have hv' : a[i]? = some v := by simpa using hv
  have hi : i < a.size := (Array.getElem?_eq_some_iff.1 hv').1
  have := h i hi
  rw [getD_of_getElem? hv'] at this
  refine ⟨a'[i]'(hs ▸ hi), by simp [hs ▸ hi], ?_⟩
  rwa [getD_of_getElem? (v := a'[i]'(hs ▸ hi)) (by simp [hs ▸ hi])] at this
theorem LRel.to_array {f : Map} {l l' : List Value} (h : LRel f l l') : l.toArray.size = l'.toArray.size ∧ ∀ i, i < l.toArray.size → VRel f (l.toArray.getD i undef) (l'.toArray.getD i undef) := by
  refine ⟨by simpa using h.1, fun i hi => ?_⟩
  have hi' : i < l.length := by simpa using hi
  obtain ⟨v', hv', hr⟩ := h.2 i l[i] (by simp [hi'])
  rw [getD_of_getElem? (v := l[i]) (by simp [hi']), getD_of_getElem? (v := v') (by simpa using hv')]
  exact hr
theorem VRel.agg_list {f : Map} {l l' : List Value} (h : LRel f l l') : VRel f (.agg ⟨l⟩) (.agg l'.toArray) :=
  .agg _ _ (by simpa using h.1) h.to_array.2
theorem VRel.tuple_list {f : Map} {l l' : List Value} (h : LRel f l l') : VRel f (.tuple ⟨l⟩) (.tuple l'.toArray) :=
  .tuple _ _ (by simpa using h.1) h.to_array.2

/-- the cells of a value, as a list -/
def cellsL (v : Value) : List Value := match v with | .agg a => a.toList | v => [v]
theorem cellsL_eq (v : Value) : cellsL v = v.cells.toList := by cases v <;> rfl
def isTop (v : Value) : Bool := match v with | .chan _ => true | _ => false
theorem VRel.cells {f : Map} {v v' : Value} (h : VRel f v v') (ht : isTop v = false) : LRel f (cellsL v) v'.cells.toList := by
  cases h with
  | top v => simp [isTop] at ht
  | agg a a' hs h => exact LRel.of_array hs h
  | _ => exact LRel.cons (by constructor <;> assumption) (LRel.nil f)

/- ===== abstract heaps ===== -/
def vTag (v : Value) : Nat := match v with | .bool _ => 1 | .int .. => 2 | .string _ => 3 | _ => 0
inductive AObj where
  /-- a row: cells, how many are covered, the element type, does it end here, may some of it be frozen -/
  | row (cells : T Value) (n : Nat) (elem : TypeId) (cl : Bool) (ro : Bool)
  | iter (s : ByteArray) (pos : Nat)
  /-- a map: its entries, in the order of their insertion; nothing was deleted -/
  | mp (es : List (Value × Value))
structure Hp where
  bl : T AObj
  next : Nat
  base : Nat
  log : List Nat
def Hp.at (h : Hp) (b : Nat) : Option AObj := h.bl.get (path b)

/-- a row whose element type is not known -/
def UNK : Nat := 1000000000
/-- an object of the heap, seen through the map -/
inductive ORel (f : Map) (i : Img) : AObj → Obj → Prop where
  | row (cells : T Value) (n : Nat) (elem : TypeId) (cl ro : Bool) (arr : Array Value) (elem' : TypeId) (fz : Nat × Nat) (he : elem = elem' ∨ elem = UNK) (hs : arr.size = i.n) (hn : i.o + n ≤ i.n)
      (hcl : cl = true → i.o = 0 ∧ n = i.n) (hro : ro = false → ∀ k, k < i.n → ¬ (fz.1 ≤ k ∧ k < fz.2))
      (hc : ∀ k v, k < n → cells.get (path k) = some v → ∃ v', arr[i.o + k]? = some v' ∧ VRel f v v') : ORel f i (.row cells n elem cl ro) (.cells arr elem' fz)
  | iter (s : ByteArray) (pos : Nat) (h0 : i.o = 0) : ORel f i (.iter s pos) (.stringIter s pos)
  | mp (es : List (Value × Value)) (en : Array MapEntry) (ck : Nat) (hl : en.size = es.length) (hck : ck = en.size)
      (he : ∀ (j : Nat) (e : Value × Value), es[j]? = some e → (0 < vTag e.1 ∧ vTag e.1 < 4) ∧ ∃ x, en[j]? = some x ∧ x.key = e.1 ∧ VRel f e.2 x.val ∧ x.born = j) : ORel f i (.mp es) (.map en ck)

structure HRel (f : Map) (h : Hp) (w : World) : Prop where
  obj : ∀ b o i, f b = some i → h.at b = some o → ∃ x, w.heap[i.blk]? = some x ∧ ORel f i o x
  inj : ∀ b c i j, f b = some i → f c = some j → (h.at b).isSome → (h.at c).isSome → i.blk = j.blk → b = c
  fresh : ∀ b i, f b = some i → b < h.next ∧ i.blk < w.heap.size
  dead : ∀ b, h.next ≤ b → h.at b = none
  base : h.base ≤ h.next

/-- the abstract step: what was not logged stands as it stood -/
structure AStep (h h' : Hp) : Prop where
  base : h'.base = h.base
  next : h.next ≤ h'.next
  log : ∀ b, b ∈ h.log → b ∈ h'.log
  keep : ∀ b, b < h.base → b ∉ h'.log → h'.at b = h.at b
  dead : ∀ b, b < h.next → h.at b = none → h'.at b = none
theorem AStep.refl (h : Hp) : AStep h h := ⟨rfl, Nat.le_refl _, fun _ h => h, fun _ _ _ => rfl, fun _ _ e => e⟩
theorem AStep.trans {a b c : Hp} (x : AStep a b) (y : AStep b c) : AStep a c :=
  ⟨y.base.trans x.base, Nat.le_trans x.next y.next, fun k h => y.log k (x.log k h),
    fun k hk hn => (y.keep k (by rw [x.base]; exact hk) hn).trans (x.keep k hk fun e => hn (y.log k e)),
    fun k hk e => y.dead k (Nat.lt_of_lt_of_le hk x.next) (x.dead k hk e)⟩

/-- the concrete step that goes with it -/
structure CStep (f : Map) (h : Hp) (w : World) (f' : Map) (h' : Hp) (w' : World) : Prop where
  pre : HRel f h w
  le : f.le f'
  rel : HRel f' h' w'
  size : w.heap.size ≤ w'.heap.size
  tape : w'.tape = w.tape
  os : w'.os = w.os
  out : w'.output = w.output
  keep : ∀ c, c < w.heap.size → (∀ b i, f b = some i → i.blk = c → (h.at b).isSome → b < h.base ∧ b ∉ h'.log) → w'.heap[c]? = w.heap[c]?
  news : ∀ b i, f b = none → f' b = some i → h.next ≤ b ∧ (w.heap.size ≤ i.blk ∨ ∃ c j, f c = some j ∧ j.blk = i.blk ∧ (h.at c).isSome ∧ (h.base ≤ c ∨ c ∈ h'.log))
theorem CStep.refl {f : Map} {h : Hp} {w : World} (hr : HRel f h w) : CStep f h w f h w :=
  ⟨hr, Map.le_refl f, hr, Nat.le_refl _, rfl, rfl, rfl, fun _ _ _ => rfl, fun b i e e' => by rw [e] at e'; cases e'⟩
theorem CStep.trans {f f1 f2 : Map} {h h1 h2 : Hp} {w w1 w2 : World} (x : CStep f h w f1 h1 w1) (ax : AStep h h1) (ay : AStep h1 h2) (y : CStep f1 h1 w1 f2 h2 w2) :
    CStep f h w f2 h2 w2 := by
  have live : ∀ b i, f b = some i → (h1.at b).isSome → (h.at b).isSome := fun b i hb hl => by
    cases e : h.at b with
    | some _ => rfl
    | none => rw [ax.dead b (x.pre.fresh b i hb).1 e] at hl; cases hl
  refine ⟨x.pre, Map.le_trans x.le y.le, y.rel, Nat.le_trans x.size y.size, y.tape.trans x.tape, y.os.trans x.os, y.out.trans x.out, ?_, ?_⟩
  · intro c hc hall
    have h1 : w1.heap[c]? = w.heap[c]? := x.keep c hc fun b i hb hi hl => ⟨(hall b i hb hi hl).1, fun e => (hall b i hb hi hl).2 (ay.log _ e)⟩
    refine (y.keep c (Nat.lt_of_lt_of_le hc x.size) fun b i hb hi hl => ?_).trans h1
    cases hfb : f b with
    | some j =>
      have := x.le b j hfb
      rw [hb] at this; cases this
      rw [ax.base]
      exact hall b i hfb hi (live b i hfb hl)
    | none =>
      obtain ⟨hge, hor⟩ := x.news b i hfb hb
      rcases hor with hor | ⟨c', j, hj, hjb, hlive, hbase⟩
      · omega
      · obtain ⟨p, q⟩ := hall c' j hj (hjb.trans hi) hlive
        rcases hbase with hb' | hb'
        · omega
        · exact absurd (ay.log _ hb') q
  · intro b i hb hb2
    cases hf1 : f1 b with
    | some j =>
      have := y.le b j hf1
      rw [hb2] at this; cases this
      obtain ⟨hge, hor⟩ := x.news b i hb hf1
      exact ⟨hge, hor.imp id fun ⟨c, j, hj, e, hl, hh⟩ => ⟨c, j, hj, e, hl, hh.imp id (ay.log _)⟩⟩
    | none =>
      obtain ⟨hge, hor⟩ := y.news b i hf1 hb2
      refine ⟨Nat.le_trans ax.next hge, ?_⟩
      rcases hor with hor | ⟨c, j, hj, e, hl, hh⟩
      · exact .inl (Nat.le_trans x.size hor)
      · cases hfc : f c with
        | some j' =>
          have := x.le c j' hfc
          rw [hj] at this; cases this
          exact .inr ⟨c, j, hfc, e, live c j hfc hl, by rw [← ax.base]; exact hh⟩
        | none =>
          obtain ⟨_, hor'⟩ := x.news c j hfc hj
          rcases hor' with hor' | ⟨c', j', hj', e', hl', hh'⟩
          · exact .inl (by omega)
          · exact .inr ⟨c', j', hj', e'.trans e, hl', hh'.imp id (ay.log _)⟩
end
end Abs
end Go
/- A certified evaluator for closed calls, part B: the steps of the abstract heap (put, new, consume) and what they are in a world. -/
namespace Go
namespace Abs
noncomputable section

theorem Map.none_of_ge {f : Map} {h : Hp} {w : World} (hr : HRel f h w) {b : Nat} (hb : h.next ≤ b) : f b = none := by
  cases e : f b with
  | none => rfl
  | some i => exact absurd (hr.fresh b i e).1 (by omega)

/-- the log, when a block below the base is touched -/
def logs (base : Nat) (log : List Nat) (b : Nat) : List Nat :=
  bif Nat.blt b base then (match log with | [] => [b] | c :: r => bif Nat.beq c b then c :: r else b :: c :: r) else log
theorem mem_logs {base : Nat} {log : List Nat} {b c : Nat} (h : c ∈ log) : c ∈ logs base log b := by
  unfold logs
  cases Nat.blt b base with
  | false => exact h
  | true =>
    cases log with
    | nil => cases h
    | cons d r =>
      show c ∈ (bif Nat.beq d b then d :: r else b :: d :: r)
      cases Nat.beq d b with
      | true => exact h
      | false => exact List.mem_cons_of_mem _ h
theorem self_logs {base : Nat} {log : List Nat} {b : Nat} (h : b < base) : b ∈ logs base log b := by
  unfold logs
  have e : Nat.blt b base = true := Nat.blt_eq.mpr h
  rw [e]
  cases log with
  | nil => simp
  | cons d r =>
    show b ∈ (bif Nat.beq d b then d :: r else b :: d :: r)
    cases hb : Nat.beq d b with
    | true => have := Nat.eq_of_beq_eq_true hb; subst this; simp
    | false => simp

def Hp.put (h : Hp) (b : Nat) (o : Option AObj) : Hp := ⟨T.set (path b) h.bl o, h.next, h.base, logs h.base h.log b⟩
def Hp.putK {R : Type} (h : Hp) (b : Nat) (o : Option AObj) (k : Hp → R) : R := T.setK (path b) h.bl o fun bl => k ⟨bl, h.next, h.base, logs h.base h.log b⟩
theorem Hp.putK_eq {R : Type} (h : Hp) (b : Nat) (o : Option AObj) (k : Hp → R) : h.putK b o k = k (h.put b o) := T.setK_eq _ _ _ _
def Hp.new (h : Hp) (o : AObj) : Hp := ⟨T.set (path h.next) h.bl (some o), Nat.succ h.next, h.base, h.log⟩
def Hp.newK {R : Type} (h : Hp) (o : AObj) (k : Nat → Hp → R) : R :=
  T.setK (path h.next) h.bl (some o) fun bl => forceNat (Nat.succ h.next) fun nx => k h.next ⟨bl, nx, h.base, h.log⟩
theorem Hp.newK_eq {R : Type} (h : Hp) (o : AObj) (k : Nat → Hp → R) : h.newK o k = k h.next (h.new o) := by
  unfold Hp.newK
  rw [T.setK_eq, forceNat_eq]; rfl

theorem Hp.at_put (h : Hp) (b c : Nat) (o : Option AObj) : (h.put b o).at c = if b = c then o else h.at c := get_set_path _ _ _ _
theorem Hp.at_new (h : Hp) (c : Nat) (o : AObj) : (h.new o).at c = if h.next = c then some o else h.at c := get_set_path _ _ _ _

theorem AStep.put {h : Hp} {b : Nat} (o : Option AObj) (hl : (h.at b).isSome) : AStep h (h.put b o) := by
  refine ⟨rfl, Nat.le_refl _, fun c hc => mem_logs hc, fun c hc hn => ?_, fun c _ e => ?_⟩
  · rw [Hp.at_put]
    by_cases hbc : b = c
    · subst hbc; exact absurd (self_logs hc) hn
    · rw [if_neg hbc]
  · rw [Hp.at_put]
    by_cases hbc : b = c
    · subst hbc; rw [e] at hl; cases hl
    · rw [if_neg hbc]; exact e
theorem AStep.new {h : Hp} (o : AObj) (hb : h.base ≤ h.next) : AStep h (h.new o) := by
  refine ⟨rfl, Nat.le_succ _, fun c hc => hc, fun c hc hn => ?_, fun c hc e => ?_⟩
  · rw [Hp.at_new, if_neg (by omega)]
  · rw [Hp.at_new, if_neg (by omega)]; exact e

theorem ORel.mono {f g : Map} (hfg : f.le g) {i : Img} {o : AObj} {x : Obj} (h : ORel f i o x) : ORel g i o x := by
  cases h with
  | row cells n elem cl ro arr elem' fz he hs hn hcl hro hc =>
    exact .row cells n elem cl ro arr elem' fz he hs hn hcl hro fun k v hk hv => let ⟨v', a, b⟩ := hc k v hk hv; ⟨v', a, b.mono hfg⟩
  | iter s pos h0 => exact .iter s pos h0
  | mp es en ck hl hck he => exact .mp es en ck hl hck fun j e hj => let ⟨p, x, a, b, c, d⟩ := he j e hj; ⟨p, x, a, b, c.mono hfg, d⟩

/-- a block is written -/
theorem CStep.put {f : Map} {h : Hp} {w w' : World} {b : Nat} {i : Img} {o : AObj} {x : Obj} (hr : HRel f h w) (hb : f b = some i) (hl : (h.at b).isSome)
    (hx : w'.heap[i.blk]? = some x) (ho : ORel f i o x) (hsz : w'.heap.size = w.heap.size) (hne : ∀ c, c ≠ i.blk → w'.heap[c]? = w.heap[c]?)
    (ht : w'.tape = w.tape) (hos : w'.os = w.os) (hout : w'.output = w.output) : CStep f h w f (h.put b (some o)) w' := by
  refine ⟨hr, Map.le_refl f, ⟨?_, ?_, ?_, ?_, hr.base⟩, by omega, ht, hos, hout, ?_, fun c j e e' => by rw [e] at e'; cases e'⟩
  · intro c o' j hc ho'
    rw [Hp.at_put] at ho'
    by_cases hbc : b = c
    · subst hbc
      rw [if_pos rfl] at ho'; cases ho'
      rw [hb] at hc; cases hc
      exact ⟨x, hx, ho⟩
    · rw [if_neg hbc] at ho'
      obtain ⟨y, hy, hor⟩ := hr.obj c o' j hc ho'
      refine ⟨y, ?_, hor⟩
      rw [hne]
      · exact hy
      · intro e
        exact hbc (hr.inj b c i j hb hc hl (by rw [ho']; rfl) e.symm)
  · intro c d j k hc hd hlc hld e
    refine hr.inj c d j k hc hd ?_ ?_ e
    · rw [Hp.at_put] at hlc
      by_cases hbc : b = c
      · subst hbc; exact hl
      · rwa [if_neg hbc] at hlc
    · rw [Hp.at_put] at hld
      by_cases hbc : b = d
      · subst hbc; exact hl
      · rwa [if_neg hbc] at hld
  · intro c j hc
    have := hr.fresh c j hc
    exact ⟨this.1, by omega⟩
  · intro c hc
    rw [Hp.at_put]
    by_cases hbc : b = c
    · subst hbc; exact absurd (hr.fresh b i hb).1 (by have : h.next ≤ b := hc; omega)
    · rw [if_neg hbc]; exact hr.dead c hc
  · intro c hc hall
    refine hne c fun e => ?_
    subst e
    obtain ⟨p, q⟩ := hall b i hb rfl hl
    exact q (self_logs p)

def Map.ext (f : Map) (b : Nat) (i : Img) : Map := fun c => if c = b then some i else f c
theorem Map.ext_self (f : Map) (b : Nat) (i : Img) : (f.ext b i) b = some i := if_pos rfl
theorem Map.ext_ne (f : Map) {b c : Nat} (i : Img) (h : c ≠ b) : (f.ext b i) c = f c := if_neg h
theorem Map.le_ext {f : Map} {b : Nat} (i : Img) (h : f b = none) : f.le (f.ext b i) := by
  intro c j hc
  by_cases e : c = b
  · subst e; rw [h] at hc; cases hc
  · rw [Map.ext_ne f i e]; exact hc

/-- a new block -/
theorem CStep.new {f : Map} {h : Hp} {w w' : World} {i : Img} {o : AObj} {x : Obj} (hr : HRel f h w) (hi : i.blk = w.heap.size)
    (ho : ORel (f.ext h.next i) i o x) (hheap : w'.heap = w.heap.push x) (ht : w'.tape = w.tape) (hos : w'.os = w.os) (hout : w'.output = w.output) :
    CStep f h w (f.ext h.next i) (h.new o) w' := by
  have hn : f h.next = none := Map.none_of_ge hr (Nat.le_refl _)
  have hle := Map.le_ext i hn
  have hsz : w'.heap.size = w.heap.size + 1 := by rw [hheap]; simp
  have hold : ∀ c, c < w.heap.size → w'.heap[c]? = w.heap[c]? := fun c hc => by
    rw [hheap, Array.getElem?_push, if_neg (by omega)]
  refine ⟨hr, hle, ⟨?_, ?_, ?_, ?_, Nat.le_succ_of_le hr.base⟩, by omega, ht, hos, hout, fun c hc _ => hold c hc, ?_⟩
  · intro c o' j hc ho'
    rw [Hp.at_new] at ho'
    by_cases e : c = h.next
    · subst e
      rw [if_pos rfl] at ho'; cases ho'
      rw [Map.ext_self] at hc; cases hc
      exact ⟨x, by rw [hheap, hi]; simp, ho⟩
    · rw [if_neg (fun q => e q.symm)] at ho'
      rw [Map.ext_ne f i e] at hc
      obtain ⟨y, hy, hor⟩ := hr.obj c o' j hc ho'
      exact ⟨y, (hold _ (hr.fresh c j hc).2).trans hy, hor.mono hle⟩
  · intro c d j k hc hd hlc hld e
    by_cases ec : c = h.next <;> by_cases ed : d = h.next
    · rw [ec, ed]
    · subst ec
      rw [Map.ext_self] at hc; cases hc
      rw [Map.ext_ne f i ed] at hd
      have := (hr.fresh d k hd).2
      omega
    · subst ed
      rw [Map.ext_self] at hd; cases hd
      rw [Map.ext_ne f i ec] at hc
      have := (hr.fresh c j hc).2
      omega
    · rw [Map.ext_ne f i ec] at hc
      rw [Map.ext_ne f i ed] at hd
      rw [Hp.at_new, if_neg (fun q => ec q.symm)] at hlc
      rw [Hp.at_new, if_neg (fun q => ed q.symm)] at hld
      exact hr.inj c d j k hc hd hlc hld e
  · intro c j hc
    by_cases ec : c = h.next
    · subst ec
      rw [Map.ext_self] at hc; cases hc
      exact ⟨Nat.lt_succ_self _, by omega⟩
    · rw [Map.ext_ne f i ec] at hc
      have := hr.fresh c j hc
      exact ⟨Nat.lt_succ_of_lt this.1, by omega⟩
  · intro c hc
    have hc' : h.next < c := hc
    rw [Hp.at_new, if_neg (by omega)]
    exact hr.dead c (by omega)
  · intro c j hc hc'
    by_cases ec : c = h.next
    · subst ec
      rw [Map.ext_self] at hc'; cases hc'
      exact ⟨Nat.le_refl _, .inl (by omega)⟩
    · rw [Map.ext_ne f i ec, hc] at hc'; cases hc'

/-- a block is used up: what was it becomes a new one, that lies where it lay -/
theorem CStep.consume {f : Map} {h : Hp} {w w' : World} {b : Nat} {i j : Img} {o : AObj} {x : Obj} (hr : HRel f h w) (hb : f b = some i) (hl : (h.at b).isSome)
    (hij : j.blk = i.blk) (hx : w'.heap[i.blk]? = some x) (ho : ORel (f.ext h.next j) j o x) (hsz : w'.heap.size = w.heap.size) (hne : ∀ c, c ≠ i.blk → w'.heap[c]? = w.heap[c]?)
    (ht : w'.tape = w.tape) (hos : w'.os = w.os) (hout : w'.output = w.output) : CStep f h w (f.ext h.next j) ((h.put b none).new o) w' := by
  have hn : f h.next = none := Map.none_of_ge hr (Nat.le_refl _)
  have hle := Map.le_ext j hn
  have hbn : b ≠ h.next := fun e => by subst e; rw [hn] at hb; cases hb
  have hat : ∀ c, ((h.put b none).new o).at c = if h.next = c then some o else if b = c then none else h.at c := fun c => by
    rw [Hp.at_new, Hp.at_put]; rfl
  refine ⟨hr, hle, ⟨?_, ?_, ?_, ?_, Nat.le_succ_of_le hr.base⟩, by omega, ht, hos, hout, ?_, ?_⟩
  · intro c o' k hc ho'
    rw [hat] at ho'
    by_cases e : c = h.next
    · subst e
      rw [if_pos rfl] at ho'; cases ho'
      rw [Map.ext_self] at hc; cases hc
      exact ⟨x, by rw [hij]; exact hx, ho⟩
    · rw [if_neg (fun q => e q.symm)] at ho'
      rw [Map.ext_ne f j e] at hc
      by_cases e2 : b = c
      · rw [if_pos e2] at ho'; cases ho'
      · rw [if_neg e2] at ho'
        obtain ⟨y, hy, hor⟩ := hr.obj c o' k hc ho'
        refine ⟨y, ?_, hor.mono hle⟩
        rw [hne]
        · exact hy
        · intro q
          exact e2 (hr.inj b c i k hb hc hl (by rw [ho']; rfl) q.symm)
  · intro c d k m hc hd hlc hld e
    rw [hat] at hlc hld
    by_cases ec : c = h.next <;> by_cases ed : d = h.next
    · rw [ec, ed]
    · subst ec
      rw [Map.ext_self] at hc; cases hc
      rw [Map.ext_ne f j ed] at hd
      rw [if_neg (fun q => ed q.symm)] at hld
      by_cases e2 : b = d
      · rw [if_pos e2] at hld; cases hld
      · rw [if_neg e2] at hld
        exact absurd (hr.inj b d i m hb hd hl hld (by omega)) e2
    · subst ed
      rw [Map.ext_self] at hd; cases hd
      rw [Map.ext_ne f j ec] at hc
      rw [if_neg (fun q => ec q.symm)] at hlc
      by_cases e2 : b = c
      · rw [if_pos e2] at hlc; cases hlc
      · rw [if_neg e2] at hlc
        exact absurd (hr.inj b c i k hb hc hl hlc (by omega)) e2
    · rw [Map.ext_ne f j ec] at hc
      rw [Map.ext_ne f j ed] at hd
      rw [if_neg (fun q => ec q.symm)] at hlc
      rw [if_neg (fun q => ed q.symm)] at hld
      have lc : (h.at c).isSome := by
        by_cases e2 : b = c
        · rw [if_pos e2] at hlc; cases hlc
        · rwa [if_neg e2] at hlc
      have ld : (h.at d).isSome := by
        by_cases e2 : b = d
        · rw [if_pos e2] at hld; cases hld
        · rwa [if_neg e2] at hld
      exact hr.inj c d k m hc hd lc ld e
  · intro c k hc
    by_cases ec : c = h.next
    · subst ec
      rw [Map.ext_self] at hc; cases hc
      exact ⟨Nat.lt_succ_self _, by have := (hr.fresh b i hb).2; omega⟩
    · rw [Map.ext_ne f j ec] at hc
      have := hr.fresh c k hc
      exact ⟨Nat.lt_succ_of_lt this.1, by omega⟩
  · intro c hc
    have hc' : h.next < c := hc
    rw [hat, if_neg (by omega)]
    by_cases e2 : b = c
    · rw [if_pos e2]
    · rw [if_neg e2]; exact hr.dead c (by omega)
  · intro c hc hall
    refine hne c fun e => ?_
    subst e
    obtain ⟨p, q⟩ := hall b i hb rfl hl
    exact q (self_logs p)
  · intro c k hc hc'
    by_cases ec : c = h.next
    · subst ec
      rw [Map.ext_self] at hc'; cases hc'
      refine ⟨Nat.le_refl _, .inr ⟨b, i, hb, hij.symm, hl, ?_⟩⟩
      rcases Nat.lt_or_ge b h.base with q | q
      · exact .inr (self_logs q)
      · exact .inl q
    · rw [Map.ext_ne f j ec, hc] at hc'; cases hc'

theorem AStep.consume {h : Hp} {b : Nat} (o : AObj) (hl : (h.at b).isSome) (hb : h.base ≤ h.next) : AStep h ((h.put b none).new o) :=
  (AStep.put none hl).trans (AStep.new o hb)
end
end Abs
end Go
/- A certified evaluator for closed calls, part C: the evaluator itself: operations, regions, code, functions. -/
namespace Go
namespace Abs
noncomputable section

/- ===== results ===== -/
inductive Ex where
  | normal | exit (id : Nat) | ret | panic (c : List PanicEntry)
abbrev Df := List (FuncId × List Value)
inductive Res where
  | none
  | val (v : Value) (h : Hp)
  | panic (c : List PanicEntry) (h : Hp)
inductive ResC where
  | none
  | ok (e : Ex) (tm : T Value) (df : Df) (h : Hp)
abbrev Call := FuncId → List Value → Hp → Res
/-- an operation that does not look at the heap -/
abbrev DP := List Value → T Value → Option Value
/-- an operation that looks at one block at most -/
inductive PR where
  | none
  | val (v : Value)
  | read (b : Nat) (g : AObj → Option Value)
abbrev DR := List Value → T Value → PR
/-- any other -/
abbrev DO := Call → List Value → T Value → Hp → Res

/- ===== operands ===== -/
inductive OD where
  | loc (i : Nat)
  | tmp (p : List Bool)
  | val (v : Value)
def oget (o : Option Value) : Value := Option.rec (motive := fun _ => Value) top (fun v => v) o
def nth (l : List Value) (i : Nat) : Value := List.rec (motive := fun _ => Nat → Value) (fun _ => top) (fun v _ ih i => Nat.rec (motive := fun _ => Value) v (fun j _ => ih j) i) l i
def rdO (o : OD) (lo : List Value) (tm : T Value) : Value := OD.rec (motive := fun _ => Value) (nth lo) (fun p => oget (tm.get p)) (fun v => v) o
def rdL (l : List OD) (lo : List Value) (tm : T Value) : List Value := List.rec (motive := fun _ => List Value) [] (fun o _ ih => rdO o lo tm :: ih) l
def idx (ds : List (Option Tmp)) (t : Tmp) : Option Nat := match ds with
  | [] => none
  | d :: r => match d with
    | none => (idx r t).map (· + 1)
    | some u => bif Nat.beq u t then some 0 else (idx r t).map (· + 1)
/-- a constant that bears no address -/
def plainC (v : Value) : Bool := match v with
  | .bool _ | .int .. | .string _ | .pointer none | .slice none _ _ | .map none | .nilFunc | .nilIface => true
  | _ => false
def cOpd (gs : List Nat) (ds : List (Option Tmp)) : Operand → OD
  | .tmp t => match idx ds t with | some i => .loc i | none => .tmp (path t)
  | .const v => .val (bif plainC v then v else top)
  | .global g => .val (bif gs.any (fun x => Nat.beq x g) then .pointer (some ⟨g, 0, none⟩) else top)
  | .func f => .val (.func (.func f) #[] #[])

/- ===== looking into values ===== -/
def vPtr {R : Type} (v : Value) (k : Nat → Nat → R) (z : R) : R := match v with
  | .pointer a => Option.rec (motive := fun _ => R) z (fun a => k a.block a.off) a
  | _ => z
def vInt {R : Type} (v : Value) (k : IntKind → Int → R) (z : R) : R := match v with
  | .int kd n => k kd n
  | _ => z
def vBool {R : Type} (v : Value) (k : Bool → R) (z : R) : R := match v with
  | .bool b => k b
  | _ => z
def vStr {R : Type} (v : Value) (k : ByteArray → R) (z : R) : R := match v with
  | .string s => k s
  | _ => z
def vSl {R : Type} (v : Value) (k : Nat → Nat → Nat → Nat → R) (kn : Nat → Nat → R) (z : R) : R := match v with
  | .slice a l c => Option.rec (motive := fun _ => R) (kn l c) (fun a => k a.block a.off l c) a
  | _ => z
def vAgg {R : Type} (v : Value) (k : List Value → R) (z : R) : R := match v with
  | .agg a => k a.toList
  | _ => z
def vTup {R : Type} (v : Value) (k : List Value → R) (z : R) : R := match v with
  | .tuple a => k a.toList
  | _ => z
def vIface {R : Type} (v : Value) (k : TypeId → Value → R) (kn : R) (z : R) : R := match v with
  | .iface t x => k t x
  | .nilIface => kn
  | _ => z
def vFn {R : Type} (v : Value) (k : FuncId → List Value → List Value → R) (z : R) : R := match v with
  | .func g a c => match g with
    | .func f => k f a.toList c.toList
    | _ => z
  | _ => z
def oEl {α R : Type} (o : Option α) (k : α → R) (z : R) : R := Option.rec (motive := fun _ => R) z k o
def natI {R : Type} (x : Int) (k : Nat → R) (z : R) : R := Int.rec (motive := fun _ => R) k (fun _ => z) x

/-- not the value of one cell, or not known to be -/
def isAgg' (v : Value) : Bool := match v with | .agg _ | .tuple _ | .chan _ => true | _ => false
def allOne (l : List Value) : Bool := List.rec (motive := fun _ => Bool) true (fun v _ ih => bif isAgg' v then false else ih) l
/-- a guard: it holds, it does not (also where the operation that it asks was not carried out) -/
def vGuard {R : Type} (v : Value) (want : Bool) (y n z : R) : R := match v with
  | .bool b => Bool.rec (motive := fun _ => R) (Bool.rec (motive := fun _ => R) y n want) (Bool.rec (motive := fun _ => R) n y want) b
  | .tuple _ => n
  | _ => z
/- ===== memory ===== -/
def rowK {R : Type} (h : Hp) (b : Nat) (k : T Value → Nat → TypeId → Bool → Bool → R) (z : R) : R :=
  oEl (h.bl.get (path b)) (fun o => AObj.rec (motive := fun _ => R) k (fun _ _ => z) (fun _ => z) o) z
def rowO {R : Type} (o : AObj) (k : T Value → Nat → TypeId → Bool → Bool → R) (z : R) : R := AObj.rec (motive := fun _ => R) k (fun _ _ => z) (fun _ => z) o
def loadN (c : T Value) (o : Nat) (n : Nat) (acc : List Value) : Option (List Value) :=
  Nat.rec (motive := fun _ => List Value → Option (List Value)) (fun acc => some acc) (fun n ih acc => oEl (c.get (path (Nat.add o n))) (fun v => ih (v :: acc)) none) n acc
def storeL {R : Type} (l : List Value) (i : Nat) (c : T Value) (k : T Value → R) : R :=
  List.rec (motive := fun _ => Nat → T Value → R) (fun _ c => k c) (fun v _ ih i c => T.setK (path i) c (some v) fun c => ih (Nat.succ i) c) l i c
def len {α : Type} (l : List α) : Nat := List.rec (motive := fun _ => Nat) 0 (fun _ _ ih => Nat.succ ih) l
/-- write cells at a place of a block -/
def writeK {R : Type} (h : Hp) (b o : Nat) (l : List Value) (k : Hp → R) (z : R) : R :=
  rowK h b (fun c n e cl ro => bif ro then z else bif allOne l then bif Nat.ble (Nat.add o (len l)) n then storeL l o c fun c => h.putK b (some (.row c n e cl false)) k else z else z) z
/-- a new row -/
def newRowK {R : Type} (h : Hp) (e : TypeId) (l : List Value) (n : Nat) (cl : Bool) (k : Nat → Hp → R) : R :=
  storeL l 0 .nil fun c => h.newK (.row c n e cl false) k

/- ===== integers ===== -/
def modu : IntKind → Nat
  | .i8 | .u8 => 256 | .i16 | .u16 => 65536 | .i32 | .u32 => 4294967296 | .i64 | .u64 => 18446744073709551616
def half : IntKind → Nat
  | .i8 => 128 | .i16 => 32768 | .i32 => 2147483648 | .i64 => 9223372036854775808 | .u8 => 256 | .u16 => 65536 | .u32 => 4294967296 | .u64 => 18446744073709551616
def fin (M H m : Nat) : Int := bif Nat.blt m H then .ofNat m else .negSucc (Nat.sub (Nat.sub M 1) m)
def fwrap (k : IntKind) (x : Int) : Int := Int.rec (motive := fun _ => Int) (fun a => bif Nat.blt a (half k) then .ofNat a else fin (modu k) (half k) (Nat.mod a (modu k))) (fun a => fin (modu k) (half k) (Nat.sub (Nat.sub (modu k) 1) (Nat.mod a (modu k)))) x
def iadd (x y : Int) : Int := Int.rec (motive := fun _ => Int) (fun a => Int.rec (motive := fun _ => Int) (fun b => .ofNat (Nat.add a b)) (fun _ => x + y) y) (fun _ => x + y) x
def imul (x y : Int) : Int := Int.rec (motive := fun _ => Int) (fun a => Int.rec (motive := fun _ => Int) (fun b => .ofNat (Nat.mul a b)) (fun _ => x * y) y) (fun _ => x * y) x
def ilt (x y : Int) : Bool := Int.rec (motive := fun _ => Bool) (fun a => Int.rec (motive := fun _ => Bool) (fun b => Nat.blt a b) (fun _ => false) y) (fun a => Int.rec (motive := fun _ => Bool) (fun _ => true) (fun b => Nat.blt b a) y) x
def ieq (x y : Int) : Bool := Int.rec (motive := fun _ => Bool) (fun a => Int.rec (motive := fun _ => Bool) (fun b => Nat.beq a b) (fun _ => false) y) (fun a => Int.rec (motive := fun _ => Bool) (fun _ => false) (fun b => Nat.beq b a) y) x
def ishl (x : Int) (n : Nat) : Int := Int.rec (motive := fun _ => Int) (fun a => .ofNat (Nat.mul a (Nat.pow 2 n))) (fun _ => x * 2 ^ n) x
def ishr (x : Int) (n : Nat) : Int := Int.rec (motive := fun _ => Int) (fun a => .ofNat (Nat.div a (Nat.pow 2 n))) (fun a => .negSucc (Nat.div a (Nat.pow 2 n))) x
def itdiv (x y : Int) : Int := Int.rec (motive := fun _ => Int) (fun a => Int.rec (motive := fun _ => Int) (fun b => .ofNat (Nat.div a b)) (fun _ => x.tdiv y) y) (fun _ => x.tdiv y) x
def itmod (x y : Int) : Int := Int.rec (motive := fun _ => Int) (fun a => Int.rec (motive := fun _ => Int) (fun b => .ofNat (Nat.mod a b)) (fun _ => x.tmod y) y) (fun _ => x.tmod y) x
def nmin (a b : Nat) : Nat := bif Nat.ble a b then a else b
def kInt (kd : IntKind) (z : Int) : Option Value := forceInt z fun z => some (.int kd z)
def kNat (kd : IntKind) (z : Nat) : Option Value := forceNat z fun z => some (.int kd (.ofNat z))
def gB (b : Bool) : Option Value := Bool.rec (motive := fun _ => Option Value) (some (.bool false)) (some (.bool true)) b
abbrev G := IntKind → Int → Int → Option Value
def gAdd : G := fun kd x y => kInt kd (fwrap kd (iadd x y))
def gSub : G := fun kd x y => kInt kd (fwrap kd (x - y))
def gMul : G := fun kd x y => kInt kd (fwrap kd (imul x y))
def nn (f : Nat → Nat → Nat) : G := fun kd x y => natI x (fun a => natI y (fun b => forceNat (f a b) fun c => bif Nat.blt c (half kd) then some (.int kd (.ofNat c)) else none) none) none
def gAndNot : G := fun kd x y => natI x (fun a => natI y (fun b => forceNat (Nat.xor a (Nat.land a b)) fun c => bif Nat.blt a (half kd) && Nat.blt c (half kd) then some (.int kd (.ofNat c)) else none) none) none
def gShl : G := fun kd x y => natI y (fun n => kInt kd (fwrap kd (ishl x (nmin n kd.bits)))) none
def gShr : G := fun kd x y => natI y (fun n => kInt kd (ishr x (nmin n kd.bits))) none
def gEq : G := fun _ x y => gB (ieq x y)
def gNe : G := fun _ x y => gB (!ieq x y)
def gLt : G := fun _ x y => gB (ilt x y)
def gLe : G := fun _ x y => gB (!ilt y x)
def gGt : G := fun _ x y => gB (ilt y x)
def gGe : G := fun _ x y => gB (!ilt x y)
def gQuo : G := fun kd x y => bif ieq y 0 then none else kInt kd (fwrap kd (itdiv x y))
def gRem : G := fun kd x y => bif ieq y 0 then none else kInt kd (itmod x y)
def gNone : G := fun _ _ _ => none
def dArith (op : BinOp) : G := match op with
  | .add => gAdd | .sub => gSub | .mul => gMul | .and => nn Nat.land | .or => nn Nat.lor | .xor => nn Nat.xor | .andNot => gAndNot | .shl => gShl | .shr => gShr
  | .eql => gEq | .neq => gNe | .lss => gLt | .leq => gLe | .gtr => gGt | .geq => gGe | .quo => gQuo | .rem => gRem

def kN (k : IntKind) : Nat := match k with | .i8 => 0 | .i16 => 1 | .i32 => 2 | .i64 => 3 | .u8 => 4 | .u16 => 5 | .u32 => 6 | .u64 => 7
def kEq (a b : IntKind) : Bool := Nat.beq (kN a) (kN b)
/- ===== strings: byte by byte ===== -/
def bl (s : ByteArray) : List UInt8 := s.data.toList
def bEq (a b : UInt8) : Bool := Nat.beq a.toNat b.toNat
def lEq (x y : List UInt8) : Bool := List.rec (motive := fun _ => List UInt8 → Bool) (fun y => List.rec (motive := fun _ => Bool) true (fun _ _ _ => false) y) (fun a _ ih y => List.rec (motive := fun _ => Bool) false (fun b r _ => bif bEq a b then ih r else false) y) x y
def lLt (x y : List UInt8) : Bool := List.rec (motive := fun _ => List UInt8 → Bool) (fun y => List.rec (motive := fun _ => Bool) false (fun _ _ _ => true) y) (fun a _ ih y => List.rec (motive := fun _ => Bool) false (fun b r _ => bif Nat.blt a.toNat b.toNat then true else bif bEq a b then ih r else false) y) x y
def mkS (l : List UInt8) : ByteArray := ⟨⟨l⟩⟩
def kStr (l : List UInt8) : Option Value := some (.string (mkS l))
def strOp (op : BinOp) (x y : List UInt8) : Option Value := match op with
  | .add => bif Nat.blt (Nat.add (len x) (len y)) 9223372036854775808 then kStr (x ++ y) else none
  | .eql => gB (lEq x y)
  | .neq => gB (!lEq x y)
  | .lss => gB (lLt x y)
  | .leq => gB (!lLt y x)
  | .gtr => gB (lLt y x)
  | .geq => gB (!lLt x y)
  | _ => none

/- ===== equality of scalars, and of rows of scalars ===== -/
def sEq (x y : Value) : Option Bool := match x with
  | .int k a => vInt y (fun k' b => bif kEq k k' then some (ieq a b) else none) none
  | .bool a => vBool y (fun b => some (a == b)) none
  | .string a => vStr y (fun b => some (lEq (bl a) (bl b))) none
  | _ => none
def sEqT (tag : Nat) (x y : Value) : Option Bool := bif Nat.beq (vTag x) tag then sEq x y else none
/-- the cells at some places are alike (with each the kind of its cell); it ends at the first that are not -/
def leafEq (ls : List (Nat × Nat)) (x y : List Value) : Option Bool := List.rec (motive := fun _ => Option Bool) (some true) (fun i _ ih => oEl (sEqT i.2 (nth x i.1) (nth y i.1)) (fun t => Bool.rec (motive := fun _ => Option Bool) (some false) ih t) none) ls

/- ===== compiled operations ===== -/
inductive Cv where
  | toInt (k : IntKind) | strBytes (e : TypeId) | bytesStr | same
inductive IxK where
  | arr (n s : Nat) | sl (s : Nat)
inductive CO where
  | p (f : DP)
  | r (f : DR)
  | g (f : DO)

/- ===== capacities ===== -/
def isOpen (c : Nat) : Bool := Nat.ble OPEN c
/-- the capacity that is sure -/
def sure (c : Nat) : Nat := bif isOpen c then Nat.mod c OPEN else c
/-- the cells of an element of an open one, and one more -/
def esz (c : Nat) : Nat := Nat.div c OPEN
def openC (s n : Nat) : Nat := Nat.add (Nat.mul OPEN (Nat.succ s)) n
/- ===== operations ===== -/
def ptrV (b o : Nat) : Value := .pointer (some ⟨b, o, none⟩)
def slV (b o l c : Nat) : Value := .slice (some ⟨b, o, none⟩) l c
def oMove (x : OD) : DP := fun lo tm => some (rdO x lo tm)
def oPick (c a b : OD) : DP := fun lo tm => vBool (rdO c lo tm) (fun t => Bool.rec (motive := fun _ => Option Value) (some (rdO b lo tm)) (some (rdO a lo tm)) t) none
def oAlloc (e : TypeId) (z : List Value) (n : Nat) : DO := fun _ _ _ h => newRowK h e z n true fun b h => .val (ptrV b 0) h
def boxV (e : TypeId) (v : Value) (h : Hp) : Res := bif isTop v then .none else newRowK h e (cellsL v) (len (cellsL v)) true fun b h => .val (ptrV b 0) h
def oBox (e : TypeId) (x : OD) : DO := fun _ lo tm h => boxV e (rdO x lo tm) h
/-- cells laid over a list at a place -/
def over (z : List Value) (off : Nat) (l : List Value) : List Value :=
  Nat.rec (motive := fun _ => List Value → List Value) (fun z => List.rec (motive := fun _ => List Value → List Value) (fun z => z) (fun v _ ih z => List.rec (motive := fun _ => List Value) [] (fun _ r _ => v :: ih r) z) l z)
    (fun _ ih z => List.rec (motive := fun _ => List Value) [] (fun x r _ => x :: ih r) z) off z
def fill1 {R : Type} (o n : Nat) (v : Value) (z : List Value) (k : List Value → R) (no : R) : R :=
  bif isTop v then no else bif Nat.beq (len (cellsL v)) n then bif Nat.ble (Nat.add o n) (len z) then k (over z o (cellsL v)) else no else no
def fillK {R : Type} (parts : List (Nat × Nat × OD)) (lo : List Value) (tm : T Value) (z : List Value) (k : List Value → R) (no : R) : R :=
  List.rec (motive := fun _ => List Value → R) k (fun p _ ih z => fill1 p.1 p.2.1 (rdO p.2.2 lo tm) z ih no) parts z
def oBuild (z : List Value) (parts : List (Nat × Nat × OD)) : DP := fun lo tm => fillK parts lo tm z (fun l => some (.agg ⟨l⟩)) none
def oBuildS (e : TypeId) (n : Nat) (z : List Value) (parts : List (Nat × Nat × OD)) : DO := fun _ lo tm h => fillK parts lo tm z (fun l => newRowK h e l (len l) true fun b h => .val (slV b 0 n n) h) .none
def load1 (v : Value) : PR := vPtr v (fun b o => .read b fun ob => rowO ob (fun c n _ _ _ => bif Nat.blt o n then c.get (path o) else none) none) .none
def loadA (m : Nat) (v : Value) : PR := vPtr v (fun b o => .read b fun ob => rowO ob (fun c n _ _ _ => bif Nat.ble (Nat.add o m) n then oEl (loadN c o m []) (fun l => some (.agg ⟨l⟩)) none else none) none) .none
def oLoad1 (a : OD) : DR := fun lo tm => load1 (rdO a lo tm)
def oLoadA (m : Nat) (a : OD) : DR := fun lo tm => loadA m (rdO a lo tm)
def oStore1 (a x : OD) : DO := fun _ lo tm h => vPtr (rdO a lo tm) (fun b o => writeK h b o [rdO x lo tm] (fun h => .val undef h) .none) .none
def oStoreA (n : Nat) (a x : OD) : DO := fun _ lo tm h => vPtr (rdO a lo tm) (fun b o => vAgg (rdO x lo tm) (fun l => bif Nat.beq (len l) n then writeK h b o l (fun h => .val undef h) .none else .none) .none) .none
def nilChk (v : Value) : Option Value := match v with
  | .pointer a => Option.rec (motive := fun _ => Option Value) none (fun a => some (.pointer (some a))) a
  | .func g a c => (match g with | .func f => some (.func (.func f) a c) | _ => none)
  | _ => none
def oNilChk (x : OD) : DP := fun lo tm => nilChk (rdO x lo tm)
def oArith (g : G) (x y : OD) : DP := fun lo tm => vInt (rdO x lo tm) (fun kd a => vInt (rdO y lo tm) (fun kd' b => bif kEq kd kd' then g kd a b else none) none) none
def oShift (g : G) (x y : OD) : DP := fun lo tm => vInt (rdO x lo tm) (fun kd a => vInt (rdO y lo tm) (fun _ b => g kd a b) none) none
def oStrOp (op : BinOp) (x y : OD) : DP := fun lo tm => vStr (rdO x lo tm) (fun a => vStr (rdO y lo tm) (fun b => strOp op (bl a) (bl b)) none) none
def bEqB (a b : Bool) : Bool := Bool.rec (motive := fun _ => Bool) (Bool.rec (motive := fun _ => Bool) true false b) b a
def oBoolEq (neg : Bool) (x y : OD) : DP := fun lo tm => vBool (rdO x lo tm) (fun a => vBool (rdO y lo tm) (fun b => gB (bEqB neg (!bEqB a b))) none) none
def oEqA (ls : List (Nat × Nat)) (neg : Bool) (x y : OD) : DP := fun lo tm => vAgg (rdO x lo tm) (fun a => vAgg (rdO y lo tm) (fun b => oEl (leafEq ls a b) (fun t => gB (bEqB neg (!t))) none) none) none
def nilP (v : Value) : Option Bool := match v with | .pointer a => Option.rec (motive := fun _ => Option Bool) (some true) (fun _ => some false) a | _ => none
def nilS (v : Value) : Option Bool := match v with | .slice a _ _ => Option.rec (motive := fun _ => Option Bool) (some true) (fun _ => some false) a | _ => none
def nilM (v : Value) : Option Bool := match v with | .map a => Option.rec (motive := fun _ => Option Bool) (some true) (fun _ => some false) a | _ => none
def nilF (v : Value) : Option Bool := match v with | .nilFunc => some true | .func .. => some false | _ => none
def nilI (v : Value) : Option Bool := match v with | .nilIface => some true | .iface .. => some false | _ => none
def oEqNil (isn : Value → Option Bool) (neg : Bool) (x : OD) : DP := fun lo tm => oEl (isn (rdO x lo tm)) (fun t => gB (bEqB neg (!t))) none
/-- two pointers: where both are not nil, into one block -/
def eqP (x y : Value) : Option Bool := match x with
  | .pointer a => (match y with
    | .pointer b => Option.rec (motive := fun _ => Option Bool) (Option.rec (motive := fun _ => Option Bool) (some true) (fun _ => some false) b)
        (fun a => Option.rec (motive := fun _ => Option Bool) (some false) (fun b => bif Nat.beq a.block b.block then some (Nat.beq a.off b.off) else none) b) a
    | _ => none)
  | _ => none
def oEqP (neg : Bool) (x y : OD) : DP := fun lo tm => oEl (eqP (rdO x lo tm) (rdO y lo tm)) (fun t => gB (bEqB neg (!t))) none
/-- a pointer as an unsafe.Pointer, and back as a pointer to the row's own type -/
def toUP (v : Value) : PR := match v with
  | .pointer a => Option.rec (motive := fun _ => PR) (.val (.pointer none)) (fun a => .read a.block fun ob => rowO ob (fun _ n _ _ _ => bif Nat.blt a.off n then some (ptrV a.block a.off) else none) none) a
  | _ => .none
def ofUP (u s : Nat) (v : Value) : PR := match v with
  | .pointer a => Option.rec (motive := fun _ => PR) (.val (.pointer none)) (fun a => .read a.block fun ob => rowO ob (fun _ n e cl _ => bif cl && Nat.beq e u && Nat.blt a.off n && Nat.beq (Nat.mod a.off s) 0 && Nat.ble (Nat.add a.off s) n then some (ptrV a.block a.off) else none) none) a
  | _ => .none
def oToUP (x : OD) : DR := fun lo tm => toUP (rdO x lo tm)
def oOfUP (u s : Nat) (x : OD) : DR := fun lo tm => ofUP u s (rdO x lo tm)
/-- two interface values that hold scalars: 'sc' tells the types that are scalar -/
def eqI (sc : TypeId → Nat) (x y : Value) : Option Bool := vIface x
  (fun u v => vIface y (fun u' w => bif Nat.beq u u' then (sEqT (sc u) v w) else some false) (some false) none)
  (vIface y (fun _ _ => some false) none none) none
def oEqI (sc : TypeId → Nat) (neg : Bool) (x y : OD) : DP := fun lo tm => oEl (eqI sc (rdO x lo tm) (rdO y lo tm)) (fun t => gB (bEqB neg (!t))) none
def oNot (x : OD) : DP := fun lo tm => vBool (rdO x lo tm) (fun b => gB (!b)) none
def oNeg (x : OD) : DP := fun lo tm => vInt (rdO x lo tm) (fun kd a => kInt kd (fwrap kd (-a))) none
def isSigned (k : IntKind) : Bool := match k with | .i8 | .i16 | .i32 | .i64 => true | _ => false
def oXor (x : OD) : DP := fun lo tm => vInt (rdO x lo tm) (fun kd a => bif isSigned kd then none else natI a (fun a => bif Nat.blt a (modu kd) then kNat kd (Nat.sub (Nat.sub (modu kd) 1) a) else none) none) none
def byteV (b : UInt8) : Value := .int .u8 (.ofNat b.toNat)
def mapB (l : List UInt8) : List Value := List.rec (motive := fun _ => List Value) [] (fun b _ ih => byteV b :: ih) l
/-- bytes out of cells -/
def bytesOf (l : List Value) : Option (List UInt8) :=
  List.rec (motive := fun _ => Option (List UInt8)) (some []) (fun v _ ih => vInt v (fun kd x => bif Nat.beq (kN kd) 4 then natI x (fun n => bif Nat.blt n 256 then oEl ih (fun r => some (UInt8.ofNat n :: r)) none else none) none else none) none) l
/-- the cells that a slice covers -/
def cellsOb (ob : AObj) (o n : Nat) : Option (List Value) := rowO ob (fun c m _ _ _ => bif Nat.ble (Nat.add o n) m then loadN c o n [] else none) none
def cellsOf (h : Hp) (b o n : Nat) : Option (List Value) := oEl (h.bl.get (path b)) (fun ob => cellsOb ob o n) none
def oToInt (kd : IntKind) (x : OD) : DP := fun lo tm => vInt (rdO x lo tm) (fun _ a => kInt kd (fwrap kd a)) none
def oStrBytes (e : TypeId) (x : OD) : DO := fun _ lo tm h => vStr (rdO x lo tm) (fun s => forceNat (len (bl s)) fun n => bif Nat.blt n OPEN then newRowK h e (mapB (bl s)) n false fun b h => forceNat (openC 1 n) fun c => .val (slV b 0 n c) h else .none) .none
def toPR (o : Option Value) : PR := oEl o PR.val .none
/-- the bytes of a string or of a slice of bytes -/
def bsPR (v : Value) (k : List UInt8 → Option Value) : PR := match v with
  | .string s => toPR (k (bl s))
  | .slice a l _ => bif Nat.beq l 0 then toPR (k []) else Option.rec (motive := fun _ => PR) .none (fun a => .read a.block fun ob => oEl (cellsOb ob a.off l) (fun cs => oEl (bytesOf cs) k none) none) a
  | _ => .none
def bytesStr (v : Value) : PR := match v with
  | .slice a l _ => Option.rec (motive := fun _ => PR) (.val (.string (mkS []))) (fun a => bif Nat.beq l 0 then .val (.string (mkS [])) else .read a.block fun ob => oEl (cellsOb ob a.off l) (fun cs => oEl (bytesOf cs) kStr none) none) a
  | _ => .none
def oBytesStr (x : OD) : DR := fun lo tm => bytesStr (rdO x lo tm)
def oSameStr (x : OD) : DP := fun lo tm => vStr (rdO x lo tm) (fun s => some (.string s)) none
def oMkI (t : TypeId) (x : OD) : DP := fun lo tm => some (.iface t (rdO x lo tm))
def oMkF (g : FuncId) (first cap : List OD) : DP := fun lo tm => some (.func (.func g) ⟨rdL first lo tm⟩ ⟨rdL cap lo tm⟩)
def repL (n : Nat) (z : List Value) : List Value := Nat.rec (motive := fun _ => List Value) [] (fun _ ih => z ++ ih) n
def vNat {R : Type} (v : Value) (k : Nat → R) (z : R) : R := vInt v (fun _ i => natI i k z) z
def oMkS (e : TypeId) (z : List Value) (bytes : Nat) (n c : OD) : DO := fun _ lo tm h => vNat (rdO n lo tm) (fun n => vNat (rdO c lo tm) (fun c =>
  bif Nat.ble n c then bif Nat.ble (Nat.mul bytes c) 16777216 then bif Nat.ble c 16777216 then newRowK h e (repL c z) (len (repL c z)) true fun b h => forceNat n fun n => forceNat c fun c => .val (slV b 0 n c) h else .none else .none else .none) .none) .none
/-- bounds of a slice expression: none where it would panic -/
def bndK {R : Type} (o : Option OD) (lo : List Value) (tm : T Value) (dflt top_ : Nat) (k : Nat → R) (z : R) : R :=
  Option.rec (motive := fun _ => R) (k dflt) (fun x => vNat (rdO x lo tm) (fun i => bif Nat.ble i top_ then forceNat i k else z) z) o
/-- a slice, from 'lw' on, up to 'hi', with the capacity up to 'm' -/
def cutSl (b o s lw hi m : Nat) : Option Value := forceNat (Nat.add o (Nat.mul lw s)) fun o => forceNat (Nat.sub hi lw) fun l => forceNat (Nat.sub m lw) fun c => some (slV b o l c)
def cutC (b o s lw hi m : Nat) : Option Value := bif Nat.beq lw m then some (slV b o 0 0) else cutSl b o s lw hi m
def cutO (b o s lw hi c : Nat) : Option Value := bif Nat.beq lw 0 then some (slV b o hi c) else bif Nat.beq (esz c) (Nat.succ s) then (bif Nat.blt lw (sure c) then cutSl b o s lw hi c else forceNat (Nat.sub c (sure c)) fun c => some (slV b o 0 c)) else none
def slice3 (s : Nat) (lo' hi : Option OD) (lo : List Value) (tm : T Value) (b o l c : Nat) : Option Value :=
  bndK hi lo tm l (sure c) (fun hi => bndK lo' lo tm 0 hi (fun lw => bif isOpen c then cutO b o s lw hi c else cutC b o s lw hi c) none) none
def slice4 (s : Nat) (lo' hi : Option OD) (mx : OD) (lo : List Value) (tm : T Value) (b o c : Nat) : Option Value :=
  bif isOpen c && Nat.beq (sure c) 0 then none else bndK (some mx) lo tm 0 (sure c) (fun m => Option.rec (motive := fun _ => Option Value) none (fun hi => bndK (some hi) lo tm 0 m (fun hi => bndK lo' lo tm 0 hi (fun lw => cutC b o s lw hi m) none) none) hi) none
def oSlS (s : Nat) (x : OD) (lo' hi mx : Option OD) : DP := fun lo tm => vSl (rdO x lo tm)
  (fun b o l c => Option.rec (motive := fun _ => Option Value) (slice3 s lo' hi lo tm b o l c) (fun m => slice4 s lo' hi m lo tm b o c) mx)
  (fun l c => bif Nat.beq l 0 then bif Nat.beq c 0 then Option.rec (motive := fun _ => Option Value) (bndK hi lo tm 0 0 (fun _ => bndK lo' lo tm 0 0 (fun _ => some (.slice none 0 0)) none) none) (fun _ => none) mx else none else none) none
def dropL {α : Type} (n : Nat) (l : List α) : List α := Nat.rec (motive := fun _ => List α → List α) (fun l => l) (fun _ ih l => List.rec (motive := fun _ => List α) [] (fun _ r _ => ih r) l) n l
def takeL {α : Type} (n : Nat) (l : List α) : List α := Nat.rec (motive := fun _ => List α → List α) (fun _ => []) (fun _ ih l => List.rec (motive := fun _ => List α) [] (fun x r _ => x :: ih r) l) n l
def oSlStr (x : OD) (lo' hi : Option OD) : DP := fun lo tm => vStr (rdO x lo tm) (fun s => bndK hi lo tm (len (bl s)) (len (bl s)) (fun hi => bndK lo' lo tm 0 hi (fun lw => kStr (takeL (Nat.sub hi lw) (dropL lw (bl s)))) none) none) none
def oSlA (n s : Nat) (x : OD) (lo' hi mx : Option OD) : DP := fun lo tm => vPtr (rdO x lo tm) (fun b o => Option.rec (motive := fun _ => Option Value)
  (bndK hi lo tm n n (fun hi => bndK lo' lo tm 0 hi (fun lw => cutC b o s lw hi n) none) none) (fun _ => none) mx) none
def oFldA (off : Nat) (x : OD) : DP := fun lo tm => vPtr (rdO x lo tm) (fun b o => forceNat (Nat.add o off) fun o => some (ptrV b o)) none
def part1 (off : Nat) (l : List Value) : Option Value := bif Nat.blt off (len l) then some (nth l off) else none
def partA (off n : Nat) (l : List Value) : Option Value := bif Nat.ble (Nat.add off n) (len l) then some (.agg ⟨takeL n (dropL off l)⟩) else none
def oFld1 (off : Nat) (x : OD) : DP := fun lo tm => vAgg (rdO x lo tm) (part1 off) none
def oFldV (off n : Nat) (x : OD) : DP := fun lo tm => vAgg (rdO x lo tm) (partA off n) none
def oIxArr (n s : Nat) (x i : OD) : DP := fun lo tm => vNat (rdO i lo tm) (fun i => vPtr (rdO x lo tm) (fun b o => bif Nat.blt i n then forceNat (Nat.add o (Nat.mul i s)) fun o => some (ptrV b o) else none) none) none
def oIxSl (s : Nat) (x i : OD) : DP := fun lo tm => vNat (rdO i lo tm) (fun i => vSl (rdO x lo tm) (fun b o l _ => bif Nat.blt i l then forceNat (Nat.add o (Nat.mul i s)) fun o => some (ptrV b o) else none) (fun _ _ => none) none) none
def oIx1 (n : Nat) (x i : OD) : DP := fun lo tm => vNat (rdO i lo tm) (fun i => vAgg (rdO x lo tm) (fun l => bif Nat.blt i n then part1 i l else none) none) none
def oIxV (n s : Nat) (x i : OD) : DP := fun lo tm => vNat (rdO i lo tm) (fun i => vAgg (rdO x lo tm) (fun l => bif Nat.blt i n then partA (Nat.mul i s) s l else none) none) none
def nthB (l : List UInt8) (i : Nat) : Option UInt8 := List.rec (motive := fun _ => Nat → Option UInt8) (fun _ => none) (fun v _ ih i => Nat.rec (motive := fun _ => Option UInt8) (some v) (fun j _ => ih j) i) l i
def oIxStr (x i : OD) : DP := fun lo tm => vNat (rdO i lo tm) (fun i => vStr (rdO x lo tm) (fun s => oEl (nthB (bl s) i) (fun b => kNat .u8 b.toNat) none) none) none
def oRng (x : OD) : DO := fun _ lo tm h => vStr (rdO x lo tm) (fun s => h.newK (.iter s 0) fun b h => .val (ptrV b 0) h) .none
def iterK {R : Type} (h : Hp) (b : Nat) (k : ByteArray → Nat → R) (z : R) : R := oEl (h.bl.get (path b)) (fun o => AObj.rec (motive := fun _ => R) (fun _ _ _ _ _ => z) k (fun _ => z) o) z
def oNxt (x : OD) : DO := fun _ lo tm h => vPtr (rdO x lo tm) (fun b o => bif Nat.beq o 0 then iterK h b (fun s pos =>
  bif Nat.blt pos (len (bl s)) then oEl (nthB (bl s) pos) (fun c => bif Nat.blt c.toNat 128 then forceNat (Nat.succ pos) fun q => h.putK b (some (.iter s q)) fun h => .val (.tuple #[.bool true, .int .i64 (.ofNat pos), .int .i32 (.ofNat c.toNat)]) h else .none) .none
  else .val (.tuple #[.bool false]) h) .none else .none) .none
/- ===== maps ===== -/
def vMap {R : Type} (v : Value) (k : Nat → R) (kn : R) (z : R) : R := match v with
  | .map a => Option.rec (motive := fun _ => R) kn k a
  | _ => z
def mapO {R : Type} (o : AObj) (k : List (Value × Value) → R) (z : R) : R := AObj.rec (motive := fun _ => R) (fun _ _ _ _ _ => z) (fun _ _ => z) k o
def findM {R : Type} (tag : Nat) (k : Value) (es : List (Value × Value)) (y : Value → R) (n z : R) : R :=
  List.rec (motive := fun _ => R) n (fun e _ ih => oEl (sEqT tag k e.1) (fun t => Bool.rec (motive := fun _ => R) ih (y e.2) t) z) es
def putM (tag : Nat) (k v : Value) (es : List (Value × Value)) : Option (List (Value × Value)) :=
  List.rec (motive := fun _ => Option (List (Value × Value))) (some [(k, v)]) (fun e r ih => oEl (sEqT tag k e.1) (fun t => Bool.rec (motive := fun _ => Option (List (Value × Value))) (oEl ih (fun l => some (e :: l)) none) (some ((e.1, v) :: r)) t) none) es
def lookR (ok : Bool) (v : Value) (b : Bool) : Option Value := Bool.rec (motive := fun _ => Option Value) (some v) (some (.tuple ⟨[v, .bool b]⟩)) ok
def oMkM : DO := fun _ _ _ h => h.newK (.mp []) fun b h => .val (.map (some b)) h
def oMkMh (x : OD) : DO := fun _ lo tm h => vInt (rdO x lo tm) (fun _ _ => h.newK (.mp []) fun b h => .val (.map (some b)) h) .none
def oLook (tag : Nat) (z : Value) (ok : Bool) (x k : OD) : DR := fun lo tm => vMap (rdO x lo tm)
  (fun b => .read b fun ob => mapO ob (fun es => findM tag (rdO k lo tm) es (fun v => lookR ok v true) (lookR ok z false) none) none) (toPR (lookR ok z false)) .none
def oPutM (tag : Nat) (m k v : OD) : DO := fun _ lo tm h => vMap (rdO m lo tm) (fun b => oEl (h.bl.get (path b)) (fun ob => mapO ob (fun es =>
  bif Nat.beq (vTag (rdO k lo tm)) tag then oEl (putM tag (rdO k lo tm) (rdO v lo tm) es) (fun es => h.putK b (some (.mp es)) fun h => .val undef h) .none else .none) .none) .none) .none .none
def oLenM (x : OD) : DR := fun lo tm => vMap (rdO x lo tm) (fun b => .read b fun ob => mapO ob (fun es => kNat .i64 (len es)) none) (.val (.int .i64 (.ofNat 0))) .none
/-- a method of what an interface value holds: its type tells the function -/
def asc (tb : List (Nat × Nat)) (t : Nat) : Option Nat := List.rec (motive := fun _ => Option Nat) none (fun e _ ih => bif Nat.beq e.1 t then some e.2 else ih) tb
def oInv (tb : List (Nat × Nat)) (r : OD) (l : List OD) : DO := fun call lo tm h => vIface (rdO r lo tm) (fun t v => oEl (asc tb t) (fun g => call g (v :: rdL l lo tm) h) .none) .none .none
def tAs (t : TypeId) (ok : Bool) (z : Value) (v : Value) : Option Value := vIface v
  (fun u v => bif Nat.beq u t then (Bool.rec (motive := fun _ => Option Value) (some v) (some (.tuple ⟨[v, .bool true]⟩)) ok) else Bool.rec (motive := fun _ => Option Value) none (some (.tuple ⟨[z, .bool false]⟩)) ok)
  (Bool.rec (motive := fun _ => Option Value) none (some (.tuple ⟨[z, .bool false]⟩)) ok) none
def oTAs (t : TypeId) (ok : Bool) (z : Value) (x : OD) : DP := fun lo tm => tAs t ok z (rdO x lo tm)
def oExt (i : Nat) (x : OD) : DP := fun lo tm => vTup (rdO x lo tm) (part1 i) none
def oCallF (g : FuncId) (l : List OD) : DO := fun call lo tm h => call g (rdL l lo tm) h
def oCallV (f : OD) (l : List OD) : DO := fun call lo tm h => vFn (rdO f lo tm) (fun g first cap => call g (first ++ (rdL l lo tm ++ cap)) h) .none
def oLenL (x : OD) : DP := fun lo tm => vSl (rdO x lo tm) (fun _ _ l _ => kNat .i64 l) (fun l _ => kNat .i64 l) none
def oLenS (x : OD) : DP := fun lo tm => vStr (rdO x lo tm) (fun s => kNat .i64 (len (bl s))) none
def oLenC (n : Nat) : DP := fun _ _ => some (.int .i64 (.ofNat n))
def oCap (x : OD) : DP := fun lo tm => vSl (rdO x lo tm) (fun _ _ _ c => bif isOpen c then none else kNat .i64 c) (fun _ c => kNat .i64 c) none
/-- what is appended or copied: cells of a slice or bytes of a string -/
def srcK {R : Type} (h : Hp) (s : Nat) (v : Value) (k : Nat → List Value → R) (z : R) : R := match v with
  | .slice a l _ => bif Nat.beq l 0 then k 0 [] else Option.rec (motive := fun _ => R) z (fun a => oEl (cellsOf h a.block a.off (Nat.mul l s)) (k l) z) a
  | .string str => bif Nat.beq s 1 then k (len (bl str)) (mapB (bl str)) else z
  | _ => z
def opened (e : TypeId) (s : Nat) (l : List Value) (n : Nat) (h : Hp) : Res := newRowK h e l (len l) false fun b h => forceNat (openC s n) fun c => .val (slV b 0 n c) h
def appS (e : TypeId) (s : Nat) (h : Hp) (n : Nat) (new : List Value) (b o l c : Nat) : Res :=
  forceNat (Nat.add l n) fun need => bif Nat.ble need (sure c) then
      (bif Nat.beq n 0 then .val (slV b o l c) h else writeK h b (Nat.add o (Nat.mul l s)) new (fun h => .val (slV b o need c) h) .none)
    else bif Nat.ble need 16777216 then (bif Nat.beq l 0 then
        (bif isOpen c then .none else opened e s new need h)
      else oEl (cellsOf h b o (Nat.mul l s)) (fun old => bif isOpen c then
        rowK h b (fun _ _ e' _ ro => bif ro then .none else bif Nat.beq e e' && Nat.beq (esz c) (Nat.succ s) && allOne new then h.putK b none fun h => opened e s (old ++ new) need h else .none) .none
        else opened e s (old ++ new) need h) .none) else .none
def appN (e : TypeId) (s : Nat) (h : Hp) (n : Nat) (new : List Value) (l c : Nat) : Res := bif Nat.beq l 0 then bif Nat.beq c 0 then (bif Nat.beq n 0 then .val (.slice none 0 0) h else bif Nat.ble n 16777216 then opened e s new n h else .none) else .none else .none
/-- 'append(s, make([]T, n)...)' -/
def oAppZ (e : TypeId) (s : Nat) (z : List Value) (x y : OD) : DO := fun _ lo tm h => vNat (rdO y lo tm) (fun n => bif Nat.ble n 16777216 then vSl (rdO x lo tm) (appS e s h n (repL n z)) (appN e s h n (repL n z)) .none else .none) .none
def oApp (e : TypeId) (s : Nat) (x y : OD) : DO := fun _ lo tm h => srcK h s (rdO y lo tm) (fun n new => vSl (rdO x lo tm) (appS e s h n new) (appN e s h n new) .none) .none
def vOf (o : Option Value) (h : Hp) : Res := oEl o (fun v => .val v h) .none
def oCpy (s : Nat) (x y : OD) : DO := fun _ lo tm h => srcK h s (rdO y lo tm) (fun n new => vSl (rdO x lo tm)
  (fun b o l _ => forceNat (nmin n l) fun m => bif Nat.beq m 0 then vOf (kNat .i64 0) h else writeK h b o (takeL (Nat.mul m s) new) (fun h => vOf (kNat .i64 m) h) .none) (fun l _ => bif Nat.beq l 0 then vOf (kNat .i64 0) h else .none) .none) .none
def mnmx (mx : Bool) (l : List Value) (kd : IntKind) (acc : Int) : Option Value := List.rec (motive := fun _ => Int → Option Value) (fun a => kInt kd a) (fun v _ ih a => vInt v (fun _ b => ih (bif (Bool.rec (motive := fun _ => Bool) (ilt b a) (ilt a b) mx) then b else a)) none) l acc
def oMnmx (mx : Bool) (l : List OD) : DP := fun lo tm => List.rec (motive := fun _ => Option Value) none (fun v r _ => vInt v (fun kd a => mnmx mx r kd a) none) (rdL l lo tm)
def oUStr (e : TypeId) (x n : OD) : DO := fun _ lo tm h => vNat (rdO n lo tm) (fun n => bif Nat.beq n 0 || Nat.blt 16777216 n then .none else vPtr (rdO x lo tm) (fun b o =>
  rowK h b (fun c m e' cl _ => bif Nat.beq e e' then bif Nat.ble (Nat.add o n) m then oEl (loadN c o n []) (fun cs => oEl (bytesOf cs) (fun bs => h.putK b (some (.row c m e' cl true)) fun h => vOf (kStr bs) h) .none) .none else .none else .none) .none) .none) .none
def oUData (x : OD) : DP := fun lo tm => vSl (rdO x lo tm) (fun b o l c => bif Nat.beq l 0 then none else bif Nat.beq c 0 then none else some (ptrV b o)) (fun _ _ => some (.pointer none)) none
def oMkNZ (e : TypeId) (n : OD) : DO := fun _ lo tm h => vInt (rdO n lo tm) (fun kd n => bif Nat.beq (kN kd) 3 then natI n (fun n => bif Nat.ble n 16777216 then h.newK (.row .nil n e false false) fun b h => forceNat n fun n => forceNat (openC 1 n) fun c => .val (slV b 0 n c) h else .none) .none else .none) .none
def vByte {R : Type} (v : Value) (k : Nat → R) (z : R) : R := vInt v (fun kd c => bif Nat.beq (kN kd) 4 then natI c (fun c => bif Nat.blt c 256 then k c else z) z else z) z
def cntB (c : Nat) (l : List UInt8) (a : Nat) : Nat := List.rec (motive := fun _ => Nat → Nat) (fun a => a) (fun b _ ih a => bif Nat.beq b.toNat c then forceNat (Nat.succ a) ih else ih a) l a
def oCnt (x c : OD) : DR := fun lo tm => bsPR (rdO x lo tm) (fun l => vByte (rdO c lo tm) (fun c => kNat .i64 (cntB c l 0)) none)
def findB (c : Nat) (l : List UInt8) (i : Nat) : Int := List.rec (motive := fun _ => Nat → Int) (fun _ => .negSucc 0) (fun b _ ih i => bif Nat.beq b.toNat c then .ofNat i else forceNat (Nat.succ i) ih) l i
def oIxB (x c : OD) : DR := fun lo tm => bsPR (rdO x lo tm) (fun l => vByte (rdO c lo tm) (fun c => kInt .i64 (findB c l 0)) none)
def cmpB (x y : List UInt8) : Int := List.rec (motive := fun _ => List UInt8 → Int) (fun y => List.rec (motive := fun _ => Int) (.ofNat 0) (fun _ _ _ => .negSucc 0) y) (fun a _ ih y => List.rec (motive := fun _ => Int) (.ofNat 1) (fun b r _ => bif Nat.blt a.toNat b.toNat then .negSucc 0 else bif bEq a b then ih r else .ofNat 1) y) x y
def oCmpS (x y : OD) : DP := fun lo tm => vStr (rdO x lo tm) (fun a => vStr (rdO y lo tm) (fun b => kInt .i64 (cmpB (bl a) (bl b))) none) none
def oPnc (x : OD) : DO := fun _ lo tm h => vIface (rdO x lo tm) (fun t v => .panic [{ v := .iface t v, recovered := false }] h) .none .none
def bad : CO := .p fun _ _ => none

/- ===== compiling operations ===== -/
variable (P : Program)
def sz (t : TypeId) : Nat := P.cellsOf t
def isAggB (t : TypeId) : Bool := match P.underlying t with | some (.struct _) | some (.array ..) => true | _ => false
def zeroL (t : TypeId) : Option (List Value) := match P.info? t with
  | some ti => (match ti.zero with
    | some v => bif (cellsL v).all plainC && Nat.beq (len (cellsL v)) ti.size then some (cellsL v) else none
    | none => none)
  | none => none
def joinO (l : List (Option (List (Nat × Nat)))) : Option (List (Nat × Nat)) := List.rec (motive := fun _ => Option (List (Nat × Nat))) (some []) (fun x _ ih => oEl x (fun a => oEl ih (fun b => some (a ++ b)) none) none) l
def tagOf (t : TypeId) : Nat := match P.underlying t with
    | some .bool => 1 | some (.int _) => 2 | some .string => 3 | _ => 4
/-- a type whose equality is that of its scalars: where they lie -/
def leaves : Nat → TypeId → Nat → Option (List (Nat × Nat))
  | 0, _, _ => none
  | d + 1, t, off => match P.underlying t with
    | some (.struct fs) => bif P.stoodInHeld t then none else joinO (fs.toList.map fun f => bif f.name != "_" && Nat.ble (f.offset + sz P f.type) (sz P t) then leaves d f.type (off + f.offset) else none)
    | some (.array n e) => bif Nat.blt 0 n && Nat.ble (n * sz P e) (sz P t) then joinO ((List.range' 0 n).map fun i => leaves d e (off + i * sz P e)) else none
    | _ => bif Nat.beq (sz P t) 1 && Nat.blt (tagOf P t) 4 then some [(off, tagOf P t)] else none
def cParts (gs : List Nat) (ds : List (Option Tmp)) (place : Nat → Option (Nat × Nat)) : List (Nat × Operand) → Option (List (Nat × Nat × OD))
  | [] => some []
  | (i, x) :: r => match place i, cParts gs ds place r with
    | some (o, n), some l => some ((o, n, cOpd gs ds x) :: l)
    | _, _ => none
/-- what is known of a program ahead: the package-level variables, and the functions without a Go body, by kinds -/
structure Cx where
  gs : List Nat
  xs : List (Nat × Nat)
  ms : List (String × Nat × Nat)
def msOf (ms : List (String × Nat × Nat)) (n : String) : List (Nat × Nat) := match ms with | [] => [] | e :: r => bif e.1 == n then e.2 :: msOf r n else msOf r n
def xk (xs : List (Nat × Nat)) (g : Nat) : Option Nat := match xs with | [] => none | p :: r => bif Nat.beq p.1 g then some p.2 else xk r g
def cExt (k : Nat) (fn : Func) (a : List OD) : CO := match a with
  | [x] => bif Nat.beq k 0 then .p (oMove x) else bif Nat.beq k 1 then (match (fn.resultTypes[0]?).bind P.underlying with | some (.slice e) => bif Nat.beq (sz P e) 1 then .g (oMkNZ e x) else bad | _ => bad) else bad
  | [x, y] => bif Nat.beq k 2 then .r (oCnt x y) else bif Nat.beq k 3 then .r (oIxB x y) else bif Nat.beq k 4 then .p (oCmpS x y) else bad
  | _ => bad
def cCallX (cx : Cx) (ds : List (Option Tmp)) (fn : Func) (args : List Operand) (g : FuncId) : CO := match xk cx.xs g with
  | some k => cExt P k fn (args.map (cOpd cx.gs ds))
  | none => bif fn.body.isSome && !(fn.name == "runtime.NumGoroutine") then .g (oCallF g (args.map (cOpd cx.gs ds))) else bad
def cInt (op : BinOp) (x y : OD) : CO := match op with
  | .add => .p (oArith gAdd x y) | .sub => .p (oArith gSub x y) | .mul => .p (oArith gMul x y) | .and => .p (oArith (nn Nat.land) x y) | .or => .p (oArith (nn Nat.lor) x y) | .xor => .p (oArith (nn Nat.xor) x y)
  | .andNot => .p (oArith gAndNot x y) | .shl => .p (oShift gShl x y) | .shr => .p (oShift gShr x y) | .eql => .p (oArith gEq x y) | .neq => .p (oArith gNe x y) | .lss => .p (oArith gLt x y)
  | .leq => .p (oArith gLe x y) | .gtr => .p (oArith gGt x y) | .geq => .p (oArith gGe x y) | .quo => .p (oArith gQuo x y) | .rem => .p (oArith gRem x y)
/-- a type of scalars that can be compared: its kind; 4 for any other -/
def scT (t : TypeId) : Nat := match P.info? t with
  | some i => bif i.comparable then tagOf P t else 4
  | none => 4
/-- a type of keys whose equality is seen at once -/
def keyT (t : TypeId) : Bool := Nat.blt (tagOf P t) 4
/-- a type that is known, to its end -/
def isK (t : TypeId) : Bool := (P.underlying t).isSome
/-- a pointer to something that has cells -/
def ptrT (t : TypeId) : Bool := match P.underlying t with | some (.pointer e) => !Nat.beq (sz P e) 0 | _ => false
def cBin (c : Operand → OD) (op : BinOp) (t : TypeId) (x y : Operand) : CO := match P.underlying t with
    | some (.int _) => cInt op (c x) (c y)
    | some .string => .p (oStrOp op (c x) (c y))
    | some .bool => (match op with | .eql => .p (oBoolEq false (c x) (c y)) | .neq => .p (oBoolEq true (c x) (c y)) | _ => bad)
    | some (.struct _) | some (.array ..) => bif !P.eqGuardType P.depth t then (match leaves P 100 t 0 with | some ls => (match op with | .eql => .p (oEqA ls false (c x) (c y)) | .neq => .p (oEqA ls true (c x) (c y)) | _ => bad) | none => bad) else bad
    | some (.pointer _) => (match op, y with
      | .eql, .const (.pointer none) => .p (oEqNil nilP false (c x))
      | .neq, .const (.pointer none) => .p (oEqNil nilP true (c x))
      | .eql, y => bif ptrT P t then .p (oEqP false (c x) (c y)) else bad
      | .neq, y => bif ptrT P t then .p (oEqP true (c x) (c y)) else bad
      | _, _ => bad)
    | some (.func ..) => (match op, y with
      | .eql, .const .nilFunc => .p (oEqNil nilF false (c x))
      | .neq, .const .nilFunc => .p (oEqNil nilF true (c x))
      | _, _ => bad)
    | some (.slice _) => (match op, y with
      | .eql, .const (.slice none 0 0) => .p (oEqNil nilS false (c x))
      | .neq, .const (.slice none 0 0) => .p (oEqNil nilS true (c x))
      | _, _ => bad)
    | some (.map ..) => (match op, y with
      | .eql, .const (.map none) => .p (oEqNil nilM false (c x))
      | .neq, .const (.map none) => .p (oEqNil nilM true (c x))
      | _, _ => bad)
    | some (.interface _) => (match op, y with
      | .eql, .const .nilIface => .p (oEqNil nilI false (c x))
      | .neq, .const .nilIface => .p (oEqNil nilI true (c x))
      | .eql, y => .p (oEqI (scT P) false (c x) (c y))
      | .neq, y => .p (oEqI (scT P) true (c x) (c y))
      | _, _ => bad)
    | _ => bad
def cConv (x : OD) (s d : TypeId) : CO := match P.underlying s, P.underlying d with
    | some _, some (.int k) => .p (oToInt k x)
    | some .string, some (.slice e) => (match P.underlying e with | some (.int .u8) => .g (oStrBytes e x) | _ => bad)
    | some (.slice e), some .string => (match P.underlying e with | some (.int .u8) => .r (oBytesStr x) | _ => bad)
    | some .string, some .string => .p (oSameStr x)
    | some (.pointer e), some .unsafePointer => bif Nat.beq (sz P e) 0 then bad else .r (oToUP x)
    | some .unsafePointer, some (.pointer e) => bif Nat.beq (sz P e) 0 || Nat.beq e UNK then bad else .r (oOfUP e (sz P e) x)
    | _, _ => bad
def cBuiltin (c : Operand → OD) (b : Builtin) (args : List Operand) (ts : List TypeId) : CO := match b, args, ts with
      | .len, [x], [t] => (match P.underlying t with
        | some .string => .p (oLenS (c x))
        | some (.slice _) => .p (oLenL (c x))
        | some (.array n _) => .p (oLenC n)
        | some (.map _ _) => .r (oLenM (c x))
        | some (.pointer a) => (match P.underlying a with | some (.array n _) => .p (oLenC n) | _ => bad)
        | _ => bad)
      | .cap, [x], [t] => (match P.underlying t with | some (.slice _) => .p (oCap (c x)) | _ => bad)
      | .append, [x, y], [t, u] => (match P.underlying t, P.underlying u with
        | some (.slice e), some (.slice _) => bif Nat.beq (sz P e) 0 then bad else (match zeroL P e with | some _ => bif Nat.ble (P.bytesOf e) 8388608 then .g (oApp e (sz P e) (c x) (c y)) else bad | none => bad)
        | some (.slice e), some (.int _) => bif Nat.beq (sz P e) 0 then bad else (match zeroL P e with | some z => bif Nat.ble (P.bytesOf e) 8388608 then .g (oAppZ e (sz P e) z (c x) (c y)) else bad | none => bad)
        | some (.slice e), some .string => bif Nat.beq (sz P e) 1 then (match zeroL P e with | some _ => bif Nat.ble (P.bytesOf e) 8388608 then .g (oApp e 1 (c x) (c y)) else bad | none => bad) else bad
        | _, _ => bad)
      | .copy, [x, y], [t, _] => (match P.underlying t with | some (.slice e) => (match P.info? e with | some ti => .g (oCpy ti.size (c x) (c y)) | none => bad) | _ => bad)
      | .min, l, _ => .p (oMnmx false (l.map c))
      | .max, l, _ => .p (oMnmx true (l.map c))
      | .unsafeString, [x, n], t :: _ => (match P.underlying t with | some (.pointer e) => (match P.underlying e with | some (.int .u8) => bif Nat.beq (sz P e) 1 && !Nat.beq e UNK then .g (oUStr e (c x) (c n)) else bad | _ => bad) | _ => bad)
      | .unsafeSliceData, [x], _ => .p (oUData (c x))
      | _, _, _ => bad
def cOp (cx : Cx) (ds : List (Option Tmp)) (o : Oper) : CO :=
  let c := cOpd cx.gs ds
  match o.op with
  | .move x | .assign x => .p (oMove (c x))
  | .pick a b d => .p (oPick (c a) (c b) (c d))
  | .alloc e => (match zeroL P e with | some z => .g (oAlloc e z z.length) | none => bad)
  | .box e x => .g (oBox e (c x))
  | .build t parts => (match zeroL P t, P.underlying t with
    | some z, some (.struct fs) => (match fs.toList.mapM (fun f => (P.info? f.type).map fun i => (f.offset, i.size)) with
      | some pl => (match cParts cx.gs ds (fun i => pl[i]?) parts.toList with | some l => .p (oBuild z l) | none => bad)
      | none => bad)
    | some z, some (.array _ e) => (match P.info? e with
      | some ie => (match cParts cx.gs ds (fun i => some (i * ie.size, ie.size)) parts.toList with | some l => .p (oBuild z l) | none => bad)
      | none => bad)
    | _, _ => bad)
  | .buildSlice t n parts => (match P.underlying t with
    | some (.slice e) => (match zeroL P e, cParts cx.gs ds (fun i => some (i * sz P e, sz P e)) parts.toList with
      | some z, some l => bif Nat.ble (n * sz P e) 16777216 && Nat.ble n 16777216 then .g (oBuildS e n (repL n z) l) else bad
      | _, _ => bad)
    | _ => bad)
  | .load t a => bif isAggB P t then .r (oLoadA (sz P t) (c a)) else bif isK P t then .r (oLoad1 (c a)) else bad
  | .store t a x => bif isAggB P t then .g (oStoreA (sz P t) (c a) (c x)) else bif isK P t && Nat.beq (sz P t) 1 then .g (oStore1 (c a) (c x)) else bad
  | .nilCheck x => .p (oNilChk (c x))
  | .binOp op t x y _ => cBin P c op t x y
  | .unOp op _ x => (match op with
    | .not => .p (oNot (c x))
    | .neg => .p (oNeg (c x))
    | .xor => .p (oXor (c x))
    | _ => bad)
  | .convert s d x => cConv P (c x) s d
  | .makeInterface t x => (match P.underlying t with
    | some (.interface _) => bad
    | some _ => .p (oMkI t (c x))
    | none => bad)
  | .makeFunc g first cap => (match g with
    | .func f => .p (oMkF f (first.toList.map c) (cap.toList.map c))
    | _ => bad)
  | .makeSlice t n m => (match P.underlying t with
    | some (.slice e) => (match zeroL P e with | some z => .g (oMkS e z (P.bytesOf e) (c n) (c m)) | none => bad)
    | _ => bad)
  | .slice t x l h m => (match P.underlying t with
    | some (.slice e) => bif isK P e then .p (oSlS (sz P e) (c x) (l.map c) (h.map c) (m.map c)) else bad
    | some .string => (match m with | none => .p (oSlStr (c x) (l.map c) (h.map c)) | some _ => bad)
    | some (.array n e) => bif isK P e && Nat.ble n 16777216 then .p (oSlA n (sz P e) (c x) (l.map c) (h.map c) (m.map c)) else bad
    | _ => bad)
  | .fieldAddr s x i => (match P.underlying s with
    | some (.struct fs) => (match fs[i]? with | some f => bif !isK P f.type || Nat.beq (sz P f.type) 0 then bad else .p (oFldA f.offset (c x)) | none => bad)
    | _ => bad)
  | .field s x i => (match P.underlying s with
    | some (.struct fs) => (match fs[i]? with | some f => bif isAggB P f.type then .p (oFldV f.offset (sz P f.type) (c x)) else bif isK P f.type then .p (oFld1 f.offset (c x)) else bad | none => bad)
    | _ => bad)
  | .indexAddr t x i => (match P.underlying t with
    | some (.array n e) => bif isK P e then .p (oIxArr n (sz P e) (c x) (c i)) else bad
    | some (.slice e) => bif isK P e then .p (oIxSl (sz P e) (c x) (c i)) else bad
    | _ => bad)
  | .index t x i => (match P.underlying t with
    | some (.array n e) => bif isAggB P e then .p (oIxV n (sz P e) (c x) (c i)) else bif isK P e && Nat.beq (sz P e) 1 then .p (oIx1 n (c x) (c i)) else bad
    | some .string => .p (oIxStr (c x) (c i))
    | _ => bad)
  | .range t x => (match P.underlying t with
    | some .string => .g (oRng (c x))
    | _ => bad)
  | .next x true => .g (oNxt (c x))
  | .typeAssert x _ t ok => (match P.underlying t, (P.info? t).bind (·.zero) with
    | some (.interface _), _ => bad
    | some _, some z => bif (cellsL z).all plainC then .p (oTAs t ok z (c x)) else bad
    | _, _ => bad)
  | .extract x i => .p (oExt i (c x))
  | .panic x => .g (oPnc (c x))
  | .call cl => (match cl.callee with
    | .value (.func g) => (match P.funcs[g]? with | some fn => cCallX P cx ds fn cl.args.toList g | none => bad)
    | .value f => .g (oCallV (c f) (cl.args.toList.map c))
    | .builtin b => cBuiltin P c b cl.args.toList cl.argTypes.toList
    | .invoke r n => .g (oInv (msOf cx.ms n) (c r) (cl.args.toList.map c)))
  | .makeMap t r => (match r with
    | none => .g oMkM
    | some x => (match P.underlying t with | some (.map _ _) => .g (oMkMh (c x)) | _ => bad))
  | .lookup t x k ok => (match P.underlying t with
    | some (.map kt et) => (match (P.info? et).bind (·.zero) with
      | some z => bif (cellsL z).all plainC && keyT P kt then .r (oLook (tagOf P kt) z ok (c x) (c k)) else bad
      | none => bad)
    | _ => bad)
  | .mapUpdate t m k v => (match P.underlying t with | some (.map kt _) => bif keyT P kt then .g (oPutM (tagOf P kt) (c m) (c k) (c v)) else bad | _ => bad)
  | .insert t m k v => (match P.underlying t with | some (.map kt _) => bif keyT P kt then .g (oPutM (tagOf P kt) (c m) (c k) (c v)) else bad | _ => bad)
  | _ => bad

/- ===== regions ===== -/
def bit (m t : Nat) : Bool := Nat.beq (Nat.mod (Nat.div m (Nat.pow 2 t)) 2) 1
def isFlush (live : Nat) (t : Tmp) : Bool := bit live t
def isFirst (ds : List (Option Tmp)) (t : Tmp) (i : Nat) : Bool := match idx ds t with | some j => Nat.beq i j | none => false
/-- the slots that are read later, written at once: where a region ends in a panic -/
def flushT (live : Nat) (ds : List (Option Tmp)) (lo : List Value) : List (Option Tmp) → Nat → T Value → T Value
  | [], _, tm => tm
  | some t :: r, i, tm => bif isFlush live t && isFirst ds t i then flushT live ds lo r (i + 1) (T.set (path t) tm (some (nth lo i))) else flushT live ds lo r (i + 1) tm
  | none :: r, i, tm => flushT live ds lo r (i + 1) tm
abbrev Fl := Nat × List (Option Tmp)
def Fl.go (fl : Fl) (lo : List Value) (tm : T Value) : T Value := flushT fl.1 fl.2 lo fl.2 0 tm
inductive CL where
  | nil
  | flush (i : Nat) (p : List Bool) (r : CL)
  | consP (f : DP) (r : CL)
  | consR (f : DR) (r : CL)
  | consG (fl : Fl) (f : DO) (r : CL)
  | guard (fl : Fl) (g : OD) (want : Bool) (o : CO) (r : CL)
  | dfr (f : OD) (l : List OD) (r : CL)
  | bad
abbrev DL := Call → List Value → T Value → Df → Hp → ResC
def finC (tm : T Value) (df : Df) (k : Value → Hp → ResC) (r : Res) : ResC := Res.rec (motive := fun _ => ResC) .none k (fun c h => .ok (.panic c) tm df h) r
def lNil : DL := fun _ _ tm df h => .ok .normal tm df h
def lFlush (i : Nat) (p : List Bool) (_ : CL) (r : DL) : DL := fun call lo tm df h => T.setK p tm (some (nth lo i)) fun tm => r call lo tm df h
def lConsP (f : DP) (_ : CL) (r : DL) : DL := fun call lo tm df h => oEl (f lo tm) (fun v => r call (v :: lo) tm df h) .none
def prK (h : Hp) (p : PR) (k : Value → ResC) : ResC := PR.rec (motive := fun _ => ResC) .none k (fun b g => oEl (h.bl.get (path b)) (fun o => oEl (g o) k .none) .none) p
def lConsR (f : DR) (_ : CL) (r : DL) : DL := fun call lo tm df h => prK h (f lo tm) (fun v => r call (v :: lo) tm df h)
def lConsG (fl : Fl) (f : DO) (_ : CL) (r : DL) : DL := fun call lo tm df h => finC (fl.go lo tm) df (fun v h => r call (v :: lo) tm df h) (f call lo tm h)
def lCO (fl : Fl) (o : CO) (r : DL) : DL := CO.rec (motive := fun _ => DL) (fun f => lConsP f .nil r) (fun f => lConsR f .nil r) (fun f => lConsG fl f .nil r) o
def lGuard (fl : Fl) (g : OD) (want : Bool) (o : CO) (_ : CL) (r : DL) : DL := fun call lo tm df h => vGuard (rdO g lo tm) want (lCO fl o r call lo tm df h) (r call (undef :: lo) tm df h) .none
def lDfr (f : OD) (l : List OD) (_ : CL) (r : DL) : DL := fun call lo tm df h => vFn (rdO f lo tm) (fun g first cap => r call (undef :: lo) tm ((g, first ++ (rdL l lo tm ++ cap)) :: df) h) .none
def lBad : DL := fun _ _ _ _ _ => .none
def exL (l : CL) : DL := CL.rec (motive := fun _ => DL) lNil lFlush lConsP lConsR lConsG lGuard lDfr lBad l

/- ===== drawn regions ===== -/
/-- operations in text order; one that may write has the base at its own beginning, and what it wrote of what was there is looked at -/
inductive CD where
  | nil
  | flush (i : Nat) (p : List Bool) (r : CD)
  | consP (f : DP) (r : CD)
  | consR (k : Nat) (f : DR) (r : CD)
  | consG (k : Nat) (bar : Bool) (own : List (Nat × Bool)) (f : DO) (r : CD)
  | guardP (g : OD) (want : Bool) (f : DP) (r : CD)
  | guardR (k : Nat) (g : OD) (want : Bool) (f : DR) (r : CD)
  | guardG (k : Nat) (bar : Bool) (own : List (Nat × Bool)) (g : OD) (want : Bool) (f : DO) (r : CD)
  | bad
/-- what has been done: before which operation which block was the first free one; who read what; who wrote what -/
structure Dn where
  ns : List (Nat × Nat)
  rs : List (Nat × Nat)
  ws : List (Nat × Nat)
/-- the operation (by its place) that made block b -/
def owner (ns : List (Nat × Nat)) (b : Nat) : Option Nat := List.rec (motive := fun _ => Option Nat) none (fun n _ ih => bif Nat.ble n.1 b then some n.2 else ih) ns
def ownOk (own : List (Nat × Bool)) (j : Nat) : Bool := List.rec (motive := fun _ => Bool) false (fun p _ ih => bif Nat.beq p.1 j then p.2 else ih) own
/-- all that touched block b stand in an order with operation k -/
def metOk (cm : Nat → Nat → Bool) (k b : Nat) (l : List (Nat × Nat)) : Bool := List.rec (motive := fun _ => Bool) true (fun p _ ih => bif Nat.beq p.2 b then (bif cm p.1 k then ih else false) else ih) l
def allowed (cm : Nat → Nat → Bool) (k : Nat) (bar : Bool) (own : List (Nat × Bool)) (d : Dn) (log : List Nat) : Bool :=
  List.rec (motive := fun _ => Bool) true (fun b _ ih => bif Option.rec (motive := fun _ => Bool) bar (ownOk own) (owner d.ns b) then (bif metOk cm k b d.rs then ih else false) else false) log
def wrote (k : Nat) (log : List Nat) (ws : List (Nat × Nat)) : List (Nat × Nat) := List.rec (motive := fun _ => List (Nat × Nat)) ws (fun b _ ih => (k, b) :: ih) log
abbrev DD := (Nat → Nat → Bool) → Call → Dn → List Value → T Value → Df → Hp → ResC
/-- the log below a base -/
def below (base : Nat) (log : List Nat) (old : List Nat) : List Nat := List.rec (motive := fun _ => List Nat) old (fun b _ ih => bif Nat.blt b base then b :: ih else ih) log
def setBase (h : Hp) (base : Nat) (log : List Nat) : Hp := ⟨h.bl, h.next, base, log⟩
def dNil : DD := fun _ _ _ _ tm df h => .ok .normal tm df h
def dFlush (i : Nat) (p : List Bool) (_ : CD) (r : DD) : DD := fun cm call d lo tm df h => T.setK p tm (some (nth lo i)) fun tm => r cm call d lo tm df h
def dConsP (f : DP) (_ : CD) (r : DD) : DD := fun cm call d lo tm df h => oEl (f lo tm) (fun v => r cm call d (v :: lo) tm df h) .none
def dConsR (k : Nat) (f : DR) (_ : CD) (r : DD) : DD := fun cm call d lo tm df h => PR.rec (motive := fun _ => ResC) .none (fun v => r cm call d (v :: lo) tm df h)
  (fun b g => bif metOk cm k b d.ws then oEl (h.bl.get (path b)) (fun o => oEl (g o) (fun v => r cm call ⟨d.ns, (k, b) :: d.rs, d.ws⟩ (v :: lo) tm df h) .none) .none else .none) (f lo tm)
def finD (k : Value → Hp → ResC) (r : Res) : ResC := Res.rec (motive := fun _ => ResC) .none k (fun _ _ => .none) r
def dConsG (n : Nat) (bar : Bool) (own : List (Nat × Bool)) (f : DO) (_ : CD) (r : DD) : DD := fun cm call d lo tm df h =>
  finD (fun v h1 => bif allowed cm n bar own d h1.log then r cm call ⟨(h.next, n) :: d.ns, d.rs, wrote n h1.log d.ws⟩ (v :: lo) tm df (setBase h1 h.base (below h.base h1.log h.log)) else .none) (f call lo tm (setBase h h.next []))
def dGuard (g : OD) (want : Bool) (x : DD) (r : DD) : DD := fun cm call d lo tm df h => vGuard (rdO g lo tm) want (x cm call d lo tm df h) (r cm call d (undef :: lo) tm df h) .none
def dGuardP (g : OD) (want : Bool) (f : DP) (c : CD) (r : DD) : DD := dGuard g want (dConsP f c r) r
def dGuardR (k : Nat) (g : OD) (want : Bool) (f : DR) (c : CD) (r : DD) : DD := dGuard g want (dConsR k f c r) r
def dGuardG (n : Nat) (bar : Bool) (own : List (Nat × Bool)) (g : OD) (want : Bool) (f : DO) (c : CD) (r : DD) : DD := dGuard g want (dConsG n bar own f c r) r
def dBad : DD := fun _ _ _ _ _ _ _ => .none
def exD (l : CD) : DD := CD.rec (motive := fun _ => DD) dNil dFlush dConsP dConsR dConsG dGuardP dGuardR dGuardG dBad l

/- ===== compiling regions ===== -/
def cFlush (live : Nat) (ds : List (Option Tmp)) : List (Option Tmp) → Nat → CL
  | [], _ => .nil
  | some t :: r, i => bif isFlush live t && isFirst ds t i then .flush i (path t) (cFlush live ds r (i + 1)) else cFlush live ds r (i + 1)
  | none :: r, i => cFlush live ds r (i + 1)
def okDst (nt : Nat) (d : Option Tmp) : Bool := match d with | some d => Nat.blt d nt | none => true
def consL (fl : Fl) (o : CO) (r : CL) : CL := match o with | .p f => .consP f r | .r f => .consR f r | .g f => .consG fl f r
def cOps (cx : Cx) (live : Nat) (nt : Nat) (ops : Array Oper) : List Oper → List (Option Tmp) → CL
  | [], ds => cFlush live ds ds 0
  | o :: r, ds => bif okDst nt o.dst then (match o.guard with
    | none => (match o.op with
      | .defer cl => (match cl.callee with
        | .value f => .dfr (cOpd cx.gs ds f) (cl.args.toList.map (cOpd cx.gs ds)) (cOps cx live nt ops r (o.dst :: ds))
        | _ => .bad)
      | _ => consL (live, ds) (cOp P cx ds o) (cOps cx live nt ops r (o.dst :: ds)))
    | some (j, want) => match (ops[j]?).bind (·.dst) with
      | some d => .guard (live, ds) (cOpd cx.gs ds (.tmp d)) want (cOp P cx ds o) (cOps cx live nt ops r (o.dst :: ds))
      | none => .bad) else .bad
/-- may touch the heap otherwise than by one look that is kept account of -/
def touches (o : Oper) : Bool := match o.op with
  | .load .. | .move _ | .assign _ | .pick .. | .build .. | .nilCheck _ | .unOp .. | .makeInterface .. | .makeFunc .. | .fieldAddr .. | .field .. | .indexAddr .. | .index .. | .extract .. | .slice .. | .binOp .. => false
  | .call { callee := .builtin .len, .. } => false
  | _ => true
/-- it makes a block, and looks at none -/
def newOnly (o : Oper) : Bool := match o.op with | .buildSlice .. | .box .. | .alloc _ => true | _ => false
/-- it may look at blocks that no account tells -/
def heavy (o : Oper) : Bool := touches o && !newOnly o
/-- for each operation the set of those that it must follow, as bits -/
def anOf (an : T Nat) (i : Nat) : Nat := (an.get (path i)).getD 0
def anc1 (an : T Nat) (l : List Edge) (s : Nat) : Nat := match l with
  | [] => s
  | e :: r => bif Region.binds .any e then forceNat (Nat.lor s (Nat.lor (Nat.pow 2 e.on) (anOf an e.on))) (anc1 an r) else anc1 an r s
def ancs (l : List Oper) (i : Nat) (an : T Nat) : T Nat := match l with
  | [] => an
  | o :: r => forceNat (anc1 an o.after.toList 0) fun m => T.setK (path i) an (some m) (ancs r (Nat.succ i))
def tmpsOf (l : List Operand) : List Tmp := l.filterMap fun | .tmp t => some t | _ => none
def guardT (ops : Array Oper) (o : Oper) : List Tmp := match o.guard with | some (g, _) => ((ops[g]?).bind (·.dst)).toList | none => []
def looks (ops : Array Oper) (o : Oper) : List Tmp := tmpsOf o.op.operands.toList ++ guardT ops o
def comp (an : T Nat) (i j : Nat) : Bool := bit (anOf an j) i || bit (anOf an i) j
/-- who writes each slot -/
def wrsOf (w : T (List Nat)) (t : Tmp) : List Nat := (w.get (path t)).getD []
def wrs (l : List Oper) (i : Nat) (w : T (List Nat)) : T (List Nat) := match l with
  | [] => w
  | o :: r => match o.dst with
    | none => wrs r (Nat.succ i) w
    | some d => T.setK (path d) w (some (i :: wrsOf w d)) (wrs r (Nat.succ i))
/-- every writer of slot t, and operation j, stand in an order -/
def cmpAll (an : T Nat) (w : T (List Nat)) (j : Nat) (t : Tmp) : Bool := (wrsOf w t).all fun i => Nat.beq i j || comp an i j
def drawOk1 (ops : Array Oper) (an : T Nat) (w : T (List Nat)) : List Oper → Nat → Bool
  | [], _ => true
  | o :: r, j => o.after.toList.all (fun e => !Region.binds .any e || Nat.blt e.on j) && (match o.op with | .defer _ | .select .. => false | _ => true) &&
      (o.dst.toList ++ looks ops o).all (cmpAll an w j) && drawOk1 ops an w r (Nat.succ j)
def drawOk (ops : Array Oper) (an : T Nat) : Bool := drawOk1 ops an (wrs ops.toList 0 .nil) ops.toList 0
def barOf (an : T Nat) (k : Nat) : List Oper → Nat → Bool
  | [], _ => true
  | o :: r, i => (Nat.beq i k || !heavy o || comp an i k) && barOf an k r (Nat.succ i)
def own1 (an : T Nat) (j k : Nat) : List Oper → Nat → Bool
  | [], _ => true
  | o :: r, i => (Nat.beq i k || !heavy o || comp an i k || !(Nat.beq i j || bit (anOf an i) j)) && own1 an j k r (Nat.succ i)
def ownOf (ops : List Oper) (an : T Nat) (k : Nat) : List (Nat × Bool) := (List.range k).map fun j => (j, bit (anOf an k) j && own1 an j k ops 0)
def cFlushD (live : Nat) (ds : List (Option Tmp)) : List (Option Tmp) → Nat → CD
  | [], _ => .nil
  | some t :: r, i => bif isFlush live t && isFirst ds t i then .flush i (path t) (cFlushD live ds r (i + 1)) else cFlushD live ds r (i + 1)
  | none :: r, i => cFlushD live ds r (i + 1)
def consD (ops : Array Oper) (an : T Nat) (k : Nat) (tch : Bool) (o : CO) (r : CD) : CD := match o with
  | .p f => .consP f r
  | .r f => .consR k f r
  | .g f => bif tch then .consG k (barOf an k ops.toList 0) (ownOf ops.toList an k) f r else .bad
def guardD (ops : Array Oper) (an : T Nat) (k : Nat) (tch : Bool) (g : OD) (want : Bool) (o : CO) (r : CD) : CD := match o with
  | .p f => .guardP g want f r
  | .r f => .guardR k g want f r
  | .g f => bif tch then .guardG k (barOf an k ops.toList 0) (ownOf ops.toList an k) g want f r else .bad
def cOpsD (cx : Cx) (live : Nat) (nt : Nat) (ops : Array Oper) (an : T Nat) : List Oper → Nat → List (Option Tmp) → CD
  | [], _, ds => cFlushD live ds ds 0
  | o :: r, k, ds => bif okDst nt o.dst then (match o.guard with
    | none => consD ops an k (touches o) (cOp P cx ds o) (cOpsD cx live nt ops an r (k + 1) (o.dst :: ds))
    | some (j, want) => match (ops[j]?).bind (·.dst) with
      | some d => guardD ops an k (touches o) (cOpd cx.gs ds (.tmp d)) want (cOp P cx ds o) (cOpsD cx live nt ops an r (k + 1) (o.dst :: ds))
      | none => .bad) else .bad

/- ===== code ===== -/
inductive CC where
  | skip | region (l : CL) | draw (an : T Nat) (l : CD) | seq (a b : CC) | cond (c : OD) (a b : CC) | block (id : Nat) (b : CC) | loop (b : CC) | scope (b : CC) | exit (id : Nat) | ret | bad
abbrev D := Call → T Value → Df → Hp → ResC
def exK (r : ResC) (kn : T Value → Df → Hp → ResC) (ke : Nat → T Value → Df → Hp → ResC) : ResC :=
  ResC.rec (motive := fun _ => ResC) .none (fun e tm df h => Ex.rec (motive := fun _ => ResC) (kn tm df h) (fun i => ke i tm df h) (.ok .ret tm df h) (fun c => .ok (.panic c) tm df h) e) r
def cSkip : D := fun _ tm df h => .ok .normal tm df h
def cReg (l : CL) : D := fun call tm df h => exL l call [] tm df h
def cDraw (an : T Nat) (l : CD) : D := fun call tm df h => exD l (comp an) call ⟨[], [], []⟩ [] tm df h
def cSeq (_ _ : CC) (a b : D) : D := fun call tm df h => exK (a call tm df h) (b call) (fun i tm df h => .ok (.exit i) tm df h)
def cCond (c : OD) (_ _ : CC) (a b : D) : D := fun call tm df h => vBool (rdO c [] tm) (fun b' => Bool.rec (motive := fun _ => ResC) (b call tm df h) (a call tm df h) b') .none
def cBlock (id : Nat) (_ : CC) (a : D) : D := fun call tm df h => exK (a call tm df h) (fun tm df h => .ok .normal tm df h) (fun i tm df h => bif Nat.beq i id then .ok .normal tm df h else .ok (.exit i) tm df h)
def loopN (a : D) (n : Nat) : D := Nat.rec (motive := fun _ => D) (fun _ _ _ _ => .none) (fun _ ih call tm df h => exK (a call tm df h) (ih call) (fun i tm df h => .ok (.exit i) tm df h)) n
def cLoop (_ : CC) (a : D) : D := loopN a 1000000
def cScope (_ : CC) (a : D) : D := a
def cExit (id : Nat) : D := fun _ tm df h => .ok (.exit id) tm df h
def cRet : D := fun _ tm df h => .ok .ret tm df h
def cBad : D := fun _ _ _ _ => .none
def exC (c : CC) : D := CC.rec (motive := fun _ => D) cSkip cReg cDraw cSeq cCond cBlock cLoop cScope cExit cRet cBad c
def addT (m t : Nat) : Nat := Nat.lor m (Nat.pow 2 t)
def addTs (l : List Tmp) (m : Nat) : Nat := match l with | [] => m | t :: r => forceNat (addT m t) (addTs r)
def addNew (l : List Tmp) (w m : Nat) : Nat := match l with | [] => m | t :: r => bif bit w t then addNew r w m else forceNat (addT m t) (addNew r w)
/-- the slots that are read in a region that did not write them before -/
def readsOps (ops : List Oper) (w m : Nat) : Nat := match ops with
  | [] => m
  | o :: r => forceNat (addNew (tmpsOf o.op.operands.toList) w m) fun m => forceNat (addTs o.dst.toList w) fun w => readsOps r w m
def reads (c : Code) (m : Nat) : Nat := match c with
  | .region _ ops _ => readsOps ops.toList 0 m
  | .seq a b => forceNat (reads a m) (reads b)
  | .cond c x y => forceNat (addTs (tmpsOf [c]) m) fun m => forceNat (reads x m) (reads y)
  | .block _ b => reads b m
  | .loop b => reads b m
  | .scope b => reads b m
  | _ => m
def resTmps (l : List ResultVar) : List Tmp := l.map fun | .tmp t => t | .cell a _ => a
def cCode (cx : Cx) (live : Nat) (nt : Nat) : Code → CC
  | .skip => .skip
  | .region _ ops draw => bif draw then (bif drawOk ops (ancs ops.toList 0 .nil) then .draw (ancs ops.toList 0 .nil) (cOpsD P cx live nt ops (ancs ops.toList 0 .nil) ops.toList 0 []) else .bad) else .region (cOps P cx live nt ops ops.toList [])
  | .seq a b => .seq (cCode cx live nt a) (cCode cx live nt b)
  | .cond c x y => .cond (cOpd cx.gs [] c) (cCode cx live nt x) (cCode cx live nt y)
  | .block id b => .block id (cCode cx live nt b)
  | .loop b => .loop (cCode cx live nt b)
  | .exit id => .exit id
  | .ret => .ret
  | _ => .bad

/- ===== functions ===== -/
inductive CR where
  | tmp (p : List Bool) | cell (agg : Bool) (n : Nat) (p : List Bool)
inductive CF where
  | mk (nt na : Nat) (b : CC) (r : List CR) | bad
def exR1 (r : CR) (tm : T Value) (h : Hp) : Option Value := CR.rec (motive := fun _ => Option Value) (fun p => some (oget (tm.get p)))
  (fun agg m p => vPtr (oget (tm.get p)) (fun b o => rowK h b (fun c n _ _ _ => Bool.rec (motive := fun _ => Option Value) (bif Nat.blt o n then c.get (path o) else none) (bif Nat.ble (Nat.add o m) n then oEl (loadN c o m []) (fun l => some (.agg ⟨l⟩)) none else none) agg) none) none) r
def exRs (l : List CR) (tm : T Value) (h : Hp) : Option (List Value) := List.rec (motive := fun _ => Option (List Value)) (some []) (fun r _ ih => oEl (exR1 r tm h) (fun v => oEl ih (fun l => some (v :: l)) none) none) l
def exR (l : List CR) (tm : T Value) (h : Hp) : Res := oEl (exRs l tm h) (fun vs => List.rec (motive := fun _ => Res) (.val (.tuple ⟨[]⟩) h) (fun v r _ => List.rec (motive := fun _ => Res) (.val v h) (fun _ _ _ => .val (.tuple ⟨vs⟩) h) r) vs) .none
def cRes : List ResultVar → List CR
  | [] => []
  | .tmp t :: r => .tmp (path t) :: cRes r
  | .cell a t :: r => .cell (isAggB P t) (sz P t) (path a) :: cRes r
/-- every slot that is filled at the entry is kept -/
def okArgs (live na : Nat) : Bool := (List.range na).all (bit live)
def okRes (l : List ResultVar) : Bool := l.all fun | .tmp _ => true | .cell _ t => isK P t
def cF (cx : Cx) (f : FuncId) : CF := match P.funcs[f]? with
  | some fn => match fn.body with
    | some c => bif fn.name == "runtime.NumGoroutine" then .bad else forceNat (reads c (addTs (resTmps fn.results.toList) (Nat.sub (Nat.pow 2 (fn.params.size + fn.nfree)) 1))) fun live =>
      bif okArgs live (fn.params.size + fn.nfree) && okRes P fn.results.toList then .mk fn.ntmps (fn.params.size + fn.nfree) (cCode P cx live fn.ntmps c) (cRes P fn.results.toList) else .bad
    | none => .bad
  | none => .bad
def argsT {R : Type} (l : List Value) (i : Nat) (t : T Value) (k : T Value → R) : R :=
  List.rec (motive := fun _ => Nat → T Value → R) (fun _ t => k t) (fun v _ ih i t => T.setK (path i) t (some v) fun t => ih (Nat.succ i) t) l i t
/-- the mode of a frame that is left -/
inductive Md where
  | ret | pnc (c : List PanicEntry)
def settleA (c : List PanicEntry) : Md := match c with
  | e :: r => bif e.recovered then (match r.dropWhile (fun e => !e.goexit) with | [] => .ret | l => .pnc l) else .pnc (e :: r)
  | [] => .pnc []
/-- a deferred call: what it makes of the mode -/
inductive ResD where
  | none
  | ok (m : Md) (h : Hp)
abbrev CallD := FuncId → List Value → Md → Hp → ResD
def leave (cd : CallD) (rs : List CR) (df : Df) (tm : T Value) (m : Md) (h : Hp) : Res :=
  List.rec (motive := fun _ => Md → Hp → Res) (fun m h => Md.rec (motive := fun _ => Res) (exR rs tm h) (fun c => .panic c h) m)
    (fun d _ ih m h => ResD.rec (motive := fun _ => Res) .none ih (cd d.1 d.2 m h)) df m h
def runF (cf : CF) (call : Call) (cd : CallD) (args : List Value) (h : Hp) : Res := CF.rec (motive := fun _ => Res)
  (fun nt na b r => bif Nat.beq (len args) na && Nat.ble na nt then argsT args 0 .nil fun tm => ResC.rec (motive := fun _ => Res) .none (fun e tm df h => Ex.rec (motive := fun _ => Res) (leave cd r df tm .ret h) (fun _ => .none) (leave cd r df tm .ret h) (fun c => leave cd r df tm (.pnc c) h) e) (exC b call tm [] h) else .none) .none cf

/- ===== functions that are called deferred; recover ===== -/
inductive CS where
  | plain (c : CC) | recov (d : Option (List Bool)) | seq (a b : CS) | cond (c : OD) (a b : CS)
inductive ResS where
  | none
  | ok (e : Ex) (tm : T Value) (m : Md) (h : Hp)
abbrev DS := Call → T Value → Md → Hp → ResS
def sPlain (c : CC) : DS := fun call tm m h => ResC.rec (motive := fun _ => ResS) .none (fun e tm df h => List.rec (motive := fun _ => ResS) (.ok e tm m h) (fun _ _ _ => .none) df) (exC c call tm [] h)
def recA (m : Md) : Value × Md := match m with
  | .pnc (e :: r) => bif !e.recovered && !e.goexit then (e.v, .pnc ({ v := e.v, recovered := true } :: r)) else (.nilIface, m)
  | m => (.nilIface, m)
def sRecov (d : Option (List Bool)) : DS := fun _ tm m h => Option.rec (motive := fun _ => ResS) (.ok .normal tm (recA m).2 h) (fun p => T.setK p tm (some (recA m).1) fun tm => .ok .normal tm (recA m).2 h) d
def sSeq (_ _ : CS) (a b : DS) : DS := fun call tm m h => ResS.rec (motive := fun _ => ResS) .none (fun e tm m h => Ex.rec (motive := fun _ => ResS) (b call tm m h) (fun i => .ok (.exit i) tm m h) (.ok .ret tm m h) (fun c => .ok (.panic c) tm m h) e) (a call tm m h)
def sCond (c : OD) (_ _ : CS) (a b : DS) : DS := fun call tm m h => vBool (rdO c [] tm) (fun t => Bool.rec (motive := fun _ => ResS) (b call tm m h) (a call tm m h) t) .none
def exS (c : CS) : DS := CS.rec (motive := fun _ => DS) sPlain sRecov sSeq sCond c
def isRecover (o : Oper) : Bool := match o.op with | .call { callee := .builtin .recover, .. } => true | _ => false
def hasRec : Code → Bool
  | .region _ ops _ => ops.toList.any isRecover
  | .seq a b => hasRec a || hasRec b
  | .cond _ x y => hasRec x || hasRec y
  | .block _ b => hasRec b
  | .loop b => hasRec b
  | _ => false
/-- regions with recover are taken one operation at a time: each operation a region of its own, everything flushed -/
def splitOps (cx : Cx) (nt : Nat) (all : Nat) : List Oper → CS
  | [] => .plain .skip
  | o :: r => bif isRecover o then (bif (match o.guard with | none => okDst nt o.dst | some _ => false) then .seq (.recov (o.dst.map path)) (splitOps cx nt all r) else .plain .bad)
    else .seq (.plain (.region (cOps P cx all nt #[o] [o] []))) (splitOps cx nt all r)
def cS (cx : Cx) (all : Nat) (nt : Nat) : Code → CS
  | .seq a b => .seq (cS cx all nt a) (cS cx all nt b)
  | .cond c x y => .cond (cOpd cx.gs [] c) (cS cx all nt x) (cS cx all nt y)
  | .region id ops draw => bif ops.toList.any isRecover then (bif draw || ops.toList.any (fun o => o.guard.isSome) then .plain .bad else splitOps P cx nt all ops.toList) else .plain (cCode P cx all nt (.region id ops draw))
  | c => .plain (cCode P cx all nt c)
inductive CFD where
  | mk (nt na : Nat) (b : CS) | bad
def cFD (cx : Cx) (f : FuncId) : CFD := match P.funcs[f]? with
  | some fn => match fn.body with
    | some c => bif fn.results.isEmpty && !(fn.name == "runtime.NumGoroutine") && okArgs (Nat.sub (Nat.pow 2 fn.ntmps) 1) fn.ntmps then .mk fn.ntmps (fn.params.size + fn.nfree) (cS P cx (Nat.sub (Nat.pow 2 fn.ntmps) 1) fn.ntmps c) else .bad
    | none => .bad
  | none => .bad
def raisedA (m : Md) (c : List PanicEntry) : Md := match m with
  | .pnc old => .pnc (c ++ old)
  | .ret => .pnc c
def settleM (m : Md) : Md := match m with | .pnc c => settleA c | .ret => .ret
def runD (cf : CFD) (call : Call) (args : List Value) (m : Md) (h : Hp) : ResD := CFD.rec (motive := fun _ => ResD)
  (fun nt na b => bif Nat.beq (len args) na && Nat.ble na nt then argsT args 0 .nil fun tm => ResS.rec (motive := fun _ => ResD) .none (fun e _ m h => Ex.rec (motive := fun _ => ResD) (.ok (settleM m) h) (fun _ => .none) (.ok (settleM m) h) (fun c => .ok (raisedA m c) h) e) (exS b call tm m h) else .none) .none cf
def callN (cx : Cx) (n : Nat) : Call := Nat.rec (motive := fun _ => Call) (fun _ _ _ => .none) (fun _ ih f args h => runF (cF P cx f) ih (fun g => runD (cFD P cx g) ih) args h) n
end
end Abs
end Go
