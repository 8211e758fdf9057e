/-
A certified evaluator for calls of the program, first part: tries, abstract heaps, steps, and the evaluator itself.
Conditions: none.
-/
import Derived.Orders
import Derived.Recover
import Derived.Below
import Derived.Eval
import Derived.Laws.Slices
import Derived.Laws.AppendOwn
set_option linter.unusedVariables false
set_option linter.unusedSimpArgs false
namespace Go
namespace cG
abbrev A0 (n:Nat):Value:=.int .i64 (.ofNat n)
abbrev A1 (n:Nat):Value:=.int .u8 (.ofNat n)
abbrev K6 (n:Nat):Value:=.int .u32 (.ofNat n)
theorem A2 {a b:Prop} (x:a) (y:b):a∧b:=⟨x,y⟩
noncomputable section
inductive T (α:Type) where
 | nil
 | node (v:Option α) (l r:T α)
def Pa:Nat→Nat→List Bool
 | 0,_=>[]
 | k+1,i=>match i with
  | 0=>[]
  | j+1=>(Nat.beq (Nat.mod j 2) 0)::Pa k (Nat.div j 2)
def path (i:Nat):List Bool:=Pa i i
def T.get {α:Type} (t:T α):List Bool→Option α :=
 T.rec (motive:=fun _=>List Bool→Option α) (fun _=>none) (fun v _ _ il ir p=>List.rec (motive:=fun _=>Option α) v (fun b q _=>Bool.rec (motive:=fun _=>Option α) (ir q) (il q) b) p) t
def T.tD {α R:Type} (p:List Bool):T α→Option α→(T α→R)→R :=
 List.rec (motive:=fun _=>T α→Option α→(T α→R)→R)
  (fun t a k=>T.rec (motive:=fun _=>R) (k (.node a .nil .nil)) (fun _ l r _ _=>k (.node a l r)) t)
  (fun b _ ih t a k=>T.rec (motive:=fun _=>R)
    (Bool.rec (motive:=fun _=>R) (ih .nil a fun r=>k (.node none .nil r)) (ih .nil a fun l=>k (.node none l .nil)) b)
    (fun v l r _ _=>Bool.rec (motive:=fun _=>R) (ih r a fun r=>k (.node v l r)) (ih l a fun l=>k (.node v l r)) b) t) p
def T.set {α:Type} (p:List Bool) (t:T α) (a:Option α):T α:=T.tD p t a fun t=>t
@[simp] theorem T.get_nil {α:Type} (p:List Bool):(T.nil:T α).get p=none:=rfl
@[simp] theorem T.aNu {α:Type} (v:Option α) (l r:T α):(T.node v l r).get []=v:=rfl
@[simp] theorem T.aM3 {α:Type} (v:Option α) (l r:T α) (q:List Bool):(T.node v l r).get (true::q)=l.get q:=rfl
@[simp] theorem T.aHq {α:Type} (v:Option α) (l r:T α) (q:List Bool):(T.node v l r).get (false::q)=r.get q:=rfl
theorem T.aET {α R S:Type}:∀ (p:List Bool) (t:T α) (a:Option α) (k:T α→R) (g:R→S),g (T.tD p t a k)=T.tD p t a fun t=>g (k t):=by
 intro p
 induction p with
 | nil=>intro t a k g;cases t<;>rfl
 | cons b p ih =>
  intro t a k g
  cases t<;>cases b<;>exact ih _ _ _ _
theorem T.iA {α R:Type} (p:List Bool) (t:T α) (a:Option α) (k:T α→R):T.tD p t a k=k (T.set p t a) :=
 (T.aET p t a (fun t=>t) k).symm
theorem T.Qt {α:Type} (b:Bool) (p:List Bool) (a:Option α) :
 T.set (b::p) .nil a=if b then .node none (T.set p .nil a) .nil else .node none .nil (T.set p .nil a):=by
 cases b
 · exact T.iA p .nil a fun r=>T.node none .nil r
 · exact T.iA p .nil a fun r=>T.node none r .nil
theorem T.Ob {α:Type} (b:Bool) (p:List Bool) (v:Option α) (l r:T α) (a:Option α) :
 T.set (b::p) (.node v l r) a=if b then .node v (T.set p l a) r else .node v l (T.set p r a):=by
 cases b
 · exact T.iA p r a fun r=>T.node v l r
 · exact T.iA p l a fun l=>T.node v l r
theorem T.aB {α:Type}:∀ (p q:List Bool) (t:T α) (a:Option α),(T.set p t a).get q=if p=q then a else t.get q:=by
 intro p
 induction p with
 | nil =>
  intro q t a
  cases t<;>cases q<;>first|rfl|(rename_i b q;cases b<;>rfl)
 | cons b p ih =>
  intro q t a
  cases t with
  | nil =>
   rw [T.Qt]
   cases q with
   | nil=>cases b<;>simp
   | cons c q=>cases b<;>cases c<;>simp [ih]
  | node v l r =>
   rw [T.Ob]
   cases q with
   | nil=>cases b<;>simp
   | cons c q=>cases b<;>cases c<;>simp [ih]
def Fe:List Bool→Nat
 | []=>0
 | b::p=>if b then 2*Fe p+1 else 2*Fe p+2
theorem Cr:∀ (k i:Nat),i≤k→Fe (Pa k i)=i:=by
 intro k
 induction k with
 | zero=>intro i h;have:i=0:=by omega
         subst this;rfl
 | succ k ih =>
  intro i h
  cases i with
  | zero=>rfl
  | succ j =>
   have hj:=ih (j / 2) (by omega)
   simp only [Pa,Fe]
   show (if (Nat.beq (j % 2) 0)=true then 2*Fe (Pa k (j / 2))+1 else 2*Fe (Pa k (j / 2))+2)=j+1
   rw [hj]
   by_cases h2:j % 2=0
   · rw [if_pos (by simpa using h2)];omega
   · rw [if_neg (by simpa using h2)];omega
theorem Jq {i j:Nat} (h:path i=path j):i=j:=by
 have hi:=Cr i i (Nat.le_refl _)
 have hj:=Cr j j (Nat.le_refl _)
 unfold path at h
 rw [h] at hi
 omega
theorem gC {α:Type} (t:T α) (i j:Nat) (a:Option α):(T.set (path i) t a).get (path j)=if i=j then a else t.get (path j):=by
 rw [T.aB]
 by_cases h:i=j
 · subst h;simp
 · rw [if_neg (fun e=>h (Jq e)),if_neg h]
def bN {α:Type} (n:Nat) (k:Nat→α):α:=Nat.rec (motive:=fun _=>α) (k 0) (fun m _=>k (Nat.succ m)) n
theorem bD {α:Type} (n:Nat) (k:Nat→α):bN n k=k n:=by cases n<;>rfl
def Uo {α:Type} (x:Int) (k:Int→α):α:=Int.rec (motive:=fun _=>α) (fun n=>bN n fun n=>k (.ofNat n)) (fun n=>bN n fun n=>k (.negSucc n)) x
theorem Up {α:Type} (x:Int) (k:Int→α):Uo x k=k x:=by
 cases x with
 | ofNat n=>exact bD n fun n=>k (.ofNat n)
 | negSucc n=>exact bD n fun n=>k (.negSucc n)
structure Cn where
 fE:Nat
 o:Nat
 n:Nat
 s:Nat
abbrev Map:=Nat→Option Cn
def eY:Nat:=18446744073709551616
def top:Value:=.chan (some 0)
inductive bS (f:Map):Value→Value→Prop where
 | top (v:Value):bS f (.chan (some 0)) v
 | bool (b:Bool):bS f (.bool b) (.bool b)
 | int (k:IntKind) (n:Int):bS f (.int k n) (.int k n)
 | string (s:ByteArray):bS f (.string s) (.string s)
 | nilPtr:bS f (.pointer none) (.pointer none)
 | ptr (b o:Nat) (i:Cn) (h:f b=some i):bS f (.pointer (some ⟨b,o,none⟩)) (.pointer (some ⟨i.fE,i.o+o,none⟩))
 | iF (l c:Nat):bS f (.slice none l c) (.slice none l c)
 | slice (b o l c:Nat) (i:Cn) (h:f b=some i) (hc:c<eY) (hl:l≤c):bS f (.slice (some ⟨b,o,none⟩) l c) (.slice (some ⟨i.fE,i.o+o,none⟩) l c)
 | iM (b o l c lb:Nat) (i:Cn) (o' c':Nat) (h:f b=some i) (hc:c=eY*(i.s+1)+lb) (hlb:lb<eY) (hl:l≤lb) (hb:lb≤c')
  (ho:o'=i.o+o∨lb=0) (hn:o'+c'*i.s≤i.n):bS f (.slice (some ⟨b,o,none⟩) l c) (.slice (some ⟨i.fE,o',none⟩) l c')
 | pR:bS f (.map none) (.map none)
 | map (b:Nat) (i:Cn) (h:f b=some i):bS f (.map (some b)) (.map (some i.fE))
 | func (g:Fn) (a c a' c':Array Value) (ha:a.size=a'.size) (hc:c.size=c'.size)
  (va:∀ i,i<a.size→bS f (a.getD i undef) (a'.getD i undef)) (vc:∀ i,i<c.size→bS f (c.getD i undef) (c'.getD i undef)) :
  bS f (.func g a c) (.func g a' c')
 | nilFunc:bS f .nilFunc .nilFunc
 | iface (t:TypeId) (v v':Value) (h:bS f v v'):bS f (.iface t v) (.iface t v')
 | nilIface:bS f .nilIface .nilIface
 | agg (a a':Array Value) (hs:a.size=a'.size) (h:∀ i,i<a.size→bS f (a.getD i undef) (a'.getD i undef)):bS f (.agg a) (.agg a')
 | tuple (a a':Array Value) (hs:a.size=a'.size) (h:∀ i,i<a.size→bS f (a.getD i undef) (a'.getD i undef)):bS f (.tuple a) (.tuple a')
def Map.le (f g:Map):Prop:=∀ b i,f b=some i→g b=some i
theorem Map.le_refl (f:Map):f.le f:=fun _ _ h=>h
theorem Map.le_trans {f g h:Map} (a:f.le g) (b:g.le h):f.le h:=fun x i e=>b x i (a x i e)
theorem bS.mono {f g:Map} (hfg:f.le g) {v v':Value} (h:bS f v v'):bS g v v':=by
 induction h with
 | top v=>exact .top v
 | bool b=>exact .bool b
 | int k n=>exact .int k n
 | string s=>exact .string s
 | nilPtr=>exact .nilPtr
 | ptr b o i h=>exact .ptr b o i (hfg _ _ h)
 | iF l c=>exact .iF l c
 | slice b o l c i h hc hl=>exact .slice b o l c i (hfg _ _ h) hc hl
 | iM b o l c lb i o' c' h hc hlb hl hb ho hn=>exact .iM b o l c lb i o' c' (hfg _ _ h) hc hlb hl hb ho hn
 | pR=>exact .pR
 | map b i h=>exact .map b i (hfg _ _ h)
 | func g a c a' c' ha hc va vc iha ihc=>exact .func g a c a' c' ha hc iha ihc
 | nilFunc=>exact .nilFunc
 | iface t v v' h ih=>exact .iface t v v' ih
 | nilIface=>exact .nilIface
 | agg a a' hs h ih=>exact .agg a a' hs ih
 | tuple a a' hs h ih=>exact .tuple a a' hs ih
theorem bS.undef (f:Map):bS f Go.undef Go.undef:=.tuple #[] #[] rfl fun i h=>by simp at h
def dA (f:Map) (l l':List Value):Prop:=l.length=l'.length∧∀ (i:Nat) (v:Value),l[i]?=some v→∃ v',l'[i]?=some v'∧bS f v v'
theorem dA.nil (f:Map):dA f [] []:=⟨rfl,fun i v h=>by simp at h⟩
theorem dA.cons {f:Map} {v v':Value} {l l':List Value} (h:bS f v v') (hl:dA f l l'):dA f (v::l) (v'::l'):=by
 refine ⟨by simp [hl.1],fun i x hx=>?_⟩
 cases i with
 | zero=>simp at hx;subst hx;exact ⟨v',rfl,h⟩
 | succ i=>simp at hx;obtain ⟨y,hy,hr⟩:=hl.2 i x hx;exact ⟨y,by simpa using hy,hr⟩
theorem dA.Jr {f:Map} {v:Value} {l l':List Value} (h:dA f (v::l) l'):∃ v' r,l'=v'::r∧bS f v v'∧dA f l r:=by
 obtain ⟨hl,h⟩:=h
 cases l' with
 | nil=>simp at hl
 | cons v' r =>
  refine ⟨v',r,rfl,?_,by simpa using hl,fun i x hx=>?_⟩
  · obtain ⟨y,hy,hr⟩:=h 0 v rfl;simp at hy;exact hy ▸ hr
  · obtain ⟨y,hy,hr⟩:=h (i+1) x (by simpa using hx);exact ⟨y,by simpa using hy,hr⟩
theorem dA.aDb {f:Map} {l':List Value} (h:dA f [] l'):l'=[]:=by
 cases l' with
 | nil=>rfl
 | cons a b=>simp [dA] at h
theorem dA.mono {f g:Map} (hfg:f.le g) {l l':List Value} (h:dA f l l'):dA g l l' :=
 ⟨h.1,fun i v hv=>let ⟨v',a,b⟩:=h.2 i v hv;⟨v',a,b.mono hfg⟩⟩
theorem dA.append {f:Map} {a a' b b':List Value} (h:dA f a a') (k:dA f b b'):dA f (a++b) (a'++b'):=by
 refine ⟨by simp [h.1,k.1],fun i v hv=>?_⟩
 rcases Nat.lt_or_ge i a.length with hi|hi
 · rw [List.getElem?_append_left hi] at hv
   rw [List.getElem?_append_left (by rw [← h.1];exact hi)]
   exact h.2 i v hv
 · rw [List.getElem?_append_right hi] at hv
   rw [List.getElem?_append_right (by rw [← h.1];exact hi),← h.1]
   exact k.2 _ v hv
theorem iD {a:Array Value} {i:Nat} {v:Value} (h:a[i]?=some v):a.getD i undef=v:=by
 simp [Array.getD_eq_getD_getElem?,h]
theorem dA.of_array {f:Map} {a a':Array Value} (hs:a.size=a'.size) (h:∀ i,i<a.size→bS f (a.getD i undef) (a'.getD i undef)):dA f a.toList a'.toList:=by
 refine ⟨by simpa using hs,fun i v hv=>?_⟩
 have hv':a[i]?=some v:=by simpa using hv
 have hi:i<a.size:=(Array.getElem?_eq_some_iff.1 hv').1
 have:=h i hi
 rw [iD hv'] at this
 refine ⟨a'[i]'(hs ▸ hi),by simp [hs ▸ hi],?_⟩
 rwa [iD (v:=a'[i]'(hs ▸ hi)) (by simp [hs ▸ hi])] at this
theorem dA.Ct {f:Map} {l l':List Value} (h:dA f l l'):l.toArray.size=l'.toArray.size∧∀ i,i<l.toArray.size→bS f (l.toArray.getD i undef) (l'.toArray.getD i undef):=by
 refine ⟨by simpa using h.1,fun i hi=>?_⟩
 have hi':i<l.length:=by simpa using hi
 obtain ⟨v',hv',hr⟩:=h.2 i l[i] (by simp [hi'])
 rw [iD (v:=l[i]) (by simp [hi']),iD (v:=v') (by simpa using hv')]
 exact hr
theorem bS.Cu {f:Map} {l l':List Value} (h:dA f l l'):bS f (.agg ⟨l⟩) (.agg l'.toArray) :=
 .agg _ _ (by simpa using h.1) h.Ct.2
theorem bS.oJ {f:Map} {l l':List Value} (h:dA f l l'):bS f (.tuple ⟨l⟩) (.tuple l'.toArray) :=
 .tuple _ _ (by simpa using h.1) h.Ct.2
def gL (v:Value):List Value:=match v with|.agg a=>a.toList|v=>[v]
theorem aEU (v:Value):gL v=v.cells.toList:=by cases v<;>rfl
def Ah (v:Value):Bool:=match v with|.chan _=>true|_=>false
theorem bS.cells {f:Map} {v v':Value} (h:bS f v v') (ht:Ah v=false):dA f (gL v) v'.cells.toList:=by
 cases h with
 | top v=>simp [Ah] at ht
 | agg a a' hs h=>exact dA.of_array hs h
 | _=>exact dA.cons (by constructor<;>assumption) (dA.nil f)
def Ac (v:Value):Nat:=match v with|.bool _=>1|.int ..=>2|.string _=>3|_=>0
inductive dY where
 | row (cells:T Value) (n:Nat) (elem:TypeId) (cl:Bool) (ro:Bool)
 | iter (s:ByteArray) (pos:Nat)
  | mp (es:List (Value×Value))
structure Hp where
 bl:T dY
 next:Nat
 base:Nat
 log:List Nat
def Hp.at (h:Hp) (b:Nat):Option dY:=h.bl.get (path b)
def UNK:Nat:=1000000000
inductive pD (f:Map) (i:Cn):dY→Obj→Prop where
 | row (cells:T Value) (n:Nat) (elem:TypeId) (cl ro:Bool) (arr:Array Value) (elem':TypeId) (fz:Nat×Nat) (he:elem=elem'∨elem=UNK) (hs:arr.size=i.n) (hn:i.o+n≤i.n)
  (hcl:cl=true→i.o=0∧n=i.n) (hro:ro=false→∀ k,k<i.n→¬ (fz.1≤k∧k<fz.2))
  (hc:∀ k v,k<n→cells.get (path k)=some v→∃ v',arr[i.o+k]?=some v'∧bS f v v'):pD f i (.row cells n elem cl ro) (.cells arr elem' fz)
 | iter (s:ByteArray) (pos:Nat) (h0:i.o=0):pD f i (.iter s pos) (.stringIter s pos)
 | mp (es:List (Value×Value)) (en:Array MapEntry) (ck:Nat) (hl:en.size=es.length) (hck:ck=en.size)
  (he:∀ (j:Nat) (e:Value×Value),es[j]?=some e→(0<Ac e.1∧Ac e.1<4)∧∃ x,en[j]?=some x∧x.key=e.1∧bS f e.2 x.val∧x.born=j):pD f i (.mp es) (.map en ck)
structure gX (f:Map) (h:Hp) (w:World):Prop where
 obj:∀ b o i,f b=some i→h.at b=some o→∃ x,w.heap[i.fE]?=some x∧pD f i o x
 inj:∀ b c i j,f b=some i→f c=some j→(h.at b).isSome→(h.at c).isSome→i.fE=j.fE→b=c
 fresh:∀ b i,f b=some i→b<h.next∧i.fE<w.heap.size
 dead:∀ b,h.next≤b→h.at b=none
 base:h.base≤h.next
structure cV (h h':Hp):Prop where
 base:h'.base=h.base
 next:h.next≤h'.next
 log:∀ b,b∈h.log→b∈h'.log
 bT:∀ b,b<h.base→b∉h'.log→h'.at b=h.at b
 dead:∀ b,b<h.next→h.at b=none→h'.at b=none
theorem cV.refl (h:Hp):cV h h:=⟨rfl,Nat.le_refl _,fun _ h=>h,fun _ _ _=>rfl,fun _ _ e=>e⟩
theorem cV.trans {a b c:Hp} (x:cV a b) (y:cV b c):cV a c :=
 ⟨y.base.trans x.base,Nat.le_trans x.next y.next,fun k h=>y.log k (x.log k h),
   fun k hk hn=>(y.bT k (by rw [x.base];exact hk) hn).trans (x.bT k hk fun e=>hn (y.log k e)),
   fun k hk e=>y.dead k (Nat.lt_of_lt_of_le hk x.next) (x.dead k hk e)⟩
structure cY (f:Map) (h:Hp) (w:World) (f':Map) (h':Hp) (w':World):Prop where
 pre:gX f h w
 le:f.le f'
 rel:gX f' h' w'
 size:w.heap.size≤w'.heap.size
 tape:w'.tape=w.tape
 os:w'.os=w.os
 out:w'.output=w.output
 bT:∀ c,c<w.heap.size→(∀ b i,f b=some i→i.fE=c→(h.at b).isSome→b<h.base∧b∉h'.log)→w'.heap[c]?=w.heap[c]?
 news:∀ b i,f b=none→f' b=some i→h.next≤b∧(w.heap.size≤i.fE∨∃ c j,f c=some j∧j.fE=i.fE∧(h.at c).isSome∧(h.base≤c∨c∈h'.log))
theorem cY.refl {f:Map} {h:Hp} {w:World} (hr:gX f h w):cY f h w f h w :=
 ⟨hr,Map.le_refl f,hr,Nat.le_refl _,rfl,rfl,rfl,fun _ _ _=>rfl,fun b i e e'=>by rw [e] at e';cases e'⟩
theorem cY.trans {f f1 f2:Map} {h h1 h2:Hp} {w w1 w2:World} (x:cY f h w f1 h1 w1) (ax:cV h h1) (ay:cV h1 h2) (y:cY f1 h1 w1 f2 h2 w2) :
 cY f h w f2 h2 w2:=by
 have live:∀ b i,f b=some i→(h1.at b).isSome→(h.at b).isSome:=fun b i hb hl=>by
  cases e:h.at b with
  | some _=>rfl
  | none=>rw [ax.dead b (x.pre.fresh b i hb).1 e] at hl;cases hl
 refine ⟨x.pre,Map.le_trans x.le y.le,y.rel,Nat.le_trans x.size y.size,y.tape.trans x.tape,y.os.trans x.os,y.out.trans x.out,?_,?_⟩
 · intro c hc hall
   have h1:w1.heap[c]?=w.heap[c]?:=x.bT c hc fun b i hb hi hl=>⟨(hall b i hb hi hl).1,fun e=>(hall b i hb hi hl).2 (ay.log _ e)⟩
   refine (y.bT c (Nat.lt_of_lt_of_le hc x.size) fun b i hb hi hl=>?_).trans h1
   cases hfb:f b with
   | some j =>
    have:=x.le b j hfb
    rw [hb] at this;cases this
    rw [ax.base]
    exact hall b i hfb hi (live b i hfb hl)
   | none =>
    obtain ⟨hge,hor⟩:=x.news b i hfb hb
    rcases hor with hor|⟨c',j,hj,hjb,hlive,hbase⟩
    · omega
    · obtain ⟨p,q⟩:=hall c' j hj (hjb.trans hi) hlive
      rcases hbase with hb'|hb'
      · omega
      · exact absurd (ay.log _ hb') q
 · intro b i hb hb2
   cases hf1:f1 b with
   | some j =>
    have:=y.le b j hf1
    rw [hb2] at this;cases this
    obtain ⟨hge,hor⟩:=x.news b i hb hf1
    exact ⟨hge,hor.imp id fun ⟨c,j,hj,e,hl,hh⟩=>⟨c,j,hj,e,hl,hh.imp id (ay.log _)⟩⟩
   | none =>
    obtain ⟨hge,hor⟩:=y.news b i hf1 hb2
    refine ⟨Nat.le_trans ax.next hge,?_⟩
    rcases hor with hor|⟨c,j,hj,e,hl,hh⟩
    · exact .inl (Nat.le_trans x.size hor)
    · cases hfc:f c with
      | some j' =>
       have:=x.le c j' hfc
       rw [hj] at this;cases this
       exact .inr ⟨c,j,hfc,e,live c j hfc hl,by rw [← ax.base];exact hh⟩
      | none =>
       obtain ⟨_,hor'⟩:=x.news c j hfc hj
       rcases hor' with hor'|⟨c',j',hj',e',hl',hh'⟩
       · exact .inl (by omega)
       · exact .inr ⟨c',j',hj',e'.trans e,hl',hh'.imp id (ay.log _)⟩
end
noncomputable section
theorem Map.uV {f:Map} {h:Hp} {w:World} (hr:gX f h w) {b:Nat} (hb:h.next≤b):f b=none:=by
 cases e:f b with
 | none=>rfl
 | some i=>exact absurd (hr.fresh b i e).1 (by omega)
def jN (base:Nat) (log:List Nat) (b:Nat):List Nat :=
 bif Nat.blt b base then (match log with|[]=>[b]|c::r=>bif Nat.beq c b then c::r else b::c::r) else log
theorem aHr {base:Nat} {log:List Nat} {b c:Nat} (h:c∈log):c∈jN base log b:=by
 unfold jN
 cases Nat.blt b base with
 | false=>exact h
 | true =>
  cases log with
  | nil=>cases h
  | cons d r =>
   show c∈(bif Nat.beq d b then d::r else b::d::r)
   cases Nat.beq d b with
   | true=>exact h
   | false=>exact List.mem_cons_of_mem _ h
theorem zF {base:Nat} {log:List Nat} {b:Nat} (h:b<base):b∈jN base log b:=by
 unfold jN
 have e:Nat.blt b base=true:=Nat.blt_eq.mpr h
 rw [e]
 cases log with
 | nil=>simp
 | cons d r =>
  show b∈(bif Nat.beq d b then d::r else b::d::r)
  cases hb:Nat.beq d b with
  | true=>have:=Nat.eq_of_beq_eq_true hb;subst this;simp
  | false=>simp
def Hp.put (h:Hp) (b:Nat) (o:Option dY):Hp:=⟨T.set (path b) h.bl o,h.next,h.base,jN h.base h.log b⟩
def Hp.nT {R:Type} (h:Hp) (b:Nat) (o:Option dY) (k:Hp→R):R:=T.tD (path b) h.bl o fun bl=>k ⟨bl,h.next,h.base,jN h.base h.log b⟩
theorem Hp.qD {R:Type} (h:Hp) (b:Nat) (o:Option dY) (k:Hp→R):h.nT b o k=k (h.put b o):=T.iA _ _ _ _
def Hp.new (h:Hp) (o:dY):Hp:=⟨T.set (path h.next) h.bl (some o),Nat.succ h.next,h.base,h.log⟩
def Hp.Ff {R:Type} (h:Hp) (o:dY) (k:Nat→Hp→R):R :=
 T.tD (path h.next) h.bl (some o) fun bl=>bN (Nat.succ h.next) fun nx=>k h.next ⟨bl,nx,h.base,h.log⟩
theorem Hp.zG {R:Type} (h:Hp) (o:dY) (k:Nat→Hp→R):h.Ff o k=k h.next (h.new o):=by
 unfold Hp.Ff
 rw [T.iA,bD];rfl
theorem Hp.uW (h:Hp) (b c:Nat) (o:Option dY):(h.put b o).at c=if b=c then o else h.at c:=gC _ _ _ _
theorem Hp.tE (h:Hp) (c:Nat) (o:dY):(h.new o).at c=if h.next=c then some o else h.at c:=gC _ _ _ _
theorem cV.put {h:Hp} {b:Nat} (o:Option dY) (hl:(h.at b).isSome):cV h (h.put b o):=by
 refine ⟨rfl,Nat.le_refl _,fun c hc=>aHr hc,fun c hc hn=>?_,fun c _ e=>?_⟩
 · rw [Hp.uW]
   by_cases hbc:b=c
   · subst hbc;exact absurd (zF hc) hn
   · rw [if_neg hbc]
 · rw [Hp.uW]
   by_cases hbc:b=c
   · subst hbc;rw [e] at hl;cases hl
   · rw [if_neg hbc];exact e
theorem cV.new {h:Hp} (o:dY) (hb:h.base≤h.next):cV h (h.new o):=by
 refine ⟨rfl,Nat.le_succ _,fun c hc=>hc,fun c hc hn=>?_,fun c hc e=>?_⟩
 · rw [Hp.tE,if_neg (by omega)]
 · rw [Hp.tE,if_neg (by omega)];exact e
theorem pD.mono {f g:Map} (hfg:f.le g) {i:Cn} {o:dY} {x:Obj} (h:pD f i o x):pD g i o x:=by
 cases h with
 | row cells n elem cl ro arr elem' fz he hs hn hcl hro hc =>
  exact .row cells n elem cl ro arr elem' fz he hs hn hcl hro fun k v hk hv=>let ⟨v',a,b⟩:=hc k v hk hv;⟨v',a,b.mono hfg⟩
 | iter s pos h0=>exact .iter s pos h0
 | mp es en ck hl hck he=>exact .mp es en ck hl hck fun j e hj=>let ⟨p,x,a,b,c,d⟩:=he j e hj;⟨p,x,a,b,c.mono hfg,d⟩
theorem cY.put {f:Map} {h:Hp} {w w':World} {b:Nat} {i:Cn} {o:dY} {x:Obj} (hr:gX f h w) (hb:f b=some i) (hl:(h.at b).isSome)
 (hx:w'.heap[i.fE]?=some x) (ho:pD f i o x) (hsz:w'.heap.size=w.heap.size) (hne:∀ c,c≠i.fE→w'.heap[c]?=w.heap[c]?)
 (ht:w'.tape=w.tape) (hos:w'.os=w.os) (hout:w'.output=w.output):cY f h w f (h.put b (some o)) w':=by
 refine ⟨hr,Map.le_refl f,⟨?_,?_,?_,?_,hr.base⟩,by omega,ht,hos,hout,?_,fun c j e e'=>by rw [e] at e';cases e'⟩
 · intro c o' j hc ho'
   rw [Hp.uW] at ho'
   by_cases hbc:b=c
   · subst hbc
     rw [if_pos rfl] at ho';cases ho'
     rw [hb] at hc;cases hc
     exact ⟨x,hx,ho⟩
   · rw [if_neg hbc] at ho'
     obtain ⟨y,hy,hor⟩:=hr.obj c o' j hc ho'
     refine ⟨y,?_,hor⟩
     rw [hne]
     · exact hy
     · intro e
       exact hbc (hr.inj b c i j hb hc hl (by rw [ho'];rfl) e.symm)
 · intro c d j k hc hd hlc hld e
   refine hr.inj c d j k hc hd ?_ ?_ e
   · rw [Hp.uW] at hlc
     by_cases hbc:b=c
     · subst hbc;exact hl
     · rwa [if_neg hbc] at hlc
   · rw [Hp.uW] at hld
     by_cases hbc:b=d
     · subst hbc;exact hl
     · rwa [if_neg hbc] at hld
 · intro c j hc
   have:=hr.fresh c j hc
   exact ⟨this.1,by omega⟩
 · intro c hc
   rw [Hp.uW]
   by_cases hbc:b=c
   · subst hbc;exact absurd (hr.fresh b i hb).1 (by have:h.next≤b:=hc;omega)
   · rw [if_neg hbc];exact hr.dead c hc
 · intro c hc hall
   refine hne c fun e=>?_
   subst e
   obtain ⟨p,q⟩:=hall b i hb rfl hl
   exact q (zF p)
def Map.ext (f:Map) (b:Nat) (i:Cn):Map:=fun c=>if c=b then some i else f c
theorem Map.fM (f:Map) (b:Nat) (i:Cn):(f.ext b i) b=some i:=if_pos rfl
theorem Map.l8 (f:Map) {b c:Nat} (i:Cn) (h:c≠b):(f.ext b i) c=f c:=if_neg h
theorem Map.Js {f:Map} {b:Nat} (i:Cn) (h:f b=none):f.le (f.ext b i):=by
 intro c j hc
 by_cases e:c=b
 · subst e;rw [h] at hc;cases hc
 · rw [Map.l8 f i e];exact hc
theorem cY.new {f:Map} {h:Hp} {w w':World} {i:Cn} {o:dY} {x:Obj} (hr:gX f h w) (hi:i.fE=w.heap.size)
 (ho:pD (f.ext h.next i) i o x) (hheap:w'.heap=w.heap.push x) (ht:w'.tape=w.tape) (hos:w'.os=w.os) (hout:w'.output=w.output) :
 cY f h w (f.ext h.next i) (h.new o) w':=by
 have hn:f h.next=none:=Map.uV hr (Nat.le_refl _)
 have hle:=Map.Js i hn
 have hsz:w'.heap.size=w.heap.size+1:=by rw [hheap];simp
 have hold:∀ c,c<w.heap.size→w'.heap[c]?=w.heap[c]?:=fun c hc=>by
  rw [hheap,Array.getElem?_push,if_neg (by omega)]
 refine ⟨hr,hle,⟨?_,?_,?_,?_,Nat.le_succ_of_le hr.base⟩,by omega,ht,hos,hout,fun c hc _=>hold c hc,?_⟩
 · intro c o' j hc ho'
   rw [Hp.tE] at ho'
   by_cases e:c=h.next
   · subst e
     rw [if_pos rfl] at ho';cases ho'
     rw [Map.fM] at hc;cases hc
     exact ⟨x,by rw [hheap,hi];simp,ho⟩
   · rw [if_neg (fun q=>e q.symm)] at ho'
     rw [Map.l8 f i e] at hc
     obtain ⟨y,hy,hor⟩:=hr.obj c o' j hc ho'
     exact ⟨y,(hold _ (hr.fresh c j hc).2).trans hy,hor.mono hle⟩
 · intro c d j k hc hd hlc hld e
   by_cases ec:c=h.next<;>by_cases ed:d=h.next
   · rw [ec,ed]
   · subst ec
     rw [Map.fM] at hc;cases hc
     rw [Map.l8 f i ed] at hd
     have:=(hr.fresh d k hd).2
     omega
   · subst ed
     rw [Map.fM] at hd;cases hd
     rw [Map.l8 f i ec] at hc
     have:=(hr.fresh c j hc).2
     omega
   · rw [Map.l8 f i ec] at hc
     rw [Map.l8 f i ed] at hd
     rw [Hp.tE,if_neg (fun q=>ec q.symm)] at hlc
     rw [Hp.tE,if_neg (fun q=>ed q.symm)] at hld
     exact hr.inj c d j k hc hd hlc hld e
 · intro c j hc
   by_cases ec:c=h.next
   · subst ec
     rw [Map.fM] at hc;cases hc
     exact ⟨Nat.lt_succ_self _,by omega⟩
   · rw [Map.l8 f i ec] at hc
     have:=hr.fresh c j hc
     exact ⟨Nat.lt_succ_of_lt this.1,by omega⟩
 · intro c hc
   have hc':h.next<c:=hc
   rw [Hp.tE,if_neg (by omega)]
   exact hr.dead c (by omega)
 · intro c j hc hc'
   by_cases ec:c=h.next
   · subst ec
     rw [Map.fM] at hc';cases hc'
     exact ⟨Nat.le_refl _,.inl (by omega)⟩
   · rw [Map.l8 f i ec,hc] at hc';cases hc'
theorem cY.consume {f:Map} {h:Hp} {w w':World} {b:Nat} {i j:Cn} {o:dY} {x:Obj} (hr:gX f h w) (hb:f b=some i) (hl:(h.at b).isSome)
 (hij:j.fE=i.fE) (hx:w'.heap[i.fE]?=some x) (ho:pD (f.ext h.next j) j o x) (hsz:w'.heap.size=w.heap.size) (hne:∀ c,c≠i.fE→w'.heap[c]?=w.heap[c]?)
 (ht:w'.tape=w.tape) (hos:w'.os=w.os) (hout:w'.output=w.output):cY f h w (f.ext h.next j) ((h.put b none).new o) w':=by
 have hn:f h.next=none:=Map.uV hr (Nat.le_refl _)
 have hle:=Map.Js j hn
 have hbn:b≠h.next:=fun e=>by subst e;rw [hn] at hb;cases hb
 have hat:∀ c,((h.put b none).new o).at c=if h.next=c then some o else if b=c then none else h.at c:=fun c=>by
  rw [Hp.tE,Hp.uW];rfl
 refine ⟨hr,hle,⟨?_,?_,?_,?_,Nat.le_succ_of_le hr.base⟩,by omega,ht,hos,hout,?_,?_⟩
 · intro c o' k hc ho'
   rw [hat] at ho'
   by_cases e:c=h.next
   · subst e
     rw [if_pos rfl] at ho';cases ho'
     rw [Map.fM] at hc;cases hc
     exact ⟨x,by rw [hij];exact hx,ho⟩
   · rw [if_neg (fun q=>e q.symm)] at ho'
     rw [Map.l8 f j e] at hc
     by_cases e2:b=c
     · rw [if_pos e2] at ho';cases ho'
     · rw [if_neg e2] at ho'
       obtain ⟨y,hy,hor⟩:=hr.obj c o' k hc ho'
       refine ⟨y,?_,hor.mono hle⟩
       rw [hne]
       · exact hy
       · intro q
         exact e2 (hr.inj b c i k hb hc hl (by rw [ho'];rfl) q.symm)
 · intro c d k m hc hd hlc hld e
   rw [hat] at hlc hld
   by_cases ec:c=h.next<;>by_cases ed:d=h.next
   · rw [ec,ed]
   · subst ec
     rw [Map.fM] at hc;cases hc
     rw [Map.l8 f j ed] at hd
     rw [if_neg (fun q=>ed q.symm)] at hld
     by_cases e2:b=d
     · rw [if_pos e2] at hld;cases hld
     · rw [if_neg e2] at hld
       exact absurd (hr.inj b d i m hb hd hl hld (by omega)) e2
   · subst ed
     rw [Map.fM] at hd;cases hd
     rw [Map.l8 f j ec] at hc
     rw [if_neg (fun q=>ec q.symm)] at hlc
     by_cases e2:b=c
     · rw [if_pos e2] at hlc;cases hlc
     · rw [if_neg e2] at hlc
       exact absurd (hr.inj b c i k hb hc hl hlc (by omega)) e2
   · rw [Map.l8 f j ec] at hc
     rw [Map.l8 f j ed] at hd
     rw [if_neg (fun q=>ec q.symm)] at hlc
     rw [if_neg (fun q=>ed q.symm)] at hld
     have lc:(h.at c).isSome:=by
      by_cases e2:b=c
      · rw [if_pos e2] at hlc;cases hlc
      · rwa [if_neg e2] at hlc
     have ld:(h.at d).isSome:=by
      by_cases e2:b=d
      · rw [if_pos e2] at hld;cases hld
      · rwa [if_neg e2] at hld
     exact hr.inj c d k m hc hd lc ld e
 · intro c k hc
   by_cases ec:c=h.next
   · subst ec
     rw [Map.fM] at hc;cases hc
     exact ⟨Nat.lt_succ_self _,by have:=(hr.fresh b i hb).2;omega⟩
   · rw [Map.l8 f j ec] at hc
     have:=hr.fresh c k hc
     exact ⟨Nat.lt_succ_of_lt this.1,by omega⟩
 · intro c hc
   have hc':h.next<c:=hc
   rw [hat,if_neg (by omega)]
   by_cases e2:b=c
   · rw [if_pos e2]
   · rw [if_neg e2];exact hr.dead c (by omega)
 · intro c hc hall
   refine hne c fun e=>?_
   subst e
   obtain ⟨p,q⟩:=hall b i hb rfl hl
   exact q (zF p)
 · intro c k hc hc'
   by_cases ec:c=h.next
   · subst ec
     rw [Map.fM] at hc';cases hc'
     refine ⟨Nat.le_refl _,.inr ⟨b,i,hb,hij.symm,hl,?_⟩⟩
     rcases Nat.lt_or_ge b h.base with q|q
     · exact .inr (zF q)
     · exact .inl q
   · rw [Map.l8 f j ec,hc] at hc';cases hc'
theorem cV.consume {h:Hp} {b:Nat} (o:dY) (hl:(h.at b).isSome) (hb:h.base≤h.next):cV h ((h.put b none).new o) :=
 (cV.put none hl).trans (cV.new o hb)
end
noncomputable section
inductive Ex where
 | normal | exit (id:Nat) | ret | panic (c:List PanicEntry)
abbrev Df:=List (FuncId×List Value)
inductive fV where
 | none
 | val (v:Value) (h:Hp)
 | panic (c:List PanicEntry) (h:Hp)
inductive eL where
 | none
 | ok (e:Ex) (tm:T Value) (df:Df) (h:Hp)
abbrev Call:=FuncId→List Value→Hp→fV
abbrev DP:=List Value→T Value→Option Value
inductive PR where
 | none
 | val (v:Value)
 | read (b:Nat) (g:dY→Option Value)
abbrev DR:=List Value→T Value→PR
abbrev DO:=Call→List Value→T Value→Hp→fV
inductive OD where
 | loc (i:Nat)
 | tmp (p:List Bool)
 | val (v:Value)
def pS (o:Option Value):Value:=Option.rec (motive:=fun _=>Value) top (fun v=>v) o
def nth (l:List Value) (i:Nat):Value:=List.rec (motive:=fun _=>Nat→Value) (fun _=>top) (fun v _ ih i=>Nat.rec (motive:=fun _=>Value) v (fun j _=>ih j) i) l i
def bW (o:OD) (lo:List Value) (tm:T Value):Value:=OD.rec (motive:=fun _=>Value) (nth lo) (fun p=>pS (tm.get p)) (fun v=>v) o
def Co (l:List OD) (lo:List Value) (tm:T Value):List Value:=List.rec (motive:=fun _=>List Value) [] (fun o _ ih=>bW o lo tm::ih) l
def idx (ds:List (Option Tmp)) (t:Tmp):Option Nat:=match ds with
 | []=>none
 | d::r=>match d with
  | none=>(idx r t).map (·+1)
  | some u=>bif Nat.beq u t then some 0 else (idx r t).map (·+1)
def gG (v:Value):Bool:=match v with
 | .bool _ | .int .. | .string _ | .pointer none | .slice none _ _ | .map none | .nilFunc | .nilIface=>true
 | _=>false
def aU (gs:List Nat) (ds:List (Option Tmp)):Operand→OD
 | .tmp t=>match idx ds t with | some i=>.loc i | none=>.tmp (path t)
 | .const v=>.val (bif gG v then v else top)
 | .global g=>.val (bif gs.any (fun x=>Nat.beq x g) then .pointer (some ⟨g,0,none⟩) else top)
 | .func f=>.val (.func (.func f) #[] #[])
def kO {R:Type} (v:Value) (k:Nat→Nat→R) (z:R):R:=match v with
 | .pointer a=>Option.rec (motive:=fun _=>R) z (fun a=>k a.block a.off) a
 | _=>z
def jQ {R:Type} (v:Value) (k:IntKind→Int→R) (z:R):R:=match v with
 | .int kd n=>k kd n
 | _=>z
def kZ {R:Type} (v:Value) (k:Bool→R) (z:R):R:=match v with
 | .bool b=>k b
 | _=>z
def pT {R:Type} (v:Value) (k:ByteArray→R) (z:R):R:=match v with
 | .string s=>k s
 | _=>z
def rW {R:Type} (v:Value) (k:Nat→Nat→Nat→Nat→R) (kn:Nat→Nat→R) (z:R):R:=match v with
 | .slice a l c=>Option.rec (motive:=fun _=>R) (kn l c) (fun a=>k a.block a.off l c) a
 | _=>z
def uX {R:Type} (v:Value) (k:List Value→R) (z:R):R:=match v with
 | .agg a=>k a.toList
 | _=>z
def aHs {R:Type} (v:Value) (k:List Value→R) (z:R):R:=match v with
 | .tuple a=>k a.toList
 | _=>z
def lA {R:Type} (v:Value) (k:TypeId→Value→R) (kn:R) (z:R):R:=match v with
 | .iface t x=>k t x
 | .nilIface=>kn
 | _=>z
def vFn {R:Type} (v:Value) (k:FuncId→List Value→List Value→R) (z:R):R:=match v with
 | .func g a c=>match g with
  | .func f=>k f a.toList c.toList
  | _=>z
 | _=>z
def eC {α R:Type} (o:Option α) (k:α→R) (z:R):R:=Option.rec (motive:=fun _=>R) z k o
def qV {R:Type} (x:Int) (k:Nat→R) (z:R):R:=Int.rec (motive:=fun _=>R) k (fun _=>z) x
def xT (v:Value):Bool:=match v with|.agg _|.tuple _|.chan _=>true|_=>false
def bY (l:List Value):Bool:=List.rec (motive:=fun _=>Bool) true (fun v _ ih=>bif xT v then false else ih) l
def iB {R:Type} (v:Value) (want:Bool) (y n z:R):R:=match v with
 | .bool b=>Bool.rec (motive:=fun _=>R) (Bool.rec (motive:=fun _=>R) y n want) (Bool.rec (motive:=fun _=>R) n y want) b
 | .tuple _=>n
 | _=>z
def pU {R:Type} (h:Hp) (b:Nat) (k:T Value→Nat→TypeId→Bool→Bool→R) (z:R):R :=
 eC (h.bl.get (path b)) (fun o=>dY.rec (motive:=fun _=>R) k (fun _ _=>z) (fun _=>z) o) z
def tF {R:Type} (o:dY) (k:T Value→Nat→TypeId→Bool→Bool→R) (z:R):R:=dY.rec (motive:=fun _=>R) k (fun _ _=>z) (fun _=>z) o
def cR (c:T Value) (o:Nat) (n:Nat) (acc:List Value):Option (List Value) :=
 Nat.rec (motive:=fun _=>List Value→Option (List Value)) (fun acc=>some acc) (fun n ih acc=>eC (c.get (path (Nat.add o n))) (fun v=>ih (v::acc)) none) n acc
def aL {R:Type} (l:List Value) (i:Nat) (c:T Value) (k:T Value→R):R :=
 List.rec (motive:=fun _=>Nat→T Value→R) (fun _ c=>k c) (fun v _ ih i c=>T.tD (path i) c (some v) fun c=>ih (Nat.succ i) c) l i c
def len {α:Type} (l:List α):Nat:=List.rec (motive:=fun _=>Nat) 0 (fun _ _ ih=>Nat.succ ih) l
def jR {R:Type} (h:Hp) (b o:Nat) (l:List Value) (k:Hp→R) (z:R):R :=
 pU h b (fun c n e cl ro=>bif ro then z else bif bY l then bif Nat.ble (Nat.add o (len l)) n then aL l o c fun c=>h.nT b (some (.row c n e cl false)) k else z else z) z
def gT {R:Type} (h:Hp) (e:TypeId) (l:List Value) (n:Nat) (cl:Bool) (k:Nat→Hp→R):R :=
 aL l 0 .nil fun c=>h.Ff (.row c n e cl false) k
def iE:IntKind→Nat
 | .i8 | .u8=>256 | .i16 | .u16=>65536 | .i32 | .u32=>4294967296 | .i64 | .u64=>18446744073709551616
def half:IntKind→Nat
 | .i8=>128 | .i16=>32768 | .i32=>2147483648 | .i64=>9223372036854775808 | .u8=>256 | .u16=>65536 | .u32=>4294967296 | .u64=>18446744073709551616
def fin (M H m:Nat):Int:=bif Nat.blt m H then .ofNat m else .negSucc (Nat.sub (Nat.sub M 1) m)
def aR (k:IntKind) (x:Int):Int:=Int.rec (motive:=fun _=>Int) (fun a=>bif Nat.blt a (half k) then .ofNat a else fin (iE k) (half k) (Nat.mod a (iE k))) (fun a=>fin (iE k) (half k) (Nat.sub (Nat.sub (iE k) 1) (Nat.mod a (iE k)))) x
def kB (x y:Int):Int:=Int.rec (motive:=fun _=>Int) (fun a=>Int.rec (motive:=fun _=>Int) (fun b=>.ofNat (Nat.add a b)) (fun _=>x+y) y) (fun _=>x+y) x
def aNw (x y:Int):Int:=Int.rec (motive:=fun _=>Int) (fun a=>Int.rec (motive:=fun _=>Int) (fun b=>.ofNat (Nat.mul a b)) (fun _=>x*y) y) (fun _=>x*y) x
def uB (x y:Int):Bool:=Int.rec (motive:=fun _=>Bool) (fun a=>Int.rec (motive:=fun _=>Bool) (fun b=>Nat.blt a b) (fun _=>false) y) (fun a=>Int.rec (motive:=fun _=>Bool) (fun _=>true) (fun b=>Nat.blt b a) y) x
def Pb (x y:Int):Bool:=Int.rec (motive:=fun _=>Bool) (fun a=>Int.rec (motive:=fun _=>Bool) (fun b=>Nat.beq a b) (fun _=>false) y) (fun a=>Int.rec (motive:=fun _=>Bool) (fun _=>false) (fun b=>Nat.beq b a) y) x
def aHt (x:Int) (n:Nat):Int:=Int.rec (motive:=fun _=>Int) (fun a=>.ofNat (Nat.mul a (Nat.pow 2 n))) (fun _=>x*2 ^ n) x
def aEV (x:Int) (n:Nat):Int:=Int.rec (motive:=fun _=>Int) (fun a=>.ofNat (Nat.div a (Nat.pow 2 n))) (fun a=>.negSucc (Nat.div a (Nat.pow 2 n))) x
def aHu (x y:Int):Int:=Int.rec (motive:=fun _=>Int) (fun a=>Int.rec (motive:=fun _=>Int) (fun b=>.ofNat (Nat.div a b)) (fun _=>x.tdiv y) y) (fun _=>x.tdiv y) x
def aQp (x y:Int):Int:=Int.rec (motive:=fun _=>Int) (fun a=>Int.rec (motive:=fun _=>Int) (fun b=>.ofNat (Nat.mod a b)) (fun _=>x.tmod y) y) (fun _=>x.tmod y) x
def xU (a b:Nat):Nat:=bif Nat.ble a b then a else b
def nU (kd:IntKind) (z:Int):Option Value:=Uo z fun z=>some (.int kd z)
def jS (kd:IntKind) (z:Nat):Option Value:=bN z fun z=>some (.int kd (.ofNat z))
def gB (b:Bool):Option Value:=Bool.rec (motive:=fun _=>Option Value) (some (.bool false)) (some (.bool true)) b
abbrev G:=IntKind→Int→Int→Option Value
def dW:G:=fun kd x y=>nU kd (aR kd (kB x y))
def gP:G:=fun kd x y=>nU kd (aR kd (x - y))
def iU:G:=fun kd x y=>nU kd (aR kd (aNw x y))
def nn (f:Nat→Nat→Nat):G:=fun kd x y=>qV x (fun a=>qV y (fun b=>bN (f a b) fun c=>bif Nat.blt c (half kd) then some (.int kd (.ofNat c)) else none) none) none
def Iu:G:=fun kd x y=>qV x (fun a=>qV y (fun b=>bN (Nat.xor a (Nat.land a b)) fun c=>bif Nat.blt a (half kd) && Nat.blt c (half kd) then some (.int kd (.ofNat c)) else none) none) none
def aHv:G:=fun kd x y=>qV y (fun n=>nU kd (aR kd (aHt x (xU n kd.bits)))) none
def Jt:G:=fun kd x y=>qV y (fun n=>nU kd (aEV x (xU n kd.bits))) none
def kX:G:=fun _ x y=>gB (Pb x y)
def Ar:G:=fun _ x y=>gB (!Pb x y)
def oL:G:=fun _ x y=>gB (uB x y)
def gLe:G:=fun _ x y=>gB (!uB y x)
def Oc:G:=fun _ x y=>gB (uB y x)
def gGe:G:=fun _ x y=>gB (!uB x y)
def pE:G:=fun kd x y=>bif Pb y 0 then none else nU kd (aR kd (aHu x y))
def iZ:G:=fun kd x y=>bif Pb y 0 then none else nU kd (aQp x y)
def kN (k:IntKind):Nat:=match k with|.i8=>0|.i16=>1|.i32=>2|.i64=>3|.u8=>4|.u16=>5|.u32=>6|.u64=>7
def kEq (a b:IntKind):Bool:=Nat.beq (kN a) (kN b)
def bl (s:ByteArray):List UInt8:=s.data.toList
def bEq (a b:UInt8):Bool:=Nat.beq a.toNat b.toNat
def Uk (x y:List UInt8):Bool:=List.rec (motive:=fun _=>List UInt8→Bool) (fun y=>List.rec (motive:=fun _=>Bool) true (fun _ _ _=>false) y) (fun a _ ih y=>List.rec (motive:=fun _=>Bool) false (fun b r _=>bif bEq a b then ih r else false) y) x y
def lLt (x y:List UInt8):Bool:=List.rec (motive:=fun _=>List UInt8→Bool) (fun y=>List.rec (motive:=fun _=>Bool) false (fun _ _ _=>true) y) (fun a _ ih y=>List.rec (motive:=fun _=>Bool) false (fun b r _=>bif Nat.blt a.toNat b.toNat then true else bif bEq a b then ih r else false) y) x y
def jM (l:List UInt8):ByteArray:=⟨⟨l⟩⟩
def Ad (l:List UInt8):Option Value:=some (.string (jM l))
def xF (op:BinOp) (x y:List UInt8):Option Value:=match op with
 | .add=>bif Nat.blt (Nat.add (len x) (len y)) 9223372036854775808 then Ad (x++y) else none
 | .eql=>gB (Uk x y)
 | .neq=>gB (!Uk x y)
 | .lss=>gB (lLt x y)
 | .leq=>gB (!lLt y x)
 | .gtr=>gB (lLt y x)
 | .geq=>gB (!lLt x y)
 | _=>none
def sEq (x y:Value):Option Bool:=match x with
 | .int k a=>jQ y (fun k' b=>bif kEq k k' then some (Pb a b) else none) none
 | .bool a=>kZ y (fun b=>some (a == b)) none
 | .string a=>pT y (fun b=>some (Uk (bl a) (bl b))) none
 | _=>none
def rZ (tag:Nat) (x y:Value):Option Bool:=bif Nat.beq (Ac x) tag then sEq x y else none
def jF (ls:List (Nat×Nat)) (x y:List Value):Option Bool:=List.rec (motive:=fun _=>Option Bool) (some true) (fun i _ ih=>eC (rZ i.2 (nth x i.1) (nth y i.1)) (fun t=>Bool.rec (motive:=fun _=>Option Bool) (some false) ih t) none) ls
inductive Cv where
 | toInt (k:IntKind) | aUo (e:TypeId) | pF | same
inductive IxK where
 | arr (n s:Nat) | sl (s:Nat)
inductive CO where
 | p (f:DP)
 | r (f:DR)
 | g (f:DO)
def eU (c:Nat):Bool:=Nat.ble eY c
def sure (c:Nat):Nat:=bif eU c then Nat.mod c eY else c
def esz (c:Nat):Nat:=Nat.div c eY
def cM (s n:Nat):Nat:=Nat.add (Nat.mul eY (Nat.succ s)) n
def bE (b o:Nat):Value:=.pointer (some ⟨b,o,none⟩)
def cB (b o l c:Nat):Value:=.slice (some ⟨b,o,none⟩) l c
def aC (x:OD):DP:=fun lo tm=>some (bW x lo tm)
def dG (c a b:OD):DP:=fun lo tm=>kZ (bW c lo tm) (fun t=>Bool.rec (motive:=fun _=>Option Value) (some (bW b lo tm)) (some (bW a lo tm)) t) none
def cO (e:TypeId) (z:List Value) (n:Nat):DO:=fun _ _ _ h=>gT h e z n true fun b h=>.val (bE b 0) h
def aHw (e:TypeId) (v:Value) (h:Hp):fV:=bif Ah v then .none else gT h e (gL v) (len (gL v)) true fun b h=>.val (bE b 0) h
def eM (e:TypeId) (x:OD):DO:=fun _ lo tm h=>aHw e (bW x lo tm) h
def over (z:List Value) (off:Nat) (l:List Value):List Value :=
 Nat.rec (motive:=fun _=>List Value→List Value) (fun z=>List.rec (motive:=fun _=>List Value→List Value) (fun z=>z) (fun v _ ih z=>List.rec (motive:=fun _=>List Value) [] (fun _ r _=>v::ih r) z) l z)
  (fun _ ih z=>List.rec (motive:=fun _=>List Value) [] (fun x r _=>x::ih r) z) off z
def oE {R:Type} (o n:Nat) (v:Value) (z:List Value) (k:List Value→R) (no:R):R :=
 bif Ah v then no else bif Nat.beq (len (gL v)) n then bif Nat.ble (Nat.add o n) (len z) then k (over z o (gL v)) else no else no
def jO {R:Type} (parts:List (Nat×Nat×OD)) (lo:List Value) (tm:T Value) (z:List Value) (k:List Value→R) (no:R):R :=
 List.rec (motive:=fun _=>List Value→R) k (fun p _ ih z=>oE p.1 p.2.1 (bW p.2.2 lo tm) z ih no) parts z
def cZ (z:List Value) (parts:List (Nat×Nat×OD)):DP:=fun lo tm=>jO parts lo tm z (fun l=>some (.agg ⟨l⟩)) none
def dK (e:TypeId) (n:Nat) (z:List Value) (parts:List (Nat×Nat×OD)):DO:=fun _ lo tm h=>jO parts lo tm z (fun l=>gT h e l (len l) true fun b h=>.val (cB b 0 n n) h) .none
def aDc (v:Value):PR:=kO v (fun b o=>.read b fun ob=>tF ob (fun c n _ _ _=>bif Nat.blt o n then c.get (path o) else none) none) .none
def aDd (m:Nat) (v:Value):PR:=kO v (fun b o=>.read b fun ob=>tF ob (fun c n _ _ _=>bif Nat.ble (Nat.add o m) n then eC (cR c o m []) (fun l=>some (.agg ⟨l⟩)) none else none) none) .none
def aI (a:OD):DR:=fun lo tm=>aDc (bW a lo tm)
def bO (m:Nat) (a:OD):DR:=fun lo tm=>aDd m (bW a lo tm)
def cD (a x:OD):DO:=fun _ lo tm h=>kO (bW a lo tm) (fun b o=>jR h b o [bW x lo tm] (fun h=>.val undef h) .none) .none
def bL (n:Nat) (a x:OD):DO:=fun _ lo tm h=>kO (bW a lo tm) (fun b o=>uX (bW x lo tm) (fun l=>bif Nat.beq (len l) n then jR h b o l (fun h=>.val undef h) .none else .none) .none) .none
def Qu (v:Value):Option Value:=match v with
 | .pointer a=>Option.rec (motive:=fun _=>Option Value) none (fun a=>some (.pointer (some a))) a
 | .func g a c=>(match g with | .func f=>some (.func (.func f) a c) | _=>none)
 | _=>none
def bI (x:OD):DP:=fun lo tm=>Qu (bW x lo tm)
def aE (g:G) (x y:OD):DP:=fun lo tm=>jQ (bW x lo tm) (fun kd a=>jQ (bW y lo tm) (fun kd' b=>bif kEq kd kd' then g kd a b else none) none) none
def pV (g:G) (x y:OD):DP:=fun lo tm=>jQ (bW x lo tm) (fun kd a=>jQ (bW y lo tm) (fun _ b=>g kd a b) none) none
def uY (op:BinOp) (x y:OD):DP:=fun lo tm=>pT (bW x lo tm) (fun a=>pT (bW y lo tm) (fun b=>xF op (bl a) (bl b)) none) none
def pG (a b:Bool):Bool:=Bool.rec (motive:=fun _=>Bool) (Bool.rec (motive:=fun _=>Bool) true false b) b a
def sF (neg:Bool) (x y:OD):DP:=fun lo tm=>kZ (bW x lo tm) (fun a=>kZ (bW y lo tm) (fun b=>gB (pG neg (!pG a b))) none) none
def Uq (ls:List (Nat×Nat)) (neg:Bool) (x y:OD):DP:=fun lo tm=>uX (bW x lo tm) (fun a=>uX (bW y lo tm) (fun b=>eC (jF ls a b) (fun t=>gB (pG neg (!t))) none) none) none
def aRj (v:Value):Option Bool:=match v with|.pointer a=>Option.rec (motive:=fun _=>Option Bool) (some true) (fun _=>some false) a|_=>none
def aAG (v:Value):Option Bool:=match v with|.slice a _ _=>Option.rec (motive:=fun _=>Option Bool) (some true) (fun _=>some false) a|_=>none
def aRk (v:Value):Option Bool:=match v with|.map a=>Option.rec (motive:=fun _=>Option Bool) (some true) (fun _=>some false) a|_=>none
def aRl (v:Value):Option Bool:=match v with|.nilFunc=>some true|.func ..=>some false|_=>none
def aAH (v:Value):Option Bool:=match v with|.nilIface=>some true|.iface ..=>some false|_=>none
def jT (isn:Value→Option Bool) (neg:Bool) (x:OD):DP:=fun lo tm=>eC (isn (bW x lo tm)) (fun t=>gB (pG neg (!t))) none
def eqP (x y:Value):Option Bool:=match x with
 | .pointer a=>(match y with
  | .pointer b=>Option.rec (motive:=fun _=>Option Bool) (Option.rec (motive:=fun _=>Option Bool) (some true) (fun _=>some false) b)
   (fun a=>Option.rec (motive:=fun _=>Option Bool) (some false) (fun b=>bif Nat.beq a.block b.block then some (Nat.beq a.off b.off) else none) b) a
  | _=>none)
 | _=>none
def aHx (neg:Bool) (x y:OD):DP:=fun lo tm=>eC (eqP (bW x lo tm) (bW y lo tm)) (fun t=>gB (pG neg (!t))) none
def aUp (v:Value):PR:=match v with
 | .pointer a=>Option.rec (motive:=fun _=>PR) (.val (.pointer none)) (fun a=>.read a.block fun ob=>tF ob (fun _ n _ _ _=>bif Nat.blt a.off n then some (bE a.block a.off) else none) none) a
 | _=>.none
def aUq (u s:Nat) (v:Value):PR:=match v with
 | .pointer a=>Option.rec (motive:=fun _=>PR) (.val (.pointer none)) (fun a=>.read a.block fun ob=>tF ob (fun _ n e cl _=>bif cl && Nat.beq e u && Nat.blt a.off n && Nat.beq (Nat.mod a.off s) 0 && Nat.ble (Nat.add a.off s) n then some (bE a.block a.off) else none) none) a
 | _=>.none
def aHy (x:OD):DR:=fun lo tm=>aUp (bW x lo tm)
def aHz (u s:Nat) (x:OD):DR:=fun lo tm=>aUq u s (bW x lo tm)
def eqI (sc:TypeId→Nat) (x y:Value):Option Bool:=lA x
 (fun u v=>lA y (fun u' w=>bif Nat.beq u u' then (rZ (sc u) v w) else some false) (some false) none)
 (lA y (fun _ _=>some false) none none) none
def aHA (sc:TypeId→Nat) (neg:Bool) (x y:OD):DP:=fun lo tm=>eC (eqI sc (bW x lo tm) (bW y lo tm)) (fun t=>gB (pG neg (!t))) none
def mO (x:OD):DP:=fun lo tm=>kZ (bW x lo tm) (fun b=>gB (!b)) none
def aEW (x:OD):DP:=fun lo tm=>jQ (bW x lo tm) (fun kd a=>nU kd (aR kd (-a))) none
def Ju (k:IntKind):Bool:=match k with|.i8|.i16|.i32|.i64=>true|_=>false
def aNy (x:OD):DP:=fun lo tm=>jQ (bW x lo tm) (fun kd a=>bif Ju kd then none else qV a (fun a=>bif Nat.blt a (iE kd) then jS kd (Nat.sub (Nat.sub (iE kd) 1) a) else none) none) none
def xG (b:UInt8):Value:=.int .u8 (.ofNat b.toNat)
def Jv (l:List UInt8):List Value:=List.rec (motive:=fun _=>List Value) [] (fun b _ ih=>xG b::ih) l
def bytesOf (l:List Value):Option (List UInt8) :=
 List.rec (motive:=fun _=>Option (List UInt8)) (some []) (fun v _ ih=>jQ v (fun kd x=>bif Nat.beq (kN kd) 4 then qV x (fun n=>bif Nat.blt n 256 then eC ih (fun r=>some (UInt8.ofNat n::r)) none else none) none else none) none) l
def kR (ob:dY) (o n:Nat):Option (List Value):=tF ob (fun c m _ _ _=>bif Nat.ble (Nat.add o n) m then cR c o n [] else none) none
def cellsOf (h:Hp) (b o n:Nat):Option (List Value):=eC (h.bl.get (path b)) (fun ob=>kR ob o n) none
def eA (kd:IntKind) (x:OD):DP:=fun lo tm=>jQ (bW x lo tm) (fun _ a=>nU kd (aR kd a)) none
def zH (e:TypeId) (x:OD):DO:=fun _ lo tm h=>pT (bW x lo tm) (fun s=>bN (len (bl s)) fun n=>bif Nat.blt n eY then gT h e (Jv (bl s)) n false fun b h=>bN (cM 1 n) fun c=>.val (cB b 0 n c) h else .none) .none
def aAI (o:Option Value):PR:=eC o PR.val .none
def aAJ (v:Value) (k:List UInt8→Option Value):PR:=match v with
 | .string s=>aAI (k (bl s))
 | .slice a l _=>bif Nat.beq l 0 then aAI (k []) else Option.rec (motive:=fun _=>PR) .none (fun a=>.read a.block fun ob=>eC (kR ob a.off l) (fun cs=>eC (bytesOf cs) k none) none) a
 | _=>.none
def pF (v:Value):PR:=match v with
 | .slice a l _=>Option.rec (motive:=fun _=>PR) (.val (.string (jM []))) (fun a=>bif Nat.beq l 0 then .val (.string (jM [])) else .read a.block fun ob=>eC (kR ob a.off l) (fun cs=>eC (bytesOf cs) Ad none) none) a
 | _=>.none
def mI (x:OD):DR:=fun lo tm=>pF (bW x lo tm)
def Cw (x:OD):DP:=fun lo tm=>pT (bW x lo tm) (fun s=>some (.string s)) none
def As (t:TypeId) (x:OD):DP:=fun lo tm=>some (.iface t (bW x lo tm))
def Ur (g:FuncId) (first cap:List OD):DP:=fun lo tm=>some (.func (.func g) ⟨Co first lo tm⟩ ⟨Co cap lo tm⟩)
def dU (n:Nat) (z:List Value):List Value:=Nat.rec (motive:=fun _=>List Value) [] (fun _ ih=>z++ih) n
def lP {R:Type} (v:Value) (k:Nat→R) (z:R):R:=jQ v (fun _ i=>qV i k z) z
def At (e:TypeId) (z:List Value) (bytes:Nat) (n c:OD):DO:=fun _ lo tm h=>lP (bW n lo tm) (fun n=>lP (bW c lo tm) (fun c =>
 bif Nat.ble n c then bif Nat.ble (Nat.mul bytes c) 16777216 then bif Nat.ble c 16777216 then gT h e (dU c z) (len (dU c z)) true fun b h=>bN n fun n=>bN c fun c=>.val (cB b 0 n c) h else .none else .none else .none) .none) .none
def gQ {R:Type} (o:Option OD) (lo:List Value) (tm:T Value) (dflt top_:Nat) (k:Nat→R) (z:R):R :=
 Option.rec (motive:=fun _=>R) (k dflt) (fun x=>lP (bW x lo tm) (fun i=>bif Nat.ble i top_ then bN i k else z) z) o
def xV (b o s lw hi m:Nat):Option Value:=bN (Nat.add o (Nat.mul lw s)) fun o=>bN (Nat.sub hi lw) fun l=>bN (Nat.sub m lw) fun c=>some (cB b o l c)
def qW (b o s lw hi m:Nat):Option Value:=bif Nat.beq lw m then some (cB b o 0 0) else xV b o s lw hi m
def Qv (b o s lw hi c:Nat):Option Value:=bif Nat.beq lw 0 then some (cB b o hi c) else bif Nat.beq (esz c) (Nat.succ s) then (bif Nat.blt lw (sure c) then xV b o s lw hi c else bN (Nat.sub c (sure c)) fun c=>some (cB b o 0 c)) else none
def slice3 (s:Nat) (lo' hi:Option OD) (lo:List Value) (tm:T Value) (b o l c:Nat):Option Value :=
 gQ hi lo tm l (sure c) (fun hi=>gQ lo' lo tm 0 hi (fun lw=>bif eU c then Qv b o s lw hi c else qW b o s lw hi c) none) none
def qX (s:Nat) (lo' hi:Option OD) (mx:OD) (lo:List Value) (tm:T Value) (b o c:Nat):Option Value :=
 bif eU c && Nat.beq (sure c) 0 then none else gQ (some mx) lo tm 0 (sure c) (fun m=>Option.rec (motive:=fun _=>Option Value) none (fun hi=>gQ (some hi) lo tm 0 m (fun hi=>gQ lo' lo tm 0 hi (fun lw=>qW b o s lw hi m) none) none) hi) none
def qY (s:Nat) (x:OD) (lo' hi mx:Option OD):DP:=fun lo tm=>rW (bW x lo tm)
 (fun b o l c=>Option.rec (motive:=fun _=>Option Value) (slice3 s lo' hi lo tm b o l c) (fun m=>qX s lo' hi m lo tm b o c) mx)
 (fun l c=>bif Nat.beq l 0 then bif Nat.beq c 0 then Option.rec (motive:=fun _=>Option Value) (gQ hi lo tm 0 0 (fun _=>gQ lo' lo tm 0 0 (fun _=>some (.slice none 0 0)) none) none) (fun _=>none) mx else none else none) none
def Pc {α:Type} (n:Nat) (l:List α):List α:=Nat.rec (motive:=fun _=>List α→List α) (fun l=>l) (fun _ ih l=>List.rec (motive:=fun _=>List α) [] (fun _ r _=>ih r) l) n l
def xW {α:Type} (n:Nat) (l:List α):List α:=Nat.rec (motive:=fun _=>List α→List α) (fun _=>[]) (fun _ ih l=>List.rec (motive:=fun _=>List α) [] (fun x r _=>x::ih r) l) n l
def xX (x:OD) (lo' hi:Option OD):DP:=fun lo tm=>pT (bW x lo tm) (fun s=>gQ hi lo tm (len (bl s)) (len (bl s)) (fun hi=>gQ lo' lo tm 0 hi (fun lw=>Ad (xW (Nat.sub hi lw) (Pc lw (bl s)))) none) none) none
def Fg (n s:Nat) (x:OD) (lo' hi mx:Option OD):DP:=fun lo tm=>kO (bW x lo tm) (fun b o=>Option.rec (motive:=fun _=>Option Value)
 (gQ hi lo tm n n (fun hi=>gQ lo' lo tm 0 hi (fun lw=>qW b o s lw hi n) none) none) (fun _=>none) mx) none
def aO (off:Nat) (x:OD):DP:=fun lo tm=>kO (bW x lo tm) (fun b o=>bN (Nat.add o off) fun o=>some (bE b o)) none
def xH (off:Nat) (l:List Value):Option Value:=bif Nat.blt off (len l) then some (nth l off) else none
def Jw (off n:Nat) (l:List Value):Option Value:=bif Nat.ble (Nat.add off n) (len l) then some (.agg ⟨xW n (Pc off l)⟩) else none
def aDe (off:Nat) (x:OD):DP:=fun lo tm=>uX (bW x lo tm) (xH off) none
def aDf (off n:Nat) (x:OD):DP:=fun lo tm=>uX (bW x lo tm) (Jw off n) none
def eQ (n s:Nat) (x i:OD):DP:=fun lo tm=>lP (bW i lo tm) (fun i=>kO (bW x lo tm) (fun b o=>bif Nat.blt i n then bN (Nat.add o (Nat.mul i s)) fun o=>some (bE b o) else none) none) none
def dZ (s:Nat) (x i:OD):DP:=fun lo tm=>lP (bW i lo tm) (fun i=>rW (bW x lo tm) (fun b o l _=>bif Nat.blt i l then bN (Nat.add o (Nat.mul i s)) fun o=>some (bE b o) else none) (fun _ _=>none) none) none
def aHB (n:Nat) (x i:OD):DP:=fun lo tm=>lP (bW i lo tm) (fun i=>uX (bW x lo tm) (fun l=>bif Nat.blt i n then xH i l else none) none) none
def aNz (n s:Nat) (x i:OD):DP:=fun lo tm=>lP (bW i lo tm) (fun i=>uX (bW x lo tm) (fun l=>bif Nat.blt i n then Jw (Nat.mul i s) s l else none) none) none
def Jx (l:List UInt8) (i:Nat):Option UInt8:=List.rec (motive:=fun _=>Nat→Option UInt8) (fun _=>none) (fun v _ ih i=>Nat.rec (motive:=fun _=>Option UInt8) (some v) (fun j _=>ih j) i) l i
def xY (x i:OD):DP:=fun lo tm=>lP (bW i lo tm) (fun i=>pT (bW x lo tm) (fun s=>eC (Jx (bl s) i) (fun b=>jS .u8 b.toNat) none) none) none
def aNA (x:OD):DO:=fun _ lo tm h=>pT (bW x lo tm) (fun s=>h.Ff (.iter s 0) fun b h=>.val (bE b 0) h) .none
def Us {R:Type} (h:Hp) (b:Nat) (k:ByteArray→Nat→R) (z:R):R:=eC (h.bl.get (path b)) (fun o=>dY.rec (motive:=fun _=>R) (fun _ _ _ _ _=>z) k (fun _=>z) o) z
def aNB (x:OD):DO:=fun _ lo tm h=>kO (bW x lo tm) (fun b o=>bif Nat.beq o 0 then Us h b (fun s pos =>
 bif Nat.blt pos (len (bl s)) then eC (Jx (bl s) pos) (fun c=>bif Nat.blt c.toNat 128 then bN (Nat.succ pos) fun q=>h.nT b (some (.iter s q)) fun h=>.val (.tuple #[.bool true,.int .i64 (.ofNat pos),.int .i32 (.ofNat c.toNat)]) h else .none) .none
 else .val (.tuple #[.bool false]) h) .none else .none) .none
def Jy {R:Type} (v:Value) (k:Nat→R) (kn:R) (z:R):R:=match v with
 | .map a=>Option.rec (motive:=fun _=>R) kn k a
 | _=>z
def Il {R:Type} (o:dY) (k:List (Value×Value)→R) (z:R):R:=dY.rec (motive:=fun _=>R) (fun _ _ _ _ _=>z) (fun _ _=>z) k o
def p9 {R:Type} (tag:Nat) (k:Value) (es:List (Value×Value)) (y:Value→R) (n z:R):R :=
 List.rec (motive:=fun _=>R) n (fun e _ ih=>eC (rZ tag k e.1) (fun t=>Bool.rec (motive:=fun _=>R) ih (y e.2) t) z) es
def xL (tag:Nat) (k v:Value) (es:List (Value×Value)):Option (List (Value×Value)) :=
 List.rec (motive:=fun _=>Option (List (Value×Value))) (some [(k,v)]) (fun e r ih=>eC (rZ tag k e.1) (fun t=>Bool.rec (motive:=fun _=>Option (List (Value×Value))) (eC ih (fun l=>some (e::l)) none) (some ((e.1,v)::r)) t) none) es
def pH (ok:Bool) (v:Value) (b:Bool):Option Value:=Bool.rec (motive:=fun _=>Option Value) (some v) (some (.tuple ⟨[v,.bool b]⟩)) ok
def aEX:DO:=fun _ _ _ h=>h.Ff (.mp []) fun b h=>.val (.map (some b)) h
def aHC (x:OD):DO:=fun _ lo tm h=>jQ (bW x lo tm) (fun _ _=>h.Ff (.mp []) fun b h=>.val (.map (some b)) h) .none
def Jz (tag:Nat) (z:Value) (ok:Bool) (x k:OD):DR:=fun lo tm=>Jy (bW x lo tm)
 (fun b=>.read b fun ob=>Il ob (fun es=>p9 tag (bW k lo tm) es (fun v=>pH ok v true) (pH ok z false) none) none) (aAI (pH ok z false)) .none
def sH (tag:Nat) (m k v:OD):DO:=fun _ lo tm h=>Jy (bW m lo tm) (fun b=>eC (h.bl.get (path b)) (fun ob=>Il ob (fun es =>
 bif Nat.beq (Ac (bW k lo tm)) tag then eC (xL tag (bW k lo tm) (bW v lo tm) es) (fun es=>h.nT b (some (.mp es)) fun h=>.val undef h) .none else .none) .none) .none) .none .none
def aDg (x:OD):DR:=fun lo tm=>Jy (bW x lo tm) (fun b=>.read b fun ob=>Il ob (fun es=>jS .i64 (len es)) none) (.val (.int .i64 (.ofNat 0))) .none
def asc (tb:List (Nat×Nat)) (t:Nat):Option Nat:=List.rec (motive:=fun _=>Option Nat) none (fun e _ ih=>bif Nat.beq e.1 t then some e.2 else ih) tb
def Ka (tb:List (Nat×Nat)) (r:OD) (l:List OD):DO:=fun call lo tm h=>lA (bW r lo tm) (fun t v=>eC (asc tb t) (fun g=>call g (v::Co l lo tm) h) .none) .none .none
def tAs (t:TypeId) (ok:Bool) (z:Value) (v:Value):Option Value:=lA v
 (fun u v=>bif Nat.beq u t then (Bool.rec (motive:=fun _=>Option Value) (some v) (some (.tuple ⟨[v,.bool true]⟩)) ok) else Bool.rec (motive:=fun _=>Option Value) none (some (.tuple ⟨[z,.bool false]⟩)) ok)
 (Bool.rec (motive:=fun _=>Option Value) none (some (.tuple ⟨[z,.bool false]⟩)) ok) none
def aEY (t:TypeId) (ok:Bool) (z:Value) (x:OD):DP:=fun lo tm=>tAs t ok z (bW x lo tm)
def dS (i:Nat) (x:OD):DP:=fun lo tm=>aHs (bW x lo tm) (xH i) none
def aW (g:FuncId) (l:List OD):DO:=fun call lo tm h=>call g (Co l lo tm) h
def xZ (f:OD) (l:List OD):DO:=fun call lo tm h=>vFn (bW f lo tm) (fun g first cap=>call g (first++(Co l lo tm++cap)) h) .none
def cW (x:OD):DP:=fun lo tm=>rW (bW x lo tm) (fun _ _ l _=>jS .i64 l) (fun l _=>jS .i64 l) none
def Kb (x:OD):DP:=fun lo tm=>pT (bW x lo tm) (fun s=>jS .i64 (len (bl s))) none
def aDh (n:Nat):DP:=fun _ _=>some (.int .i64 (.ofNat n))
def aNC (x:OD):DP:=fun lo tm=>rW (bW x lo tm) (fun _ _ _ c=>bif eU c then none else jS .i64 c) (fun _ c=>jS .i64 c) none
def Ut {R:Type} (h:Hp) (s:Nat) (v:Value) (k:Nat→List Value→R) (z:R):R:=match v with
 | .slice a l _=>bif Nat.beq l 0 then k 0 [] else Option.rec (motive:=fun _=>R) z (fun a=>eC (cellsOf h a.block a.off (Nat.mul l s)) (k l) z) a
 | .string str=>bif Nat.beq s 1 then k (len (bl str)) (Jv (bl str)) else z
 | _=>z
def opened (e:TypeId) (s:Nat) (l:List Value) (n:Nat) (h:Hp):fV:=gT h e l (len l) false fun b h=>bN (cM s n) fun c=>.val (cB b 0 n c) h
def oM (e:TypeId) (s:Nat) (h:Hp) (n:Nat) (new:List Value) (b o l c:Nat):fV :=
 bN (Nat.add l n) fun need=>bif Nat.ble need (sure c) then
     (bif Nat.beq n 0 then .val (cB b o l c) h else jR h b (Nat.add o (Nat.mul l s)) new (fun h=>.val (cB b o need c) h) .none)
  else bif Nat.ble need 16777216 then (bif Nat.beq l 0 then
   (bif eU c then .none else opened e s new need h)
   else eC (cellsOf h b o (Nat.mul l s)) (fun dL=>bif eU c then
    pU h b (fun _ _ e' _ ro=>bif ro then .none else bif Nat.beq e e' && Nat.beq (esz c) (Nat.succ s) && bY new then h.nT b none fun h=>opened e s (dL++new) need h else .none) .none
    else opened e s (dL++new) need h) .none) else .none
def tH (e:TypeId) (s:Nat) (h:Hp) (n:Nat) (new:List Value) (l c:Nat):fV:=bif Nat.beq l 0 then bif Nat.beq c 0 then (bif Nat.beq n 0 then .val (.slice none 0 0) h else bif Nat.ble n 16777216 then opened e s new n h else .none) else .none else .none
def aDi (e:TypeId) (s:Nat) (z:List Value) (x y:OD):DO:=fun _ lo tm h=>lP (bW y lo tm) (fun n=>bif Nat.ble n 16777216 then rW (bW x lo tm) (oM e s h n (dU n z)) (tH e s h n (dU n z)) .none else .none) .none
def iN (e:TypeId) (s:Nat) (x y:OD):DO:=fun _ lo tm h=>Ut h s (bW y lo tm) (fun n new=>rW (bW x lo tm) (oM e s h n new) (tH e s h n new) .none) .none
def Oa (o:Option Value) (h:Hp):fV:=eC o (fun v=>.val v h) .none
def aND (s:Nat) (x y:OD):DO:=fun _ lo tm h=>Ut h s (bW y lo tm) (fun n new=>rW (bW x lo tm)
 (fun b o l _=>bN (xU n l) fun m=>bif Nat.beq m 0 then Oa (jS .i64 0) h else jR h b o (xW (Nat.mul m s) new) (fun h=>Oa (jS .i64 m) h) .none) (fun l _=>bif Nat.beq l 0 then Oa (jS .i64 0) h else .none) .none) .none
def aEZ (mx:Bool) (l:List Value) (kd:IntKind) (acc:Int):Option Value:=List.rec (motive:=fun _=>Int→Option Value) (fun a=>nU kd a) (fun v _ ih a=>jQ v (fun _ b=>ih (bif (Bool.rec (motive:=fun _=>Bool) (uB b a) (uB a b) mx) then b else a)) none) l acc
def Hm (mx:Bool) (l:List OD):DP:=fun lo tm=>List.rec (motive:=fun _=>Option Value) none (fun v r _=>jQ v (fun kd a=>aEZ mx r kd a) none) (Co l lo tm)
def aDj (e:TypeId) (x n:OD):DO:=fun _ lo tm h=>lP (bW n lo tm) (fun n=>bif Nat.beq n 0 || Nat.blt 16777216 n then .none else kO (bW x lo tm) (fun b o =>
 pU h b (fun c m e' cl _=>bif Nat.beq e e' then bif Nat.ble (Nat.add o n) m then eC (cR c o n []) (fun cs=>eC (bytesOf cs) (fun bs=>h.nT b (some (.row c m e' cl true)) fun h=>Oa (Ad bs) h) .none) .none else .none else .none) .none) .none) .none
def Qw (x:OD):DP:=fun lo tm=>rW (bW x lo tm) (fun b o l c=>bif Nat.beq l 0 then none else bif Nat.beq c 0 then none else some (bE b o)) (fun _ _=>some (.pointer none)) none
def aDk (e:TypeId) (n:OD):DO:=fun _ lo tm h=>jQ (bW n lo tm) (fun kd n=>bif Nat.beq (kN kd) 3 then qV n (fun n=>bif Nat.ble n 16777216 then h.Ff (.row .nil n e false false) fun b h=>bN n fun n=>bN (cM 1 n) fun c=>.val (cB b 0 n c) h else .none) .none else .none) .none
def Ai {R:Type} (v:Value) (k:Nat→R) (z:R):R:=jQ v (fun kd c=>bif Nat.beq (kN kd) 4 then qV c (fun c=>bif Nat.blt c 256 then k c else z) z else z) z
def aE0 (c:Nat) (l:List UInt8) (a:Nat):Nat:=List.rec (motive:=fun _=>Nat→Nat) (fun a=>a) (fun b _ ih a=>bif Nat.beq b.toNat c then bN (Nat.succ a) ih else ih a) l a
def aRm (x c:OD):DR:=fun lo tm=>aAJ (bW x lo tm) (fun l=>Ai (bW c lo tm) (fun c=>jS .i64 (aE0 c l 0)) none)
def Pd (c:Nat) (l:List UInt8) (i:Nat):Int:=List.rec (motive:=fun _=>Nat→Int) (fun _=>.negSucc 0) (fun b _ ih i=>bif Nat.beq b.toNat c then .ofNat i else bN (Nat.succ i) ih) l i
def aRn (x c:OD):DR:=fun lo tm=>aAJ (bW x lo tm) (fun l=>Ai (bW c lo tm) (fun c=>nU .i64 (Pd c l 0)) none)
def aAK (x y:List UInt8):Int:=List.rec (motive:=fun _=>List UInt8→Int) (fun y=>List.rec (motive:=fun _=>Int) (.ofNat 0) (fun _ _ _=>.negSucc 0) y) (fun a _ ih y=>List.rec (motive:=fun _=>Int) (.ofNat 1) (fun b r _=>bif Nat.blt a.toNat b.toNat then .negSucc 0 else bif bEq a b then ih r else .ofNat 1) y) x y
def aDl (x y:OD):DP:=fun lo tm=>pT (bW x lo tm) (fun a=>pT (bW y lo tm) (fun b=>nU .i64 (aAK (bl a) (bl b))) none) none
def Qx (x:OD):DO:=fun _ lo tm h=>lA (bW x lo tm) (fun t v=>.panic [{ v:=.iface t v,recovered:=false }] h) .none .none
def bad:CO:=.p fun _ _=>none
variable (P:Program)
def sz (t:TypeId):Nat:=P.cellsOf t
def eR (t:TypeId):Bool:=match P.underlying t with|some (.struct _)|some (.array ..)=>true|_=>false
def pI (t:TypeId):Option (List Value):=match P.info? t with
 | some ti=>(match ti.zero with
  | some v=>bif (gL v).all gG && Nat.beq (len (gL v)) ti.size then some (gL v) else none
  | none=>none)
 | none=>none
def Hn (l:List (Option (List (Nat×Nat)))):Option (List (Nat×Nat)):=List.rec (motive:=fun _=>Option (List (Nat×Nat))) (some []) (fun x _ ih=>eC x (fun a=>eC ih (fun b=>some (a++b)) none) none) l
def eE (t:TypeId):Nat:=match P.underlying t with
 | some .bool=>1 | some (.int _)=>2 | some .string=>3 | _=>4
def leaves:Nat→TypeId→Nat→Option (List (Nat×Nat))
 | 0,_,_=>none
 | d+1,t,off=>match P.underlying t with
  | some (.struct fs)=>bif P.stoodInHeld t then none else Hn (fs.toList.map fun f=>bif f.name != "_" && Nat.ble (f.offset+sz P f.type) (sz P t) then leaves d f.type (off+f.offset) else none)
  | some (.array n e)=>bif Nat.blt 0 n && Nat.ble (n*sz P e) (sz P t) then Hn ((List.range' 0 n).map fun i=>leaves d e (off+i*sz P e)) else none
  | _=>bif Nat.beq (sz P t) 1 && Nat.blt (eE P t) 4 then some [(off,eE P t)] else none
def qZ (gs:List Nat) (ds:List (Option Tmp)) (place:Nat→Option (Nat×Nat)):List (Nat×Operand)→Option (List (Nat×Nat×OD))
 | []=>some []
 | (i,x)::r=>match place i,qZ gs ds place r with
  | some (o,n),some l=>some ((o,n,aU gs ds x)::l)
  | _,_=>none
structure Cx where
 gs:List Nat
 xs:List (Nat×Nat)
 ms:List (String×Nat×Nat)
def Uu (ms:List (String×Nat×Nat)) (n:String):List (Nat×Nat):=match ms with|[]=>[]|e::r=>bif e.1 == n then e.2::Uu r n else Uu r n
def xk (xs:List (Nat×Nat)) (g:Nat):Option Nat:=match xs with|[]=>none|p::r=>bif Nat.beq p.1 g then some p.2 else xk r g
def aHD (k:Nat) (fn:Func) (a:List OD):CO:=match a with
 | [x]=>bif Nat.beq k 0 then .p (aC x) else bif Nat.beq k 1 then (match (fn.resultTypes[0]?).bind P.underlying with | some (.slice e)=>bif Nat.beq (sz P e) 1 then .g (aDk e x) else bad | _=>bad) else bad
 | [x,y]=>bif Nat.beq k 2 then .r (aRm x y) else bif Nat.beq k 3 then .r (aRn x y) else bif Nat.beq k 4 then .p (aDl x y) else bad
 | _=>bad
def Qy (cx:Cx) (ds:List (Option Tmp)) (fn:Func) (args:List Operand) (g:FuncId):CO:=match xk cx.xs g with
 | some k=>aHD P k fn (args.map (aU cx.gs ds))
 | none=>bif fn.body.isSome && !(fn.name == "runtime.NumGoroutine") then .g (aW g (args.map (aU cx.gs ds))) else bad
def aHE (op:BinOp) (x y:OD):CO:=match op with
 | .add=>.p (aE dW x y) | .sub=>.p (aE gP x y) | .mul=>.p (aE iU x y) | .and=>.p (aE (nn Nat.land) x y) | .or=>.p (aE (nn Nat.lor) x y) | .xor=>.p (aE (nn Nat.xor) x y)
 | .andNot=>.p (aE Iu x y) | .shl=>.p (pV aHv x y) | .shr=>.p (pV Jt x y) | .eql=>.p (aE kX x y) | .neq=>.p (aE Ar x y) | .lss=>.p (aE oL x y)
 | .leq=>.p (aE gLe x y) | .gtr=>.p (aE Oc x y) | .geq=>.p (aE gGe x y) | .quo=>.p (aE pE x y) | .rem=>.p (aE iZ x y)
def scT (t:TypeId):Nat:=match P.info? t with
 | some i=>bif i.comparable then eE P t else 4
 | none=>4
def aAL (t:TypeId):Bool:=Nat.blt (eE P t) 4
def isK (t:TypeId):Bool:=(P.underlying t).isSome
def aNE (t:TypeId):Bool:=match P.underlying t with|some (.pointer e)=>!Nat.beq (sz P e) 0|_=>false
def aHF (c:Operand→OD) (op:BinOp) (t:TypeId) (x y:Operand):CO:=match P.underlying t with
 | some (.int _)=>aHE op (c x) (c y)
 | some .string=>.p (uY op (c x) (c y))
 | some .bool=>(match op with | .eql=>.p (sF false (c x) (c y)) | .neq=>.p (sF true (c x) (c y)) | _=>bad)
 | some (.struct _) | some (.array ..)=>bif !P.eqGuardType P.depth t then (match leaves P 100 t 0 with | some ls=>(match op with | .eql=>.p (Uq ls false (c x) (c y)) | .neq=>.p (Uq ls true (c x) (c y)) | _=>bad) | none=>bad) else bad
 | some (.pointer _)=>(match op,y with
  | .eql,.const (.pointer none)=>.p (jT aRj false (c x))
  | .neq,.const (.pointer none)=>.p (jT aRj true (c x))
  | .eql,y=>bif aNE P t then .p (aHx false (c x) (c y)) else bad
  | .neq,y=>bif aNE P t then .p (aHx true (c x) (c y)) else bad
  | _,_=>bad)
 | some (.func ..)=>(match op,y with
  | .eql,.const .nilFunc=>.p (jT aRl false (c x))
  | .neq,.const .nilFunc=>.p (jT aRl true (c x))
  | _,_=>bad)
 | some (.slice _)=>(match op,y with
  | .eql,.const (.slice none 0 0)=>.p (jT aAG false (c x))
  | .neq,.const (.slice none 0 0)=>.p (jT aAG true (c x))
  | _,_=>bad)
 | some (.map ..)=>(match op,y with
  | .eql,.const (.map none)=>.p (jT aRk false (c x))
  | .neq,.const (.map none)=>.p (jT aRk true (c x))
  | _,_=>bad)
 | some (.interface _)=>(match op,y with
  | .eql,.const .nilIface=>.p (jT aAH false (c x))
  | .neq,.const .nilIface=>.p (jT aAH true (c x))
  | .eql,y=>.p (aHA (scT P) false (c x) (c y))
  | .neq,y=>.p (aHA (scT P) true (c x) (c y))
  | _,_=>bad)
 | _=>bad
def Uv (x:OD) (s d:TypeId):CO:=match P.underlying s,P.underlying d with
 | some _,some (.int k)=>.p (eA k x)
 | some .string,some (.slice e)=>(match P.underlying e with | some (.int .u8)=>.g (zH e x) | _=>bad)
 | some (.slice e),some .string=>(match P.underlying e with | some (.int .u8)=>.r (mI x) | _=>bad)
 | some .string,some .string=>.p (Cw x)
 | some (.pointer e),some .unsafePointer=>bif Nat.beq (sz P e) 0 then bad else .r (aHy x)
 | some .unsafePointer,some (.pointer e)=>bif Nat.beq (sz P e) 0 || Nat.beq e UNK then bad else .r (aHz e (sz P e) x)
 | _,_=>bad
def x7 (c:Operand→OD) (b:Builtin) (args:List Operand) (ts:List TypeId):CO:=match b,args,ts with
 | .len,[x],[t]=>(match P.underlying t with
  | some .string=>.p (Kb (c x))
  | some (.slice _)=>.p (cW (c x))
  | some (.array n _)=>.p (aDh n)
  | some (.map _ _)=>.r (aDg (c x))
  | some (.pointer a)=>(match P.underlying a with | some (.array n _)=>.p (aDh n) | _=>bad)
  | _=>bad)
 | .cap,[x],[t]=>(match P.underlying t with | some (.slice _)=>.p (aNC (c x)) | _=>bad)
 | .append,[x,y],[t,u]=>(match P.underlying t,P.underlying u with
  | some (.slice e),some (.slice _)=>bif Nat.beq (sz P e) 0 then bad else (match pI P e with | some _=>bif Nat.ble (P.bytesOf e) 8388608 then .g (iN e (sz P e) (c x) (c y)) else bad | none=>bad)
  | some (.slice e),some (.int _)=>bif Nat.beq (sz P e) 0 then bad else (match pI P e with | some z=>bif Nat.ble (P.bytesOf e) 8388608 then .g (aDi e (sz P e) z (c x) (c y)) else bad | none=>bad)
  | some (.slice e),some .string=>bif Nat.beq (sz P e) 1 then (match pI P e with | some _=>bif Nat.ble (P.bytesOf e) 8388608 then .g (iN e 1 (c x) (c y)) else bad | none=>bad) else bad
  | _,_=>bad)
 | .copy,[x,y],[t,_]=>(match P.underlying t with | some (.slice e)=>(match P.info? e with | some ti=>.g (aND ti.size (c x) (c y)) | none=>bad) | _=>bad)
 | .min,l,_=>.p (Hm false (l.map c))
 | .max,l,_=>.p (Hm true (l.map c))
 | .unsafeString,[x,n],t::_=>(match P.underlying t with | some (.pointer e)=>(match P.underlying e with | some (.int .u8)=>bif Nat.beq (sz P e) 1 && !Nat.beq e UNK then .g (aDj e (c x) (c n)) else bad | _=>bad) | _=>bad)
 | .unsafeSliceData,[x],_=>.p (Qw (c x))
 | _,_,_=>bad
def uC (cx:Cx) (ds:List (Option Tmp)) (o:Oper):CO :=
 let c:=aU cx.gs ds
 match o.op with
 | .move x | .assign x=>.p (aC (c x))
 | .pick a b d=>.p (dG (c a) (c b) (c d))
 | .alloc e=>(match pI P e with | some z=>.g (cO e z z.length) | none=>bad)
 | .box e x=>.g (eM e (c x))
 | .build t parts=>(match pI P t,P.underlying t with
  | some z,some (.struct fs)=>(match fs.toList.mapM (fun f=>(P.info? f.type).map fun i=>(f.offset,i.size)) with
   | some pl=>(match qZ cx.gs ds (fun i=>pl[i]?) parts.toList with | some l=>.p (cZ z l) | none=>bad)
   | none=>bad)
  | some z,some (.array _ e)=>(match P.info? e with
   | some ie=>(match qZ cx.gs ds (fun i=>some (i*ie.size,ie.size)) parts.toList with | some l=>.p (cZ z l) | none=>bad)
   | none=>bad)
  | _,_=>bad)
 | .buildSlice t n parts=>(match P.underlying t with
  | some (.slice e)=>(match pI P e,qZ cx.gs ds (fun i=>some (i*sz P e,sz P e)) parts.toList with
   | some z,some l=>bif Nat.ble (n*sz P e) 16777216 && Nat.ble n 16777216 then .g (dK e n (dU n z) l) else bad
   | _,_=>bad)
  | _=>bad)
 | .load t a=>bif eR P t then .r (bO (sz P t) (c a)) else bif isK P t then .r (aI (c a)) else bad
 | .store t a x=>bif eR P t then .g (bL (sz P t) (c a) (c x)) else bif isK P t && Nat.beq (sz P t) 1 then .g (cD (c a) (c x)) else bad
 | .nilCheck x=>.p (bI (c x))
 | .binOp op t x y _=>aHF P c op t x y
 | .unOp op _ x=>(match op with
  | .not=>.p (mO (c x))
  | .neg=>.p (aEW (c x))
  | .xor=>.p (aNy (c x))
  | _=>bad)
 | .convert s d x=>Uv P (c x) s d
 | .makeInterface t x=>(match P.underlying t with
  | some (.interface _)=>bad
  | some _=>.p (As t (c x))
  | none=>bad)
 | .makeFunc g first cap=>(match g with
  | .func f=>.p (Ur f (first.toList.map c) (cap.toList.map c))
  | _=>bad)
 | .makeSlice t n m=>(match P.underlying t with
  | some (.slice e)=>(match pI P e with | some z=>.g (At e z (P.bytesOf e) (c n) (c m)) | none=>bad)
  | _=>bad)
 | .slice t x l h m=>(match P.underlying t with
  | some (.slice e)=>bif isK P e then .p (qY (sz P e) (c x) (l.map c) (h.map c) (m.map c)) else bad
  | some .string=>(match m with | none=>.p (xX (c x) (l.map c) (h.map c)) | some _=>bad)
  | some (.array n e)=>bif isK P e && Nat.ble n 16777216 then .p (Fg n (sz P e) (c x) (l.map c) (h.map c) (m.map c)) else bad
  | _=>bad)
 | .fieldAddr s x i=>(match P.underlying s with
  | some (.struct fs)=>(match fs[i]? with | some f=>bif !isK P f.type || Nat.beq (sz P f.type) 0 then bad else .p (aO f.offset (c x)) | none=>bad)
  | _=>bad)
 | .field s x i=>(match P.underlying s with
  | some (.struct fs)=>(match fs[i]? with | some f=>bif eR P f.type then .p (aDf f.offset (sz P f.type) (c x)) else bif isK P f.type then .p (aDe f.offset (c x)) else bad | none=>bad)
  | _=>bad)
 | .indexAddr t x i=>(match P.underlying t with
  | some (.array n e)=>bif isK P e then .p (eQ n (sz P e) (c x) (c i)) else bad
  | some (.slice e)=>bif isK P e then .p (dZ (sz P e) (c x) (c i)) else bad
  | _=>bad)
 | .index t x i=>(match P.underlying t with
  | some (.array n e)=>bif eR P e then .p (aNz n (sz P e) (c x) (c i)) else bif isK P e && Nat.beq (sz P e) 1 then .p (aHB n (c x) (c i)) else bad
  | some .string=>.p (xY (c x) (c i))
  | _=>bad)
 | .range t x=>(match P.underlying t with
  | some .string=>.g (aNA (c x))
  | _=>bad)
 | .next x true=>.g (aNB (c x))
 | .typeAssert x _ t ok=>(match P.underlying t,(P.info? t).bind (·.zero) with
  | some (.interface _),_=>bad
  | some _,some z=>bif (gL z).all gG then .p (aEY t ok z (c x)) else bad
  | _,_=>bad)
 | .extract x i=>.p (dS i (c x))
 | .panic x=>.g (Qx (c x))
 | .call cl=>(match cl.callee with
  | .value (.func g)=>(match P.funcs[g]? with | some fn=>Qy P cx ds fn cl.args.toList g | none=>bad)
  | .value f=>.g (xZ (c f) (cl.args.toList.map c))
  | .builtin b=>x7 P c b cl.args.toList cl.argTypes.toList
  | .invoke r n=>.g (Ka (Uu cx.ms n) (c r) (cl.args.toList.map c)))
 | .makeMap t r=>(match r with
  | none=>.g aEX
  | some x=>(match P.underlying t with | some (.map _ _)=>.g (aHC (c x)) | _=>bad))
 | .lookup t x k ok=>(match P.underlying t with
  | some (.map kt et)=>(match (P.info? et).bind (·.zero) with
   | some z=>bif (gL z).all gG && aAL P kt then .r (Jz (eE P kt) z ok (c x) (c k)) else bad
   | none=>bad)
  | _=>bad)
 | .mapUpdate t m k v=>(match P.underlying t with | some (.map kt _)=>bif aAL P kt then .g (sH (eE P kt) (c m) (c k) (c v)) else bad | _=>bad)
 | .insert t m k v=>(match P.underlying t with | some (.map kt _)=>bif aAL P kt then .g (sH (eE P kt) (c m) (c k) (c v)) else bad | _=>bad)
 | _=>bad
def bit (m t:Nat):Bool:=Nat.beq (Nat.mod (Nat.div m (Nat.pow 2 t)) 2) 1
def kS (live:Nat) (t:Tmp):Bool:=bit live t
def jU (ds:List (Option Tmp)) (t:Tmp) (i:Nat):Bool:=match idx ds t with|some j=>Nat.beq i j|none=>false
def kP (live:Nat) (ds:List (Option Tmp)) (lo:List Value):List (Option Tmp)→Nat→T Value→T Value
 | [],_,tm=>tm
 | some t::r,i,tm=>bif kS live t && jU ds t i then kP live ds lo r (i+1) (T.set (path t) tm (some (nth lo i))) else kP live ds lo r (i+1) tm
 | none::r,i,tm=>kP live ds lo r (i+1) tm
abbrev Fl:=Nat×List (Option Tmp)
def Fl.go (fl:Fl) (lo:List Value) (tm:T Value):T Value:=kP fl.1 fl.2 lo fl.2 0 tm
inductive CL where
 | nil
 | flush (i:Nat) (p:List Bool) (r:CL)
 | aA (f:DP) (r:CL)
 | aN (f:DR) (r:CL)
 | aD (fl:Fl) (f:DO) (r:CL)
 | guard (fl:Fl) (g:OD) (want:Bool) (o:CO) (r:CL)
 | dfr (f:OD) (l:List OD) (r:CL)
 | bad
abbrev DL:=Call→List Value→T Value→Df→Hp→eL
def Uw (tm:T Value) (df:Df) (k:Value→Hp→eL) (r:fV):eL:=fV.rec (motive:=fun _=>eL) .none k (fun c h=>.ok (.panic c) tm df h) r
def aXW:DL:=fun _ _ tm df h=>.ok .normal tm df h
def aRp (i:Nat) (p:List Bool) (_:CL) (r:DL):DL:=fun call lo tm df h=>T.tD p tm (some (nth lo i)) fun tm=>r call lo tm df h
def aHG (f:DP) (_:CL) (r:DL):DL:=fun call lo tm df h=>eC (f lo tm) (fun v=>r call (v::lo) tm df h) .none
def prK (h:Hp) (p:PR) (k:Value→eL):eL:=PR.rec (motive:=fun _=>eL) .none k (fun b g=>eC (h.bl.get (path b)) (fun o=>eC (g o) k .none) .none) p
def aHH (f:DR) (_:CL) (r:DL):DL:=fun call lo tm df h=>prK h (f lo tm) (fun v=>r call (v::lo) tm df h)
def aHI (fl:Fl) (f:DO) (_:CL) (r:DL):DL:=fun call lo tm df h=>Uw (fl.go lo tm) df (fun v h=>r call (v::lo) tm df h) (f call lo tm h)
def lCO (fl:Fl) (o:CO) (r:DL):DL:=CO.rec (motive:=fun _=>DL) (fun f=>aHG f .nil r) (fun f=>aHH f .nil r) (fun f=>aHI fl f .nil r) o
def aRq (fl:Fl) (g:OD) (want:Bool) (o:CO) (_:CL) (r:DL):DL:=fun call lo tm df h=>iB (bW g lo tm) want (lCO fl o r call lo tm df h) (r call (undef::lo) tm df h) .none
def aXX (f:OD) (l:List OD) (_:CL) (r:DL):DL:=fun call lo tm df h=>vFn (bW f lo tm) (fun g first cap=>r call (undef::lo) tm ((g,first++(Co l lo tm++cap))::df) h) .none
def aXY:DL:=fun _ _ _ _ _=>.none
def oV (l:CL):DL:=CL.rec (motive:=fun _=>DL) aXW aRp aHG aHH aHI aRq aXX aXY l
inductive CD where
 | nil
 | flush (i:Nat) (p:List Bool) (r:CD)
 | aA (f:DP) (r:CD)
 | aN (k:Nat) (f:DR) (r:CD)
 | aD (k:Nat) (bar:Bool) (own:List (Nat×Bool)) (f:DO) (r:CD)
 | fC (g:OD) (want:Bool) (f:DP) (r:CD)
 | mS (k:Nat) (g:OD) (want:Bool) (f:DR) (r:CD)
 | uZ (k:Nat) (bar:Bool) (own:List (Nat×Bool)) (g:OD) (want:Bool) (f:DO) (r:CD)
 | bad
structure Dn where
 ns:List (Nat×Nat)
 rs:List (Nat×Nat)
 ws:List (Nat×Nat)
def owner (ns:List (Nat×Nat)) (b:Nat):Option Nat:=List.rec (motive:=fun _=>Option Nat) none (fun n _ ih=>bif Nat.ble n.1 b then some n.2 else ih) ns
def rB (own:List (Nat×Bool)) (j:Nat):Bool:=List.rec (motive:=fun _=>Bool) false (fun p _ ih=>bif Nat.beq p.1 j then p.2 else ih) own
def kT (cm:Nat→Nat→Bool) (k b:Nat) (l:List (Nat×Nat)):Bool:=List.rec (motive:=fun _=>Bool) true (fun p _ ih=>bif Nat.beq p.2 b then (bif cm p.1 k then ih else false) else ih) l
def allowed (cm:Nat→Nat→Bool) (k:Nat) (bar:Bool) (own:List (Nat×Bool)) (d:Dn) (log:List Nat):Bool :=
 List.rec (motive:=fun _=>Bool) true (fun b _ ih=>bif Option.rec (motive:=fun _=>Bool) bar (rB own) (owner d.ns b) then (bif kT cm k b d.rs then ih else false) else false) log
def wrote (k:Nat) (log:List Nat) (ws:List (Nat×Nat)):List (Nat×Nat):=List.rec (motive:=fun _=>List (Nat×Nat)) ws (fun b _ ih=>(k,b)::ih) log
abbrev DD:=(Nat→Nat→Bool)→Call→Dn→List Value→T Value→Df→Hp→eL
def below (base:Nat) (log:List Nat) (dL:List Nat):List Nat:=List.rec (motive:=fun _=>List Nat) dL (fun b _ ih=>bif Nat.blt b base then b::ih else ih) log
def aS (h:Hp) (base:Nat) (log:List Nat):Hp:=⟨h.bl,h.next,base,log⟩
def aXZ:DD:=fun _ _ _ _ tm df h=>.ok .normal tm df h
def aRr (i:Nat) (p:List Bool) (_:CD) (r:DD):DD:=fun cm call d lo tm df h=>T.tD p tm (some (nth lo i)) fun tm=>r cm call d lo tm df h
def aHJ (f:DP) (_:CD) (r:DD):DD:=fun cm call d lo tm df h=>eC (f lo tm) (fun v=>r cm call d (v::lo) tm df h) .none
def aHK (k:Nat) (f:DR) (_:CD) (r:DD):DD:=fun cm call d lo tm df h=>PR.rec (motive:=fun _=>eL) .none (fun v=>r cm call d (v::lo) tm df h)
 (fun b g=>bif kT cm k b d.ws then eC (h.bl.get (path b)) (fun o=>eC (g o) (fun v=>r cm call ⟨d.ns,(k,b)::d.rs,d.ws⟩ (v::lo) tm df h) .none) .none else .none) (f lo tm)
def aAM (k:Value→Hp→eL) (r:fV):eL:=fV.rec (motive:=fun _=>eL) .none k (fun _ _=>.none) r
def aHL (n:Nat) (bar:Bool) (own:List (Nat×Bool)) (f:DO) (_:CD) (r:DD):DD:=fun cm call d lo tm df h =>
 aAM (fun v h1=>bif allowed cm n bar own d h1.log then r cm call ⟨(h.next,n)::d.ns,d.rs,wrote n h1.log d.ws⟩ (v::lo) tm df (aS h1 h.base (below h.base h1.log h.log)) else .none) (f call lo tm (aS h h.next []))
def aAN (g:OD) (want:Bool) (x:DD) (r:DD):DD:=fun cm call d lo tm df h=>iB (bW g lo tm) want (x cm call d lo tm df h) (r cm call d (undef::lo) tm df h) .none
def aNF (g:OD) (want:Bool) (f:DP) (c:CD) (r:DD):DD:=aAN g want (aHJ f c r) r
def aNG (k:Nat) (g:OD) (want:Bool) (f:DR) (c:CD) (r:DD):DD:=aAN g want (aHK k f c r) r
def aNH (n:Nat) (bar:Bool) (own:List (Nat×Bool)) (g:OD) (want:Bool) (f:DO) (c:CD) (r:DD):DD:=aAN g want (aHL n bar own f c r) r
def aX0:DD:=fun _ _ _ _ _ _ _=>.none
def qA (l:CD):DD:=CD.rec (motive:=fun _=>DD) aXZ aRr aHJ aHK aHL aNF aNG aNH aX0 l
def mA (live:Nat) (ds:List (Option Tmp)):List (Option Tmp)→Nat→CL
 | [],_=>.nil
 | some t::r,i=>bif kS live t && jU ds t i then .flush i (path t) (mA live ds r (i+1)) else mA live ds r (i+1)
 | none::r,i=>mA live ds r (i+1)
def oF (nt:Nat) (d:Option Tmp):Bool:=match d with|some d=>Nat.blt d nt|none=>true
def Ux (fl:Fl) (o:CO) (r:CL):CL:=match o with|.p f=>.aA f r|.r f=>.aN f r|.g f=>.aD fl f r
def sA (cx:Cx) (live:Nat) (nt:Nat) (ops:Array Oper):List Oper→List (Option Tmp)→CL
 | [],ds=>mA live ds ds 0
 | o::r,ds=>bif oF nt o.dst then (match o.guard with
  | none=>(match o.op with
   | .defer cl=>(match cl.callee with
    | .value f=>.dfr (aU cx.gs ds f) (cl.args.toList.map (aU cx.gs ds)) (sA cx live nt ops r (o.dst::ds))
    | _=>.bad)
   | _=>Ux (live,ds) (uC P cx ds o) (sA cx live nt ops r (o.dst::ds)))
  | some (j,want)=>match (ops[j]?).bind (·.dst) with
   | some d=>.guard (live,ds) (aU cx.gs ds (.tmp d)) want (uC P cx ds o) (sA cx live nt ops r (o.dst::ds))
   | none=>.bad) else .bad
def lW (o:Oper):Bool:=match o.op with
 | .load .. | .move _ | .assign _ | .pick .. | .build .. | .nilCheck _ | .unOp .. | .makeInterface .. | .makeFunc .. | .fieldAddr .. | .field .. | .indexAddr .. | .index .. | .extract .. | .slice .. | .binOp ..=>false
 | .call { callee:=.builtin .len,.. }=>false
 | _=>true
def Cy (o:Oper):Bool:=match o.op with|.buildSlice ..|.box ..|.alloc _=>true|_=>false
def uD (o:Oper):Bool:=lW o && !Cy o
def Cz (an:T Nat) (i:Nat):Nat:=(an.get (path i)).getD 0
def Od (an:T Nat) (l:List Edge) (s:Nat):Nat:=match l with
 | []=>s
 | e::r=>bif Region.binds .any e then bN (Nat.lor s (Nat.lor (Nat.pow 2 e.on) (Cz an e.on))) (Od an r) else Od an r s
def xM (l:List Oper) (i:Nat) (an:T Nat):T Nat:=match l with
 | []=>an
 | o::r=>bN (Od an o.after.toList 0) fun m=>T.tD (path i) an (some m) (xM r (Nat.succ i))
def tmpsOf (l:List Operand):List Tmp:=l.filterMap fun|.tmp t=>some t|_=>none
def aHM (ops:Array Oper) (o:Oper):List Tmp:=match o.guard with|some (g,_)=>((ops[g]?).bind (·.dst)).toList|none=>[]
def looks (ops:Array Oper) (o:Oper):List Tmp:=tmpsOf o.op.operands.toList++aHM ops o
def comp (an:T Nat) (i j:Nat):Bool:=bit (Cz an j) i || bit (Cz an i) j
def Aj (w:T (List Nat)) (t:Tmp):List Nat:=(w.get (path t)).getD []
def wrs (l:List Oper) (i:Nat) (w:T (List Nat)):T (List Nat):=match l with
 | []=>w
 | o::r=>match o.dst with
  | none=>wrs r (Nat.succ i) w
  | some d=>T.tD (path d) w (some (i::Aj w d)) (wrs r (Nat.succ i))
def aAO (an:T Nat) (w:T (List Nat)) (j:Nat) (t:Tmp):Bool:=(Aj w t).all fun i=>Nat.beq i j || comp an i j
def Iv (ops:Array Oper) (an:T Nat) (w:T (List Nat)):List Oper→Nat→Bool
 | [],_=>true
 | o::r,j=>o.after.toList.all (fun e=>!Region.binds .any e || Nat.blt e.on j) && (match o.op with | .defer _ | .select ..=>false | _=>true) &&
  (o.dst.toList++looks ops o).all (aAO an w j) && Iv ops an w r (Nat.succ j)
def Qz (ops:Array Oper) (an:T Nat):Bool:=Iv ops an (wrs ops.toList 0 .nil) ops.toList 0
def Ak (an:T Nat) (k:Nat):List Oper→Nat→Bool
 | [],_=>true
 | o::r,i=>(Nat.beq i k || !uD o || comp an i k) && Ak an k r (Nat.succ i)
def aAP (an:T Nat) (j k:Nat):List Oper→Nat→Bool
 | [],_=>true
 | o::r,i=>(Nat.beq i k || !uD o || comp an i k || !(Nat.beq i j || bit (Cz an i) j)) && aAP an j k r (Nat.succ i)
def Da (ops:List Oper) (an:T Nat) (k:Nat):List (Nat×Bool):=(List.range k).map fun j=>(j,bit (Cz an k) j && aAP an j k ops 0)
def sI (live:Nat) (ds:List (Option Tmp)):List (Option Tmp)→Nat→CD
 | [],_=>.nil
 | some t::r,i=>bif kS live t && jU ds t i then .flush i (path t) (sI live ds r (i+1)) else sI live ds r (i+1)
 | none::r,i=>sI live ds r (i+1)
def aDm (ops:Array Oper) (an:T Nat) (k:Nat) (tch:Bool) (o:CO) (r:CD):CD:=match o with
 | .p f=>.aA f r
 | .r f=>.aN k f r
 | .g f=>bif tch then .aD k (Ak an k ops.toList 0) (Da ops.toList an k) f r else .bad
def Ra (ops:Array Oper) (an:T Nat) (k:Nat) (tch:Bool) (g:OD) (want:Bool) (o:CO) (r:CD):CD:=match o with
 | .p f=>.fC g want f r
 | .r f=>.mS k g want f r
 | .g f=>bif tch then .uZ k (Ak an k ops.toList 0) (Da ops.toList an k) g want f r else .bad
def iG (cx:Cx) (live:Nat) (nt:Nat) (ops:Array Oper) (an:T Nat):List Oper→Nat→List (Option Tmp)→CD
 | [],_,ds=>sI live ds ds 0
 | o::r,k,ds=>bif oF nt o.dst then (match o.guard with
  | none=>aDm ops an k (lW o) (uC P cx ds o) (iG cx live nt ops an r (k+1) (o.dst::ds))
  | some (j,want)=>match (ops[j]?).bind (·.dst) with
   | some d=>Ra ops an k (lW o) (aU cx.gs ds (.tmp d)) want (uC P cx ds o) (iG cx live nt ops an r (k+1) (o.dst::ds))
   | none=>.bad) else .bad
inductive CC where
 | skip | region (l:CL) | draw (an:T Nat) (l:CD) | seq (a b:CC) | cond (c:OD) (a b:CC) | block (id:Nat) (b:CC) | loop (b:CC) | scope (b:CC) | exit (id:Nat) | ret | bad
abbrev D:=Call→T Value→Df→Hp→eL
def mT (r:eL) (kn:T Value→Df→Hp→eL) (ke:Nat→T Value→Df→Hp→eL):eL :=
 eL.rec (motive:=fun _=>eL) .none (fun e tm df h=>Ex.rec (motive:=fun _=>eL) (kn tm df h) (fun i=>ke i tm df h) (.ok .ret tm df h) (fun c=>.ok (.panic c) tm df h) e) r
def aUs:D:=fun _ tm df h=>.ok .normal tm df h
def aX7 (l:CL):D:=fun call tm df h=>oV l call [] tm df h
def aUt (an:T Nat) (l:CD):D:=fun call tm df h=>qA l (comp an) call ⟨[],[],[]⟩ [] tm df h
def aX8 (_ _:CC) (a b:D):D:=fun call tm df h=>mT (a call tm df h) (b call) (fun i tm df h=>.ok (.exit i) tm df h)
def aUu (c:OD) (_ _:CC) (a b:D):D:=fun call tm df h=>kZ (bW c [] tm) (fun b'=>Bool.rec (motive:=fun _=>eL) (b call tm df h) (a call tm df h) b') .none
def aRs (id:Nat) (_:CC) (a:D):D:=fun call tm df h=>mT (a call tm df h) (fun tm df h=>.ok .normal tm df h) (fun i tm df h=>bif Nat.beq i id then .ok .normal tm df h else .ok (.exit i) tm df h)
def Hq (a:D) (n:Nat):D:=Nat.rec (motive:=fun _=>D) (fun _ _ _ _=>.none) (fun _ ih call tm df h=>mT (a call tm df h) (ih call) (fun i tm df h=>.ok (.exit i) tm df h)) n
def aUv (_:CC) (a:D):D:=Hq a 1000000
def aRt (_:CC) (a:D):D:=a
def aUw (id:Nat):D:=fun _ tm df h=>.ok (.exit id) tm df h
def aX9:D:=fun _ tm df h=>.ok .ret tm df h
def aYa:D:=fun _ _ _ _=>.none
def iP (c:CC):D:=CC.rec (motive:=fun _=>D) aUs aX7 aUt aX8 aUu aRs aUv aRt aUw aX9 aYa c
def aUx (m t:Nat):Nat:=Nat.lor m (Nat.pow 2 t)
def Pe (l:List Tmp) (m:Nat):Nat:=match l with|[]=>m|t::r=>bN (aUx m t) (Pe r)
def aAQ (l:List Tmp) (w m:Nat):Nat:=match l with|[]=>m|t::r=>bif bit w t then aAQ r w m else bN (aUx m t) (aAQ r w)
def Uy (ops:List Oper) (w m:Nat):Nat:=match ops with
 | []=>m
 | o::r=>bN (aAQ (tmpsOf o.op.operands.toList) w m) fun m=>bN (Pe o.dst.toList w) fun w=>Uy r w m
def reads (c:Code) (m:Nat):Nat:=match c with
 | .region _ ops _=>Uy ops.toList 0 m
 | .seq a b=>bN (reads a m) (reads b)
 | .cond c x y=>bN (Pe (tmpsOf [c]) m) fun m=>bN (reads x m) (reads y)
 | .block _ b=>reads b m
 | .loop b=>reads b m
 | .scope b=>reads b m
 | _=>m
def Rb (l:List ResultVar):List Tmp:=l.map fun|.tmp t=>t|.cell a _=>a
def kU (cx:Cx) (live:Nat) (nt:Nat):Code→CC
 | .skip=>.skip
 | .region _ ops draw=>bif draw then (bif Qz ops (xM ops.toList 0 .nil) then .draw (xM ops.toList 0 .nil) (iG P cx live nt ops (xM ops.toList 0 .nil) ops.toList 0 []) else .bad) else .region (sA P cx live nt ops ops.toList [])
 | .seq a b=>.seq (kU cx live nt a) (kU cx live nt b)
 | .cond c x y=>.cond (aU cx.gs [] c) (kU cx live nt x) (kU cx live nt y)
 | .block id b=>.block id (kU cx live nt b)
 | .loop b=>.loop (kU cx live nt b)
 | .exit id=>.exit id
 | .ret=>.ret
 | _=>.bad
inductive CR where
 | tmp (p:List Bool) | cell (agg:Bool) (n:Nat) (p:List Bool)
inductive CF where
 | mk (nt na:Nat) (b:CC) (r:List CR) | bad
def Ae (r:CR) (tm:T Value) (h:Hp):Option Value:=CR.rec (motive:=fun _=>Option Value) (fun p=>some (pS (tm.get p)))
 (fun agg m p=>kO (pS (tm.get p)) (fun b o=>pU h b (fun c n _ _ _=>Bool.rec (motive:=fun _=>Option Value) (bif Nat.blt o n then c.get (path o) else none) (bif Nat.ble (Nat.add o m) n then eC (cR c o m []) (fun l=>some (.agg ⟨l⟩)) none else none) agg) none) none) r
def aAR (l:List CR) (tm:T Value) (h:Hp):Option (List Value):=List.rec (motive:=fun _=>Option (List Value)) (some []) (fun r _ ih=>eC (Ae r tm h) (fun v=>eC ih (fun l=>some (v::l)) none) none) l
def Hr (l:List CR) (tm:T Value) (h:Hp):fV:=eC (aAR l tm h) (fun vs=>List.rec (motive:=fun _=>fV) (.val (.tuple ⟨[]⟩) h) (fun v r _=>List.rec (motive:=fun _=>fV) (.val v h) (fun _ _ _=>.val (.tuple ⟨vs⟩) h) r) vs) .none
def qE:List ResultVar→List CR
 | []=>[]
 | .tmp t::r=>.tmp (path t)::qE r
 | .cell a t::r=>.cell (eR P t) (sz P t) (path a)::qE r
def mU (live na:Nat):Bool:=(List.range na).all (bit live)
def x9 (l:List ResultVar):Bool:=l.all fun|.tmp _=>true|.cell _ t=>isK P t
def cF (cx:Cx) (f:FuncId):CF:=match P.funcs[f]? with
 | some fn=>match fn.body with
  | some c=>bif fn.name == "runtime.NumGoroutine" then .bad else bN (reads c (Pe (Rb fn.results.toList) (Nat.sub (Nat.pow 2 (fn.params.size+fn.nfree)) 1))) fun live =>
   bif mU live (fn.params.size+fn.nfree) && x9 P fn.results.toList then .mk fn.ntmps (fn.params.size+fn.nfree) (kU P cx live fn.ntmps c) (qE P fn.results.toList) else .bad
  | none=>.bad
 | none=>.bad
def Al {R:Type} (l:List Value) (i:Nat) (t:T Value) (k:T Value→R):R :=
 List.rec (motive:=fun _=>Nat→T Value→R) (fun _ t=>k t) (fun v _ ih i t=>T.tD (path i) t (some v) fun t=>ih (Nat.succ i) t) l i t
inductive Md where
 | ret | qB (c:List PanicEntry)
def aNI (c:List PanicEntry):Md:=match c with
 | e::r=>bif e.recovered then (match r.dropWhile (fun e=>!e.goexit) with | []=>.ret | l=>.qB l) else .qB (e::r)
 | []=>.qB []
inductive Fi where
 | none
 | ok (m:Md) (h:Hp)
abbrev cE:=FuncId→List Value→Md→Hp→Fi
def leave (cd:cE) (rs:List CR) (df:Df) (tm:T Value) (m:Md) (h:Hp):fV :=
 List.rec (motive:=fun _=>Md→Hp→fV) (fun m h=>Md.rec (motive:=fun _=>fV) (Hr rs tm h) (fun c=>.panic c h) m)
  (fun d _ ih m h=>Fi.rec (motive:=fun _=>fV) .none ih (cd d.1 d.2 m h)) df m h
def dD (cf:CF) (call:Call) (cd:cE) (args:List Value) (h:Hp):fV:=CF.rec (motive:=fun _=>fV)
 (fun nt na b r=>bif Nat.beq (len args) na && Nat.ble na nt then Al args 0 .nil fun tm=>eL.rec (motive:=fun _=>fV) .none (fun e tm df h=>Ex.rec (motive:=fun _=>fV) (leave cd r df tm .ret h) (fun _=>.none) (leave cd r df tm .ret h) (fun c=>leave cd r df tm (.qB c) h) e) (iP b call tm [] h) else .none) .none cf
inductive CS where
 | plain (c:CC) | Kc (d:Option (List Bool)) | seq (a b:CS) | cond (c:OD) (a b:CS)
inductive mB where
 | none
 | ok (e:Ex) (tm:T Value) (m:Md) (h:Hp)
abbrev DS:=Call→T Value→Md→Hp→mB
def Au (c:CC):DS:=fun call tm m h=>eL.rec (motive:=fun _=>mB) .none (fun e tm df h=>List.rec (motive:=fun _=>mB) (.ok e tm m h) (fun _ _ _=>.none) df) (iP c call tm [] h)
def yA (m:Md):Value×Md:=match m with
 | .qB (e::r)=>bif !e.recovered && !e.goexit then (e.v,.qB ({ v:=e.v,recovered:=true }::r)) else (.nilIface,m)
 | m=>(.nilIface,m)
def aRu (d:Option (List Bool)):DS:=fun _ tm m h=>Option.rec (motive:=fun _=>mB) (.ok .normal tm (yA m).2 h) (fun p=>T.tD p tm (some (yA m).1) fun tm=>.ok .normal tm (yA m).2 h) d
def aYb (_ _:CS) (a b:DS):DS:=fun call tm m h=>mB.rec (motive:=fun _=>mB) .none (fun e tm m h=>Ex.rec (motive:=fun _=>mB) (b call tm m h) (fun i=>.ok (.exit i) tm m h) (.ok .ret tm m h) (fun c=>.ok (.panic c) tm m h) e) (a call tm m h)
def aUy (c:OD) (_ _:CS) (a b:DS):DS:=fun call tm m h=>kZ (bW c [] tm) (fun t=>Bool.rec (motive:=fun _=>mB) (b call tm m h) (a call tm m h) t) .none
def xN (c:CS):DS:=CS.rec (motive:=fun _=>DS) Au aRu aYb aUy c
def kJ (o:Oper):Bool:=match o.op with|.call { callee:=.builtin .recover,.. }=>true|_=>false
def kC (cx:Cx) (nt:Nat) (all:Nat):List Oper→CS
 | []=>.plain .skip
 | o::r=>bif kJ o then (bif (match o.guard with | none=>oF nt o.dst | some _=>false) then .seq (.Kc (o.dst.map path)) (kC cx nt all r) else .plain .bad)
  else .seq (.plain (.region (sA P cx all nt #[o] [o] []))) (kC cx nt all r)
def cS (cx:Cx) (all:Nat) (nt:Nat):Code→CS
 | .seq a b=>.seq (cS cx all nt a) (cS cx all nt b)
 | .cond c x y=>.cond (aU cx.gs [] c) (cS cx all nt x) (cS cx all nt y)
 | .region id ops draw=>bif ops.toList.any kJ then (bif draw || ops.toList.any (fun o=>o.guard.isSome) then .plain .bad else kC P cx nt all ops.toList) else .plain (kU P cx all nt (.region id ops draw))
 | c=>.plain (kU P cx all nt c)
inductive CFD where
 | mk (nt na:Nat) (b:CS) | bad
def Uz (cx:Cx) (f:FuncId):CFD:=match P.funcs[f]? with
 | some fn=>match fn.body with
  | some c=>bif fn.results.isEmpty && !(fn.name == "runtime.NumGoroutine") && mU (Nat.sub (Nat.pow 2 fn.ntmps) 1) fn.ntmps then .mk fn.ntmps (fn.params.size+fn.nfree) (cS P cx (Nat.sub (Nat.pow 2 fn.ntmps) 1) fn.ntmps c) else .bad
  | none=>.bad
 | none=>.bad
def Iw (m:Md) (c:List PanicEntry):Md:=match m with
 | .qB dL=>.qB (c++dL)
 | .ret=>.qB c
def sJ (m:Md):Md:=match m with|.qB c=>aNI c|.ret=>.ret
def yB (cf:CFD) (call:Call) (args:List Value) (m:Md) (h:Hp):Fi:=CFD.rec (motive:=fun _=>Fi)
 (fun nt na b=>bif Nat.beq (len args) na && Nat.ble na nt then Al args 0 .nil fun tm=>mB.rec (motive:=fun _=>Fi) .none (fun e _ m h=>Ex.rec (motive:=fun _=>Fi) (.ok (sJ m) h) (fun _=>.none) (.ok (sJ m) h) (fun c=>.ok (Iw m c) h) e) (xN b call tm m h) else .none) .none cf
def Va (cx:Cx) (n:Nat):Call:=Nat.rec (motive:=fun _=>Call) (fun _ _ _=>.none) (fun _ ih f args h=>dD (cF P cx f) ih (fun g=>yB (Uz P cx g) ih) args h) n
end
end cG
end Go
