/-
A certified evaluator for calls of the program, part 01.
Conditions: none.
-/
import Derived.Orders
import Derived.Recover
import Derived.Below
import Derived.Eval
import Derived.Laws.Slices
import Derived.Laws.AppendOwn
import Derived.Laws.StructEq
import Derived.Lib.Strings
set_option linter.all false
noncomputable section
namespace Go
namespace Abs
variable {b c fo hi i j lb lw m off:Nat} {R α:Type} {w w':World} {x y:Operand} {ft t yt:TypeId} {kd:IntKind} {neg:Bool} {d:TypeDesc} {args cap first:Array Operand} {fs:Array Field} {fd:Field} {h l:Option Operand} {ats:Array TypeId} {ls:List (Nat×Nat)}
def M8:=@Nat.le_refl
def X0:=@List.getElem?_eq_getElem.{0}
def T9:=@Nat.eq_of_beq_eq_true
def U8:=@Bool.and_eq_true
def z6:=@Sem.run_bind
def Ag:=@Nat.zero_add
def BB:=@Nat.zero_le
def DX:=@Nat.lt_or_ge
def CB:=@Result.andThen_ok
def Bz:=@List.length_append.{0}
def m8:=@List.mem_cons.{0}
def s6:=@List.mem_of_getElem?.{0}
def Ad:=@List.length_replicate.{0}
def Cc:=@List.all_eq_true.{0}
def BY:=@Nat.mul_le_mul_right
def BS:=@List.nil_append.{0}
def Br:=@Nat.eq_zero_or_pos
def Bu:=@List.length_set.{0}
def Cw:=@Sem.run_pure
def Ct:=@List.mem_cons_self.{0}
def Dg:=@Nat.beq_refl
def Dh:=@List.getElem_mem.{0}
def EC:=@Nat.sub_zero
def FY:=@List.mem_map.{0,0}
def EM:=@List.mem_cons_of_mem.{0}
def EB:=@List.cons_append.{0}
def Ep:=@Nat.lt_of_lt_of_le
def Fe:=@List.getElem?_eq_some_iff.{0}
def Es:=@Nat.add_assoc
def FB:=@List.length_take.{0}
def Gj:=@List.getElem?_append_right.{0}
def Gn:=@List.length_cons.{0}
def Gt:=@List.mem_append.{0}
def Hi:=@Nat.mod_eq_of_lt
def IU:=@List.eq_nil_of_length_eq_zero.{0}
def JJ:=@Nat.le_trans
def LZ:=@List.mem_singleton.{0}
def Lg:=@List.not_mem_nil.{0}
def Mm:=@Nat.add_mul
def RY:=@Array.getElem?_eq_some_iff.{0}
def OZ:=@List.getElem?_append_left.{0}
def Rp:=@List.getElem?_map.{0,0}
def RJ:=@Bool.eq_iff_iff
def jH:=@Nat.mul_one
def Rm:=@List.take_length.{0}
def Wj:=@Nat.sub_self
def UM:=@Nat.zero_mul
def TO:=@List.take_of_length_le.{0}
def ZI:=@Nat.mod_lt
def jU:=@List.getElem?_take.{0}
def bm:=@Bool.and_true
def ZH:=@List.getElem?_replicate.{0}
def gS:=@Array.getD_eq_getD_getElem?.{0}
def ik:=@Nat.add_comm
def pR:=@List.mem_range
def iT:=@Nat.le_of_lt
def jf:=@List.length_nil.{0}
def iX:=@List.append_assoc.{0}
def rX:=@BitVec.toNat_ofNat
def lX:=@UInt8.toNat_inj
def nw:=@Array.toList_inj.{0}
def xw:=@List.ext_getElem?.{0}
def uI:=@Nat.succ_mul
def rQ:=@List.mem_append_left.{0}
def mw:=@List.drop_eq_getElem_cons.{0}
def lj:=@List.getD_eq_getElem?_getD.{0}
def qp:=@List.range_succ
def rr:=@List.append_nil.{0}
def tI:=@List.flatMap_cons.{0,0}
def zn:=@Nat.beq_eq
def yW:=@Array.toList_map.{0,0}
def A08:=@Option.map_some.{0,0}
def xP:=@List.length_map.{0,0}
def xM:=@Nat.not_lt_zero
def A0k:=@Option.isSome_iff_exists.{0}
def A5l:=@List.drop_drop.{0}
def zV:=@List.length_drop.{0}
def yr:=@List.size_toArray.{0}
def yH:=@Array.replicate_succ.{0}
def A0b:=@Array.replicate_zero.{0}
def zJ:=@List.push_toArray.{0}
def A0j:=@List.append_toArray.{0}
def zL:=@Nat.add_sub_cancel_left
def AEW:=@List.getElem?_drop.{0}
def A6s:=@Option.map_none.{0,0}
def A5y:=@Bool.false_eq_true
def AFo:=@Array.getElem?_eq_getElem.{0}
def A9i:=@Nat.add_zero
def A6r:=@Bool.or_eq_false_iff
def A7o:=@List.getElem?_set.{0}
def A83:=@Nat.exists_eq_add_of_le
def AEK:=@List.mem_filter.{0}
def A5B:=@List.mem_replicate.{0}
def A7y:=@List.map_append.{0,0}
def A7x:=@List.getElem?_eq_none.{0}
def AFa:=@Nat.div_eq_of_lt
def AEB:=@List.map_cons.{0,0}
def AEn:=@Nat.mul_le_mul
def AN5:=@Array.getElem?_toList.{0}
def AEQ:=@List.take_add_one.{0}
def A1o:=@List.getElem?_range
def A2C:=@List.mem_append_right.{0}
def A1v:=@Nat.min_eq_left
def A3o:=@List.set_cons_zero.{0}
def A3A:=@List.drop_zero.{0}
def A11:=@List.getElem?_cons_succ.{0}
def A1Y:=@Nat.and_two_pow_sub_one_eq_mod
def A1z:=@List.getElem?_of_mem.{0}
def A2I:=@Nat.mul_le_mul_left
def A1r:=@List.mem_flatMap.{0,0}
def A40:=@List.mem_of_mem_drop.{0}
def A18:=@List.getElem?_toArray.{0}
def AYI:=@DataW.trod_int
def AC9:=@Nat.le_succ_of_le
def A9G:=@Nat.lt_succ_self
def ABG:=@Nat.lt_succ_of_lt
def AAy:=@Array.toArray_toList.{0}
def ADP:=@Nat.le_of_ble_eq_true
def ABd:=@Bool.or_eq_true
def ADd:=@List.mem_nil_iff.{0}
def ABj:=@List.mem_toArray.{0}
def AA9:=@Nat.lt_trichotomy
def AKI:=@List.take_append_drop.{0}
def ADY:=@List.set_cons_succ.{0}
def AAo:=@Nat.lt_of_le_of_lt
def ABy:=@Nat.xor_lt_two_pow
def AAl:=@List.pairwise_cons.{0}
def ABr:=@List.mem_of_mem_take.{0}
def ADo:=@List.map_singleton.{0,0}
def ACw:=@Nat.div_le_self
def ABp:=@List.take_replicate.{0}
def ADI:=@List.flatten_cons.{0}
def ADg:=@List.mem_map_of_mem.{0,0}
def AYo:=@Array.getElem?_eq_none.{0}
def AYf:=@DataW.trod_struct
def ALY:=@Array.getElem?_setIfInBounds.{0}
abbrev N5(_:Nat):Prop:=False
abbrev Q0:List Bool:=[true]
abbrev Q3:List Bool:=[true,true]
abbrev Q8:List Bool:=[false,false]
abbrev T1:List Bool:=[false]
abbrev U2:List Bool:=[true,false]
abbrev V1:List Bool:=[false,true]
abbrev AL:List Bool:=[true,true,true]
abbrev Cj:List Bool:=[false,true,true]
abbrev DZ:List Bool:=[true,false,true]
abbrev MC:List Bool:=[false,false,true]
abbrev Ku:List Bool:=[true,true,false]
abbrev mR:List Bool:=[true,true,false,false]
abbrev A4F:List Bool:=[false,true,false]
abbrev AED:List Bool:=[true,false,false]
abbrev AFn:List Bool:=[false,true,false,true]
abbrev ANh:List Bool:=[false,true,false,false]
abbrev ALu:List Bool:=[false,false,true,false]
abbrev ANz:List Bool:=[true,false,true,false]
abbrev A0:=Value
variable {v v':A0} {l' lo:List A0} {cs cs':Array A0}
theorem L0{a b:Prop}(x:a)(y:b):a∧b:=⟨x,y⟩
section
inductive T (α:Type) where
 | nil
 | node (v:Option α) (l r:T α)
def zN:Nat→Nat→List Bool
 | 0,_=>[]
 | k+1,i=>match i with
  | 0=>[]
  | j+1=>(Nat.beq (Nat.mod j 2) 0)::zN k (Nat.div j 2)
def path(i:Nat):List Bool:=zN i i
def T.get{α:Type}(t:T α):List Bool→Option α:=T.rec (motive:=fun _=>List Bool→Option α) (fun _=>none) (fun v _ _ il ir p=>List.rec (motive:=fun _=>Option α) v (fun b q _=>Bool.rec (motive:=fun _=>Option α) (ir q) (il q) b) p) t
def T.Gy{α R:Type}(p:List Bool):T α→Option α→(T α→R)→R :=
 List.rec (motive:=fun _=>T α→Option α→(T α→R)→R)
  (fun t a k=>T.rec (motive:=fun _=>R) (k (.node a .nil .nil)) (fun _ l r _ _=>k (.node a l r)) t)
  (fun b _ ih t a k=>T.rec (motive:=fun _=>R)
    (Bool.rec (motive:=fun _=>R) (ih .nil a fun r=>k (.node none .nil r)) (ih .nil a fun l=>k (.node none l .nil)) b)
    (fun v l r _ _=>Bool.rec (motive:=fun _=>R) (ih r a fun r=>k (.node v l r)) (ih l a fun l=>k (.node v l r)) b) t) p
def T.set{α:Type}(p:List Bool)(t:T α)(a:Option α):T α:=T.Gy p t a fun t=>t
@[simp] theorem T.get_nil(p:List Bool):(T.nil:T α).get p=none:=rfl
@[simp] theorem T.APG(v:Option α)(l r:T α):(T.node v l r).get []=v:=rfl
@[simp] theorem T.ANE(v:Option α)(l r:T α)(q:List Bool):(T.node v l r).get (true::q)=l.get q:=rfl
@[simp] theorem T.AKF(v:Option α)(l r:T α)(q:List Bool):(T.node v l r).get (false::q)=r.get q:=rfl
theorem T.AI2{S:Type}:∀(p:List Bool) (t:T α) (a:Option α) (k:T α→R) (g:R→S),g (T.Gy p t a k)=T.Gy p t a fun t=>g (k t):=by
 intro p;induction p with
 | nil=>intro t a k g;cases t<;>rfl
 | cons b p ih =>
  intro t a k g;cases t<;>cases b<;>exact ih _ _ _ _
theorem T.X9(p:List Bool)(t:T α)(a:Option α)(k:T α→R):T.Gy p t a k=k (T.set p t a):=(T.AI2 p t a (fun t=>t) k).symm
theorem T.A1b(b:Bool)(p:List Bool)(a:Option α):
 T.set (b::p) .nil a=if b then .node none (T.set p .nil a) .nil else .node none .nil (T.set p .nil a):=by
 cases b
 ·exact T.X9 p .nil a fun r=>T.node none .nil r
 ·exact T.X9 p .nil a fun r=>T.node none r .nil
theorem T.vu(b:Bool)(p:List Bool)(v:Option α)(l r:T α)(a:Option α):
 T.set (b::p) (.node v l r) a=if b then .node v (T.set p l a) r else .node v l (T.set p r a):=by
 cases b
 ·exact T.X9 p r a fun r=>T.node v l r
 ·exact T.X9 p l a fun l=>T.node v l r
theorem T.A9:∀(p q:List Bool) (t:T α) (a:Option α),(T.set p t a).get q=if p=q then a else t.get q:=by
 intro p;induction p with
 | nil =>
  intro q t a;cases t<;>cases q<;>first|rfl|(rename_i b q;cases b<;>rfl)
 | cons b p ih =>
  intro q t a;cases t with
  | nil =>
   rw[T.A1b];cases q with
   | nil=>cases b<;>simp
   | cons c q=>cases b<;>cases c<;>simp[ih]
  | node v l r =>
   rw[T.vu];cases q with
   | nil=>cases b<;>simp
   | cons c q=>cases b<;>cases c<;>simp[ih]
def cy:List Bool→Nat
 | []=>0
 | b::p=>if b then 2*cy p+1 else 2*cy p+2
theorem af:∀(k i:Nat),i≤k→cy (zN k i)=i:=by
 intro k;induction k with
 | zero=>trivial
 | succ k ih =>
  intro i h;cases i with
  | zero=>rfl
  | succ j =>
   have hj:=ih (j/2) (by omega);simp only[zN,cy];show(if(Nat.beq (j%2) 0)=true then 2*cy (zN k (j/2))+1 else 2*cy (zN k (j/2))+2)=j+1;rw[hj];by_cases h2:j%2=0
   ·simp_all;omega
   simp_all;omega
theorem bP(h:path i=path j):i=j:=by have hi:=af i i (Nat.le_refl _);have hj:=af j j (Nat.le_refl _);unfold path at h;rw[h] at hi;omega
theorem V9(t:T α)(i j:Nat)(a:Option α):(T.set (path i) t a).get (path j)=if i=j then a else t.get (path j):=by
 rw[T.A9];by_cases h:i=j
 ·subst h;simp
 ·rw[if_neg (fun e=>h (bP e)),if_neg h]
def C8{α:Type}(n:Nat)(k:Nat→α):α:=Nat.rec (motive:=fun _=>α) (k 0) (fun m _=>k (Nat.succ m)) n
theorem C1(n:Nat)(k:Nat→α):C8 n k=k n:=by cases n<;>rfl
def A4U{α:Type}(x:Int)(k:Int→α):α:=Int.rec (motive:=fun _=>α) (fun n=>C8 n fun n=>k (.ofNat n)) (fun n=>C8 n fun n=>k (.negSucc n)) x
theorem A4V(x:Int)(k:Int→α):A4U x k=k x:=by
 cases x with
 | ofNat n=>exact C1 n fun n=>k (.ofNat n)
 | negSucc n=>exact C1 n fun n=>k (.negSucc n)
structure VT where
 S6:Nat
 o:Nat
 n:Nat
 s:Nat
abbrev Map:=Nat→Option VT
def R8:Nat:=18446744073709551616
def top:A0:=.chan (some 0)
inductive F5 (f:Map):A0→A0→Prop where
 | top (v:A0):F5 f (.chan (some 0)) v
 | bool (b:Bool):F5 f (.bool b) (.bool b)
 | int (k:IntKind) (n:Int):F5 f (.int k n) (.int k n)
 | string (s:ByteArray):F5 f (.string s) (.string s)
 | nilPtr:F5 f (.pointer none) (.pointer none)
 | ptr (b o:Nat) (i:VT) (h:f b=some i):F5 f (.pointer (some ⟨b,o,none⟩)) (.pointer (some ⟨i.S6,i.o+o,none⟩))
 | AW (l c:Nat):F5 f (.slice none l c) (.slice none l c)
 | slice (b o l c:Nat) (i:VT) (h:f b=some i) (hc:c<R8) (hl:l≤c):F5 f (.slice (some ⟨b,o,none⟩) l c) (.slice (some ⟨i.S6,i.o+o,none⟩) l c)
 | Z9 (b o l c lb:Nat) (i:VT) (o' c':Nat) (h:f b=some i) (hc:c=R8*(i.s+1)+lb) (hlb:lb<R8) (hl:l≤lb) (hb:lb≤c')
  (ho:o'=i.o+o∨lb=0) (hn:o'+c'*i.s≤i.n):F5 f (.slice (some ⟨b,o,none⟩) l c) (.slice (some ⟨i.S6,o',none⟩) l c')
 | IV:F5 f (.map none) (.map none)
 | map (b:Nat) (i:VT) (h:f b=some i):F5 f (.map (some b)) (.map (some i.S6))
 | func (g:Fn) (a c a' c':Array A0) (ha:a.size=a'.size) (hc:c.size=c'.size)
  (va:∀i,i<a.size→F5 f (a.getD i undef) (a'.getD i undef)) (vc:∀i,i<c.size→F5 f (c.getD i undef) (c'.getD i undef)) :
  F5 f (.func g a c) (.func g a' c')
 | nilFunc:F5 f .nilFunc .nilFunc
 | iface (t:TypeId) (v v':A0) (h:F5 f v v'):F5 f (.iface t v) (.iface t v')
 | nilIface:F5 f .nilIface .nilIface
 | agg (a a':Array A0) (hs:a.size=a'.size) (h:∀i,i<a.size→F5 f (a.getD i undef) (a'.getD i undef)):F5 f (.agg a) (.agg a')
 | tuple (a a':Array A0) (hs:a.size=a'.size) (h:∀i,i<a.size→F5 f (a.getD i undef) (a'.getD i undef)):F5 f (.tuple a) (.tuple a')
def Map.le(f g:Map):Prop:=∀b i,f b=some i→g b=some i
theorem Map.le_refl(f:Map):f.le f:=fun _ _ h=>h
theorem Map.le_trans{f g h:Map}(a:f.le g)(b:g.le h):f.le h:=fun x i e=>b x i (a x i e)
theorem F5.mono{f g:Map}(hfg:f.le g)(h:F5 f v v'):F5 g v v':=by
 induction h with
 | top v=>exact .top v
 | bool b=>exact .bool b
 | int k n=>exact .int k n
 | string s=>exact .string s
 | nilPtr=>exact .nilPtr
 | ptr b o i h=>exact .ptr b o i (hfg _ _ h)
 | AW l c=>exact .AW l c
 | slice b o l c i h hc hl=>exact .slice b o l c i (hfg _ _ h) hc hl
 | Z9 b o l c lb i o' c' h hc hlb hl hb ho hn=>exact .Z9 b o l c lb i o' c' (hfg _ _ h) hc hlb hl hb ho hn
 | IV=>exact .IV
 | map b i h=>exact .map b i (hfg _ _ h)
 | func g a c a' c' ha hc va vc iha ihc=>constructor<;>grind
 | nilFunc=>exact .nilFunc
 | iface t v v' h ih=>exact .iface t v v' ih
 | nilIface=>exact .nilIface
 | agg a a' hs h ih=>exact .agg a a' hs ih
 | tuple a a' hs h ih=>exact .tuple a a' hs ih
theorem F5.undef(f:Map):F5 f Go.undef Go.undef:=.tuple #[] #[] rfl fun i h=>by simp at h
def M7(f:Map)(l l':List A0):Prop:=l.length=l'.length∧∀(i:Nat) (v:A0),l[i]?=some v→∃v',l'[i]?=some v'∧F5 f v v'
theorem M7.nil(f:Map):M7 f [] []:=⟨rfl,fun i v h=>by simp at h⟩
theorem M7.cons{f:Map}{l:List A0}(h:F5 f v v')(hl:M7 f l l'):M7 f (v::l) (v'::l'):=by
 refine⟨by simp[hl.1],fun i x hx=>?_⟩;cases i with
 | zero=>grind
 | succ i=>simp at hx;obtain⟨y,hy,hr⟩:=hl.2 i x hx;grind
theorem M7.Qe{f:Map}{l:List A0}(h:M7 f (v::l) l'):∃v' r,l'=v'::r∧F5 f v v'∧M7 f l r:=by
 obtain⟨hl,h⟩:=h;cases l' with
 | nil=>simp at hl
 | cons v' r =>
  refine⟨v',r,rfl,?_,by simpa using hl,fun i x hx=>?_⟩
  ·obtain⟨y,hy,hr⟩:=h 0 v rfl;simp at hy;exact hy▸hr
  ·obtain⟨y,hy,hr⟩:=h (i+1) x (by simpa using hx);grind
theorem M7.zZ{f:Map}(h:M7 f [] l'):l'=[]:=by
 cases l' with
 | nil=>rfl
 | cons a b=>simp[M7] at h
theorem M7.mono{f g:Map}(hfg:f.le g){l:List A0}(h:M7 f l l'):M7 g l l':=⟨h.1,fun i v hv=>let ⟨v',a,b⟩:=h.2 i v hv;⟨v',a,b.mono hfg⟩⟩
theorem M7.append{f:Map}{a a' b b':List A0}(h:M7 f a a')(k:M7 f b b'):M7 f (a++b) (a'++b'):=by
 refine⟨by simp[h.1,k.1],fun i v hv=>?_⟩;rcases Nat.lt_or_ge i a.length with hi|hi
 ·rw[List.getElem?_append_left hi] at hv;rw[List.getElem?_append_left (by rw[←h.1];exact hi)];exact h.2 i v hv
 ·rw[List.getElem?_append_right hi] at hv;rw[List.getElem?_append_right (by rw[←h.1];exact hi),←h.1];exact k.2 _ v hv
theorem Nz{a:Array A0}(h:a[i]?=some v):a.getD i undef=v:=by simp_all
theorem M7.of_array{f:Map}{a a':Array A0}(hs:a.size=a'.size)(h:∀i,i<a.size→F5 f (a.getD i undef) (a'.getD i undef)):M7 f a.toList a'.toList:=by
 refine⟨by simpa using hs,fun i v hv=>?_⟩;have hv':a[i]?=some v:=by simpa using hv
 have hi:=(Array.getElem?_eq_some_iff.1 hv').1;have:=h i hi;rw[Nz hv'] at this;simp_all
theorem M7.Nr{f:Map}{l:List A0}(h:M7 f l l'):l.toArray.size=l'.toArray.size∧∀i,i<l.toArray.size→F5 f (l.toArray.getD i undef) (l'.toArray.getD i undef):=by
 refine⟨by simpa using h.1,fun i hi=>?_⟩;have hi':i<l.length:=by simpa using hi
 obtain⟨v',hv',hr⟩:=h.2 i l[i] (by simp[hi']);simp_all
theorem F5.aj{f:Map}{l:List A0}(h:M7 f l l'):F5 f (.agg ⟨l⟩) (.agg l'.toArray):=.agg _ _ (by simpa using h.1) h.Nr.2
theorem F5.KJ{f:Map}{l:List A0}(h:M7 f l l'):F5 f (.tuple ⟨l⟩) (.tuple l'.toArray):=.tuple _ _ (by simpa using h.1) h.Nr.2
def c7(v:A0):List A0:=match v with|.agg a=>a.toList|v=>[v]
theorem AIA(v:A0):c7 v=v.cells.toList:=by cases v<;>rfl
def TK(v:A0):Bool:=match v with|.chan _=>true|_=>false
theorem F5.cells{f:Map}(h:F5 f v v')(ht:TK v=false):M7 f (c7 v) v'.cells.toList:=by
 cases h with
 | top v=>simp[TK] at ht
 | agg a a' hs h=>exact M7.of_array hs h
 | _=>exact M7.cons (by constructor<;>assumption) (M7.nil f)
def fp(v:A0):Nat:=match v with|.bool _=>1|.int ..=>2|.string _=>3|_=>0
inductive N2 where
 | row (cells:T A0) (n:Nat) (elem:TypeId) (cl:Bool) (ro:Bool)
 | iter (s:ByteArray) (pos:Nat)
  | mp (es:List (A0×A0))
structure Hp where
 bl:T N2
 A6:Nat
 base:Nat
 log:List Nat
def Hp.at(h:Hp)(b:Nat):Option N2:=h.bl.get (path b)
def ANH:Nat:=1000000000
inductive GI (f:Map) (i:VT):N2→Obj→Prop where
 | row (cells:T A0) (n:Nat) (elem:TypeId) (cl ro:Bool) (arr:Array A0) (elem':TypeId) (fz:Nat×Nat) (he:elem=elem'∨elem=ANH) (hs:arr.size=i.n) (hn:i.o+n≤i.n)
  (hcl:cl=true→i.o=0∧n=i.n) (hro:ro=false→∀k,k<i.n→¬(fz.1≤k∧k<fz.2))
  (hc:∀k v,k<n→cells.get (path k)=some v→∃v',arr[i.o+k]?=some v'∧F5 f v v'):GI f i (.row cells n elem cl ro) (.cells arr elem' fz)
 | iter (s:ByteArray) (pos:Nat) (h0:i.o=0):GI f i (.iter s pos) (.stringIter s pos)
 | mp (es:List (A0×A0)) (en:Array MapEntry) (ck:Nat) (hl:en.size=es.length) (hck:ck=en.size)
  (he:∀(j:Nat) (e:A0×A0),es[j]?=some e→(0<fp e.1∧fp e.1<4)∧∃x,en[j]?=some x∧x.key=e.1∧F5 f e.2 x.val∧x.born=j):GI f i (.mp es) (.map en ck)
structure Z6(f:Map)(h:Hp)(w:World):Prop where
 obj:∀b o i,f b=some i→h.at b=some o→∃x,w.heap[i.S6]?=some x∧GI f i o x
 inj:∀b c i j,f b=some i→f c=some j→(h.at b).isSome→(h.at c).isSome→i.S6=j.S6→b=c
 fresh:∀b i,f b=some i→b<h.A6∧i.S6<w.heap.size
 dead:∀b,h.A6≤b→h.at b=none
 base:h.base≤h.A6
structure L6(h h':Hp):Prop where
 base:h'.base=h.base
 A6:h.A6≤h'.A6
 log:∀b,b∈h.log→b∈h'.log
 K7:∀b,b<h.base→b∉h'.log→h'.at b=h.at b
 dead:∀b,b<h.A6→h.at b=none→h'.at b=none
theorem L6.refl(h:Hp):L6 h h:=⟨rfl,Nat.le_refl _,fun _ h=>h,fun _ _ _=>rfl,fun _ _ e=>e⟩
theorem L6.trans{a b c:Hp}(x:L6 a b)(y:L6 b c):L6 a c :=
 ⟨y.base.trans x.base,Nat.le_trans x.A6 y.A6,fun k h=>y.log k (x.log k h),
   fun k hk hn=>(y.K7 k (by rw[x.base];exact hk) hn).trans (x.K7 k hk fun e=>hn (y.log k e)),
   fun k hk e=>y.dead k (Nat.lt_of_lt_of_le hk x.A6) (x.dead k hk e)⟩
structure L5(f:Map)(h:Hp)(w:World)(f':Map)(h':Hp)(w':World):Prop where
 pre:Z6 f h w
 le:f.le f'
 rel:Z6 f' h' w'
 size:w.heap.size≤w'.heap.size
 tape:w'.tape=w.tape
 os:w'.os=w.os
 out:w'.output=w.output
 K7:∀c,c<w.heap.size→(∀b i,f b=some i→i.S6=c→(h.at b).isSome→b<h.base∧b∉h'.log)→w'.heap[c]?=w.heap[c]?
 news:∀b i,f b=none→f' b=some i→h.A6≤b∧(w.heap.size≤i.S6∨∃c j,f c=some j∧j.S6=i.S6∧(h.at c).isSome∧(h.base≤c∨c∈h'.log))
theorem L5.refl{f:Map}{h:Hp}(hr:Z6 f h w):L5 f h w f h w:=⟨hr,Map.le_refl f,hr,Nat.le_refl _,rfl,rfl,rfl,fun _ _ _=>rfl,fun b i e e'=>by rw[e] at e';cases e'⟩
theorem L5.trans{f f1 f2:Map}{h h1 h2:Hp}{w1 w2:World}(x:L5 f h w f1 h1 w1)(ax:L6 h h1)(ay:L6 h1 h2)(y:L5 f1 h1 w1 f2 h2 w2):
 L5 f h w f2 h2 w2:=by
 have live:∀b i,f b=some i→(h1.at b).isSome→(h.at b).isSome:=fun b i hb hl=>by
  cases e:h.at b with
  | some _=>rfl
  | none=>rw[ax.dead b (x.pre.fresh b i hb).1 e] at hl;cases hl
 refine⟨x.pre,Map.le_trans x.le y.le,y.rel,Nat.le_trans x.size y.size,y.tape.trans x.tape,y.os.trans x.os,y.out.trans x.out,?_,?_⟩
 · intro c hc hall;have h1:=x.K7 c hc fun b i hb hi hl=>⟨(hall b i hb hi hl).1,fun e=>(hall b i hb hi hl).2 (ay.log _ e)⟩
   refine(y.K7 c (Nat.lt_of_lt_of_le hc x.size) fun b i hb hi hl=>?_).trans h1;cases hfb:f b with
   | some j =>
    have:=x.le b j hfb;rw[hb] at this;cases this;rw[ax.base];grind
   | none =>
    obtain⟨hge,hor⟩:=x.news b i hfb hb;rcases hor with hor|⟨c',j,hj,hjb,hlive,hbase⟩
    ·omega
    · obtain⟨p,q⟩:=hall c' j hj (hjb.trans hi) hlive;rcases hbase with hb'|hb'
      ·omega
      ·exact absurd (ay.log _ hb') q
 · intro b i hb hb2;cases hf1:f1 b with
   | some j =>
    have:=y.le b j hf1;rw[hb2] at this;cases this;obtain⟨hge,hor⟩:=x.news b i hb hf1;exact⟨hge,hor.imp id fun⟨c,j,hj,e,hl,hh⟩=>⟨c,j,hj,e,hl,hh.imp id (ay.log _)⟩⟩
   | none =>
    obtain⟨hge,hor⟩:=y.news b i hf1 hb2;refine⟨Nat.le_trans ax.A6 hge,?_⟩;rcases hor with hor|⟨c,j,hj,e,hl,hh⟩
    ·exact .inl (Nat.le_trans x.size hor)
    · cases hfc:f c with
      | some j' =>
       have:=x.le c j' hfc;rw[hj] at this;cases this;exact .inr ⟨c,j,hfc,e,live c j hfc hl,by rw[←ax.base];exact hh⟩
      | none =>
       obtain⟨_,hor'⟩:=x.news c j hfc hj;rcases hor' with hor'|⟨c',j',hj',e',hl',hh'⟩
       ·exact .inl (by omega)
       ·exact .inr ⟨c',j',hj',e'.trans e,hl',hh'.imp id (ay.log _)⟩
end
section
theorem Map.HF{f:Map}{h:Hp}(hr:Z6 f h w)(hb:h.A6≤b):f b=none:=by
 cases e:f b with
 | none=>rfl
 | some i=>exact absurd (hr.fresh b i e).1 (by omega)
def Jk(base:Nat)(log:List Nat)(b:Nat):List Nat:=bif Nat.blt b base then(match log with|[]=>[b]|c::r=>bif Nat.beq c b then c::r else b::c::r) else log
theorem AJc{base:Nat}{log:List Nat}(h:c∈log):c∈Jk base log b:=by unfold Jk;grind
theorem VS{base:Nat}{log:List Nat}(h:b<base):b∈Jk base log b:=by
 unfold Jk;have e:=Nat.blt_eq.mpr h;rw[e];cases log with
 | nil=>simp
 | cons d r =>
  show b∈(bif Nat.beq d b then d::r else b::d::r);cases hb:Nat.beq d b with
  | true=>simp_all
  | false=>simp
def Hp.put(h:Hp)(b:Nat)(o:Option N2):Hp:=⟨T.set (path b) h.bl o,h.A6,h.base,Jk h.base h.log b⟩
def Hp.Ei{R:Type}(h:Hp)(b:Nat)(o:Option N2)(k:Hp→R):R:=T.Gy (path b) h.bl o fun bl=>k ⟨bl,h.A6,h.base,Jk h.base h.log b⟩
theorem Hp.Hh(h:Hp)(b:Nat)(o:Option N2)(k:Hp→R):h.Ei b o k=k (h.put b o):=T.X9 _ _ _ _
def Hp.new(h:Hp)(o:N2):Hp:=⟨T.set (path h.A6) h.bl (some o),Nat.succ h.A6,h.base,h.log⟩
def Hp.SB{R:Type}(h:Hp)(o:N2)(k:Nat→Hp→R):R:=T.Gy (path h.A6) h.bl (some o) fun bl=>C8 (Nat.succ h.A6) fun nx=>k h.A6 ⟨bl,nx,h.base,h.log⟩
theorem Hp.DM(h:Hp)(o:N2)(k:Nat→Hp→R):h.SB o k=k h.A6 (h.new o):=by unfold Hp.SB;rw[T.X9,C1];rfl
theorem Hp.Pt(h:Hp)(b c:Nat)(o:Option N2):(h.put b o).at c=if b=c then o else h.at c:=V9 _ _ _ _
theorem Hp.HG(h:Hp)(c:Nat)(o:N2):(h.new o).at c=if h.A6=c then some o else h.at c:=V9 _ _ _ _
theorem L6.put{h:Hp}(o:Option N2)(hl:(h.at b).isSome):L6 h (h.put b o):=by
 refine⟨rfl,M8 _,fun c hc=>AJc hc,fun c hc hn=>?_,fun c _ e=>?_⟩
 · rw[Hp.Pt];by_cases hbc:b=c
   ·subst hbc;exact absurd (VS hc) hn
   ·rw[if_neg hbc]
 ·rw[Hp.Pt];grind
theorem L6.new{h:Hp}(o:N2)(hb:h.base≤h.A6):L6 h (h.new o):=by
 refine⟨rfl,Nat.le_succ _,fun c hc=>hc,fun c hc hn=>?_,fun c hc e=>?_⟩
 ·rw[Hp.HG,if_neg (by omega)]
 ·rw[Hp.HG,if_neg (by omega)];exact e
theorem GI.mono{f g:Map}(hfg:f.le g){i:VT}{o:N2}{x:Obj}(h:GI f i o x):GI g i o x:=by
 cases h with
 | row cells n elem cl ro arr elem' fz he hs hn hcl hro hc =>
  exact .row cells n elem cl ro arr elem' fz he hs hn hcl hro fun k v hk hv=>let ⟨v',a,b⟩:=hc k v hk hv;⟨v',a,b.mono hfg⟩
 | iter s pos h0=>exact .iter s pos h0
 | mp es en ck hl hck he=>exact .mp es en ck hl hck fun j e hj=>let ⟨p,x,a,b,c,d⟩:=he j e hj;⟨p,x,a,b,c.mono hfg,d⟩
theorem L5.put{f:Map}{h:Hp}{i:VT}{o:N2}{x:Obj}(hr:Z6 f h w)(hb:f b=some i)(hl:(h.at b).isSome)(hx:w'.heap[i.S6]?=some x)(ho:GI f i o x)(hsz:w'.heap.size=w.heap.size)(hne:∀c,c≠i.S6→w'.heap[c]?=w.heap[c]?)(ht:w'.tape=w.tape)(hos:w'.os=w.os)(hout:w'.output=w.output):L5 f h w f (h.put b (some o)) w':=by
 refine⟨hr,Map.le_refl f,⟨?_,?_,?_,?_,hr.base⟩,by omega,ht,hos,hout,?_,fun c j e e'=>by rw[e] at e';cases e'⟩
 · intro c o' j hc ho';rw[Hp.Pt] at ho';by_cases hbc:b=c
   ·grind
   · rw[if_neg hbc] at ho';obtain⟨y,hy,hor⟩:=hr.obj c o' j hc ho';refine⟨y,?_,hor⟩;rw[hne]
     ·exact hy
     ·intro e;exact hbc (hr.inj b c i j hb hc hl (by rw[ho'];rfl) e.symm)
 · intro c d j k hc hd hlc hld e;refine hr.inj c d j k hc hd ?_ ?_ e
   ·rw[Hp.Pt] at hlc;grind
   ·rw[Hp.Pt] at hld;grind
 ·intro c j hc;have:=hr.fresh c j hc;exact⟨this.1,by omega⟩
 · intro c hc;rw[Hp.Pt];by_cases hbc:b=c
   ·subst hbc;exact absurd (hr.fresh b i hb).1 (by have:h.A6≤b:=hc;omega)
   ·rw[if_neg hbc];exact hr.dead c hc
 ·intro c hc hall;refine hne c fun e=>?_;subst e;obtain⟨p,q⟩:=hall b i hb rfl hl;exact q (VS p)
def Map.ext(f:Map)(b:Nat)(i:VT):Map:=fun c=>if c=b then some i else f c
theorem Map.R2(f:Map)(b:Nat)(i:VT):(f.ext b i) b=some i:=if_pos rfl
theorem Map.Af(f:Map)(i:VT)(h:c≠b):(f.ext b i) c=f c:=if_neg h
theorem Map.XT{f:Map}(i:VT)(h:f b=none):f.le (f.ext b i):=by
 intro c j hc;by_cases e:c=b
 ·subst e;rw[h] at hc;cases hc
 ·rw[Map.Af f i e];exact hc
theorem L5.new{f:Map}{h:Hp}{i:VT}{o:N2}{x:Obj}(hr:Z6 f h w)(hi:i.S6=w.heap.size)(ho:GI (f.ext h.A6 i) i o x)(hheap:w'.heap=w.heap.push x)(ht:w'.tape=w.tape)(hos:w'.os=w.os)(hout:w'.output=w.output):
 L5 f h w (f.ext h.A6 i) (h.new o) w':=by
 have hn:=Map.HF hr (M8 _);have hle:=Map.XT i hn;have hsz:w'.heap.size=w.heap.size+1:=by rw[hheap];simp
 have hold:∀c,c<w.heap.size→w'.heap[c]?=w.heap[c]?:=fun c hc=>by grind
 refine⟨hr,hle,⟨?_,?_,?_,?_,AC9 hr.base⟩,by omega,ht,hos,hout,fun c hc _=>hold c hc,?_⟩
 · intro c o' j hc ho';rw[Hp.HG] at ho';by_cases e:c=h.A6
   ·subst e;rw[if_pos rfl] at ho';cases ho';rw[Map.R2] at hc;grind
   ·rw[if_neg (fun q=>e q.symm)] at ho';rw[Map.Af f i e] at hc;obtain⟨y,hy,hor⟩:=hr.obj c o' j hc ho';exact⟨y,(hold _ (hr.fresh c j hc).2).trans hy,hor.mono hle⟩
 · intro c d j k hc hd hlc hld e;by_cases ec:c=h.A6<;>by_cases ed:d=h.A6
   ·rw[ec,ed]
   ·subst ec;rw[Map.R2] at hc;cases hc;rw[Map.Af f i ed] at hd;have:=(hr.fresh d k hd).2;omega
   ·subst ed;rw[Map.R2] at hd;cases hd;rw[Map.Af f i ec] at hc;have:=(hr.fresh c j hc).2;omega
   ·rw[Map.Af f i ec] at hc;rw[Map.Af f i ed] at hd;rw[Hp.HG,if_neg (fun q=>ec q.symm)] at hlc;rw[Hp.HG,if_neg (fun q=>ed q.symm)] at hld;exact hr.inj c d j k hc hd hlc hld e
 · intro c j hc;by_cases ec:c=h.A6
   ·subst ec;rw[Map.R2] at hc;cases hc;exact⟨A9G _,by omega⟩
   ·rw[Map.Af f i ec] at hc;have:=hr.fresh c j hc;exact⟨ABG this.1,by omega⟩
 ·intro c hc;have hc':h.A6<c:=hc;rw[Hp.HG,if_neg (by omega)];exact hr.dead c (by omega)
 · intro c j hc hc';by_cases ec:c=h.A6
   ·subst ec;rw[Map.R2] at hc';grind
   ·rw[Map.Af f i ec,hc] at hc';cases hc'
theorem L5.consume{f:Map}{h:Hp}{i j:VT}{o:N2}{x:Obj}(hr:Z6 f h w)(hb:f b=some i)(hl:(h.at b).isSome)(hij:j.S6=i.S6)(hx:w'.heap[i.S6]?=some x)(ho:GI (f.ext h.A6 j) j o x)(hsz:w'.heap.size=w.heap.size)(hne:∀c,c≠i.S6→w'.heap[c]?=w.heap[c]?)(ht:w'.tape=w.tape)(hos:w'.os=w.os)(hout:w'.output=w.output):L5 f h w (f.ext h.A6 j) ((h.put b none).new o) w':=by
 have hn:=Map.HF hr (M8 _);have hle:=Map.XT j hn;have hbn:b≠h.A6:=fun e=>by grind
 have hat:∀c,((h.put b none).new o).at c=if h.A6=c then some o else if b=c then none else h.at c:=fun c=>by rw[Hp.HG,Hp.Pt];rfl
 refine⟨hr,hle,⟨?_,?_,?_,?_,AC9 hr.base⟩,by omega,ht,hos,hout,?_,?_⟩
 · intro c o' k hc ho';rw[hat] at ho';by_cases e:c=h.A6
   ·subst e;rw[if_pos rfl] at ho';cases ho';rw[Map.R2] at hc;grind
   · rw[if_neg (fun q=>e q.symm)] at ho';rw[Map.Af f j e] at hc;by_cases e2:b=c
     ·grind
     · rw[if_neg e2] at ho';obtain⟨y,hy,hor⟩:=hr.obj c o' k hc ho';refine⟨y,?_,hor.mono hle⟩;rw[hne]
       ·exact hy
       ·intro q;exact e2 (hr.inj b c i k hb hc hl (by rw[ho'];rfl) q.symm)
 · intro c d k m hc hd hlc hld e;rw[hat] at hlc hld;by_cases ec:c=h.A6<;>by_cases ed:d=h.A6
   ·rw[ec,ed]
   · subst ec;rw[Map.R2] at hc;cases hc;rw[Map.Af f j ed] at hd;rw[if_neg (fun q=>ed q.symm)] at hld;by_cases e2:b=d
     ·grind
     ·rw[if_neg e2] at hld;exact absurd (hr.inj b d i m hb hd hl hld (by omega)) e2
   · subst ed;rw[Map.R2] at hd;cases hd;rw[Map.Af f j ec] at hc;rw[if_neg (fun q=>ec q.symm)] at hlc;by_cases e2:b=c
     ·grind
     ·rw[if_neg e2] at hlc;exact absurd (hr.inj b c i k hb hc hl hlc (by omega)) e2
   · rw[Map.Af f j ec] at hc;rw[Map.Af f j ed] at hd;rw[if_neg (fun q=>ec q.symm)] at hlc;rw[if_neg (fun q=>ed q.symm)] at hld;have lc:(h.at c).isSome:=by
      grind
     have ld:(h.at d).isSome:=by grind
     exact hr.inj c d k m hc hd lc ld e
 · intro c k hc;by_cases ec:c=h.A6
   ·subst ec;rw[Map.R2] at hc;cases hc;exact⟨A9G _,by grind⟩
   ·rw[Map.Af f j ec] at hc;have:=hr.fresh c k hc;exact⟨ABG this.1,by omega⟩
 · intro c hc;have hc':h.A6<c:=hc;rw[hat,if_neg (by omega)];by_cases e2:b=c
   ·rw[if_pos e2]
   ·rw[if_neg e2];exact hr.dead c (by omega)
 ·intro c hc hall;refine hne c fun e=>?_;subst e;obtain⟨p,q⟩:=hall b i hb rfl hl;exact q (VS p)
 · intro c k hc hc';by_cases ec:c=h.A6
   · subst ec;rw[Map.R2] at hc';cases hc';refine⟨M8 _,.inr ⟨b,i,hb,hij.symm,hl,?_⟩⟩;rcases DX b h.base with q|q
     ·exact .inr (VS q)
     ·exact .inl q
   ·rw[Map.Af f j ec,hc] at hc';cases hc'
theorem L6.consume{h:Hp}(o:N2)(hl:(h.at b).isSome)(hb:h.base≤h.A6):L6 h ((h.put b none).new o):=(L6.put none hl).trans (L6.new o hb)
end
section
inductive Ex where
 | normal | exit (id:Nat) | ret | panic (c:List PanicEntry)
abbrev Df:=List (FuncId×List A0)
inductive N3 where
 | none
 | val (v:A0) (h:Hp)
 | panic (c:List PanicEntry) (h:Hp)
inductive N7 where
 | none
 | ok (e:Ex) (tm:T A0) (df:Df) (h:Hp)
abbrev Call:=FuncId→List A0→Hp→N3
abbrev DP:=List A0→T A0→Option A0
inductive PR where
 | none
 | val (v:A0)
 | read (b:Nat) (g:N2→Option A0)
abbrev DR:=List A0→T A0→PR
abbrev DO:=Call→List A0→T A0→Hp→N3
inductive OD where
 | loc (i:Nat)
 | tmp (p:List Bool)
 | val (v:A0)
def Qd(o:Option A0):A0:=Option.rec (motive:=fun _=>A0) top (fun v=>v) o
def nth(l:List A0)(i:Nat):A0:=List.rec (motive:=fun _=>Nat→A0) (fun _=>top) (fun v _ ih i=>Nat.rec (motive:=fun _=>A0) v (fun j _=>ih j) i) l i
def G4(o:OD)(lo:List A0)(tm:T A0):A0:=OD.rec (motive:=fun _=>A0) (nth lo) (fun p=>Qd (tm.get p)) (fun v=>v) o
def XW(l:List OD)(lo:List A0)(tm:T A0):List A0:=List.rec (motive:=fun _=>List A0) [] (fun o _ ih=>G4 o lo tm::ih) l
def idx(ds:List (Option Tmp))(t:Tmp):Option Nat:=match ds with
 | []=>none
 | d::r=>match d with
  | none=>(idx r t).map (·+1)
  | some u=>bif Nat.beq u t then some 0 else(idx r t).map (·+1)
def j9(v:A0):Bool:=match v with
 | .bool _ | .int .. | .string _ | .pointer none | .slice none _ _ | .map none | .nilFunc | .nilIface=>true
 | _=>false
def C3(gs:List Nat)(ds:List (Option Tmp)):Operand→OD
 | .tmp t=>match idx ds t with | some i=>.loc i | none=>.tmp (path t)
 | .const v=>.val (bif j9 v then v else top)
 | .global g=>.val (bif gs.any (fun x=>Nat.beq x g) then .pointer (some ⟨g,0,none⟩) else top)
 | .func f=>.val (.func (.func f) #[] #[])
def FE{R:Type}(v:A0)(k:Nat→Nat→R)(z:R):R:=match v with
 | .pointer a=>Option.rec (motive:=fun _=>R) z (fun a=>k a.block a.off) a
 | _=>z
def Bi{R:Type}(v:A0)(k:IntKind→Int→R)(z:R):R:=match v with
 | .int kd n=>k kd n
 | _=>z
def Cq{R:Type}(v:A0)(k:Bool→R)(z:R):R:=match v with
 | .bool b=>k b
 | _=>z
def Hq{R:Type}(v:A0)(k:ByteArray→R)(z:R):R:=match v with
 | .string s=>k s
 | _=>z
def Np{R:Type}(v:A0)(k:Nat→Nat→Nat→Nat→R)(kn:Nat→Nat→R)(z:R):R:=match v with
 | .slice a l c=>Option.rec (motive:=fun _=>R) (kn l c) (fun a=>k a.block a.off l c) a
 | _=>z
def Oh{R:Type}(v:A0)(k:List A0→R)(z:R):R:=match v with
 | .agg a=>k a.toList
 | _=>z
def ACm{R:Type}(v:A0)(k:List A0→R)(z:R):R:=match v with
 | .tuple a=>k a.toList
 | _=>z
def El{R:Type}(v:A0)(k:TypeId→A0→R)(kn:R)(z:R):R:=match v with
 | .iface t x=>k t x
 | .nilIface=>kn
 | _=>z
def AFi{R:Type}(v:A0)(k:FuncId→List A0→List A0→R)(z:R):R:=match v with
 | .func g a c=>match g with
  | .func f=>k f a.toList c.toList
  | _=>z
 | _=>z
def R5{α R:Type}(o:Option α)(k:α→R)(z:R):R:=Option.rec (motive:=fun _=>R) z k o
def Kh{R:Type}(x:Int)(k:Nat→R)(z:R):R:=Int.rec (motive:=fun _=>R) k (fun _=>z) x
def Bc(v:A0):Bool:=match v with|.agg _|.tuple _|.chan _=>true|_=>false
def K9(l:List A0):Bool:=List.rec (motive:=fun _=>Bool) true (fun v _ ih=>bif Bc v then false else ih) l
def AP{R:Type}(v:A0)(want:Bool)(y n z:R):R:=match v with
 | .bool b=>Bool.rec (motive:=fun _=>R) (Bool.rec (motive:=fun _=>R) y n want) (Bool.rec (motive:=fun _=>R) n y want) b
 | .tuple _=>n
 | _=>z
def Is{R:Type}(h:Hp)(b:Nat)(k:T A0→Nat→TypeId→Bool→Bool→R)(z:R):R:=R5 (h.bl.get (path b)) (fun o=>N2.rec (motive:=fun _=>R) k (fun _ _=>z) (fun _=>z) o) z
def Jc{R:Type}(o:N2)(k:T A0→Nat→TypeId→Bool→Bool→R)(z:R):R:=N2.rec (motive:=fun _=>R) k (fun _ _=>z) (fun _=>z) o
def V6(c:T A0)(o:Nat)(n:Nat)(acc:List A0):Option (List A0):=Nat.rec (motive:=fun _=>List A0→Option (List A0)) (fun acc=>some acc) (fun n ih acc=>R5 (c.get (path (Nat.add o n))) (fun v=>ih (v::acc)) none) n acc
def C7{R:Type}(l:List A0)(i:Nat)(c:T A0)(k:T A0→R):R:=List.rec (motive:=fun _=>Nat→T A0→R) (fun _ c=>k c) (fun v _ ih i c=>T.Gy (path i) c (some v) fun c=>ih (Nat.succ i) c) l i c
def len{α:Type}(l:List α):Nat:=List.rec (motive:=fun _=>Nat) 0 (fun _ _ ih=>Nat.succ ih) l
def Ar{R:Type}(h:Hp)(b o:Nat)(l:List A0)(k:Hp→R)(z:R):R:=Is h b (fun c n e cl ro=>bif ro then z else bif K9 l then bif Nat.ble (Nat.add o (len l)) n then C7 l o c fun c=>h.Ei b (some (.row c n e cl false)) k else z else z) z
def AA{R:Type}(h:Hp)(e:TypeId)(l:List A0)(n:Nat)(cl:Bool)(k:Nat→Hp→R):R:=C7 l 0 .nil fun c=>h.SB (.row c n e cl false) k
def AQ:IntKind→Nat
 | .i8 | .u8=>256 | .i16 | .u16=>65536 | .i32 | .u32=>4294967296 | .i64 | .u64=>18446744073709551616
def half:IntKind→Nat
 | .i8=>128 | .i16=>32768 | .i32=>2147483648 | .i64=>9223372036854775808 | .u8=>256 | .u16=>65536 | .u32=>4294967296 | .u64=>18446744073709551616
def fin(M H m:Nat):Int:=bif Nat.blt m H then .ofNat m else .negSucc (Nat.sub (Nat.sub M 1) m)
def W4(k:IntKind)(x:Int):Int:=Int.rec (motive:=fun _=>Int) (fun a=>bif Nat.blt a (half k) then .ofNat a else fin (AQ k) (half k) (Nat.mod a (AQ k))) (fun a=>fin (AQ k) (half k) (Nat.sub (Nat.sub (AQ k) 1) (Nat.mod a (AQ k)))) x
def AP9(x y:Int):Int:=Int.rec (motive:=fun _=>Int) (fun a=>Int.rec (motive:=fun _=>Int) (fun b=>.ofNat (Nat.add a b)) (fun _=>x+y) y) (fun _=>x+y) x
def AVA(x y:Int):Int:=Int.rec (motive:=fun _=>Int) (fun a=>Int.rec (motive:=fun _=>Int) (fun b=>.ofNat (Nat.mul a b)) (fun _=>x*y) y) (fun _=>x*y) x
def PG(x y:Int):Bool:=Int.rec (motive:=fun _=>Bool) (fun a=>Int.rec (motive:=fun _=>Bool) (fun b=>Nat.blt a b) (fun _=>false) y) (fun a=>Int.rec (motive:=fun _=>Bool) (fun _=>true) (fun b=>Nat.blt b a) y) x
def A38(x y:Int):Bool:=Int.rec (motive:=fun _=>Bool) (fun a=>Int.rec (motive:=fun _=>Bool) (fun b=>Nat.beq a b) (fun _=>false) y) (fun a=>Int.rec (motive:=fun _=>Bool) (fun _=>false) (fun b=>Nat.beq b a) y) x
def ART(x:Int)(n:Nat):Int:=Int.rec (motive:=fun _=>Int) (fun a=>.ofNat (Nat.mul a (Nat.pow 2 n))) (fun _=>x*2^n) x
def AK0(x:Int)(n:Nat):Int:=Int.rec (motive:=fun _=>Int) (fun a=>.ofNat (Nat.div a (Nat.pow 2 n))) (fun a=>.negSucc (Nat.div a (Nat.pow 2 n))) x
def AJx(x y:Int):Int:=Int.rec (motive:=fun _=>Int) (fun a=>Int.rec (motive:=fun _=>Int) (fun b=>.ofNat (Nat.div a b)) (fun _=>x.tdiv y) y) (fun _=>x.tdiv y) x
def ARq(x y:Int):Int:=Int.rec (motive:=fun _=>Int) (fun a=>Int.rec (motive:=fun _=>Int) (fun b=>.ofNat (Nat.mod a b)) (fun _=>x.tmod y) y) (fun _=>x.tmod y) x
def Xx(a b:Nat):Nat:=bif Nat.ble a b then a else b
def GA(kd:IntKind)(z:Int):Option A0:=A4U z fun z=>some (.int kd z)
def AD(kd:IntKind)(z:Nat):Option A0:=C8 z fun z=>some (.int kd (.ofNat z))
def gB(b:Bool):Option A0:=Bool.rec (motive:=fun _=>Option A0) (some (.bool false)) (some (.bool true)) b
abbrev G:=IntKind→Int→Int→Option A0
def AB0:G:=fun kd x y=>GA kd (W4 kd (AP9 x y))
def Nv:G:=fun kd x y=>GA kd (W4 kd (x-y))
def ANm:G:=fun kd x y=>GA kd (W4 kd (AVA x y))
def nn(f:Nat→Nat→Nat):G:=fun kd x y=>Kh x (fun a=>Kh y (fun b=>C8 (f a b) fun c=>bif Nat.blt c (half kd) then some (.int kd (.ofNat c)) else none) none) none
def fE:G:=fun kd x y=>Int.rec (motive:=fun _=>Option A0) (fun _=>nn Nat.land kd x y) (fun b=>bif Nat.beq b 0 then Kh x (fun a=>bif Nat.blt a (half kd) then some (.int kd (.ofNat a)) else none) none else none) y
def Mg:G:=fun kd x y=>Kh x (fun a=>Int.rec (motive:=fun _=>Option A0) (fun b=>C8 (Nat.xor a (Nat.land a b)) fun c=>bif Nat.blt a (half kd)&&Nat.blt c (half kd) then some (.int kd (.ofNat c)) else none) (fun b=>bif Nat.beq b 0&&Nat.blt a (half kd) then some (.int kd (.ofNat 0)) else none) y) none
def AAQ:G:=fun kd x y=>Kh y (fun n=>GA kd (W4 kd (ART x (Xx n kd.bits)))) none
def wb:G:=fun kd x y=>Kh y (fun n=>GA kd (AK0 x (Xx n kd.bits))) none
def AY2:G:=fun _ x y=>gB (A38 x y)
def iQ:G:=fun _ x y=>gB (!A38 x y)
def AUd:G:=fun _ x y=>gB (PG x y)
def ANF:G:=fun _ x y=>gB (!PG y x)
def xq:G:=fun _ x y=>gB (PG y x)
def AZC:G:=fun _ x y=>gB (!PG x y)
def A1q:G:=fun kd x y=>bif A38 y 0 then none else GA kd (W4 kd (AJx x y))
def jz:G:=fun kd x y=>bif A38 y 0 then none else GA kd (ARq x y)
def kN(k:IntKind):Nat:=match k with|.i8=>0|.i16=>1|.i32=>2|.i64=>3|.u8=>4|.u16=>5|.u32=>6|.u64=>7
def ALw(a b:IntKind):Bool:=Nat.beq (kN a) (kN b)
def bl(s:ByteArray):List UInt8:=s.data.toList
def AKv(a b:UInt8):Bool:=Nat.beq a.toNat b.toNat
def PH(x y:List UInt8):Bool:=List.rec (motive:=fun _=>List UInt8→Bool) (fun y=>List.rec (motive:=fun _=>Bool) true (fun _ _ _=>false) y) (fun a _ ih y=>List.rec (motive:=fun _=>Bool) false (fun b r _=>bif AKv a b then ih r else false) y) x y
def gU(x y:List UInt8):Bool:=List.rec (motive:=fun _=>List UInt8→Bool) (fun y=>List.rec (motive:=fun _=>Bool) false (fun _ _ _=>true) y) (fun a _ ih y=>List.rec (motive:=fun _=>Bool) false (fun b r _=>bif Nat.blt a.toNat b.toNat then true else bif AKv a b then ih r else false) y) x y
def O2(l:List UInt8):ByteArray:=⟨⟨l⟩⟩
def Tm(l:List UInt8):Option A0:=some (.string (O2 l))
def RS(op:BinOp)(x y:List UInt8):Option A0:=match op with
 | .add=>bif Nat.blt (Nat.add (len x) (len y)) 9223372036854775808 then Tm (x++y) else none
 | .eql=>gB (PH x y)
 | .neq=>gB (!PH x y)
 | .lss=>gB (gU x y)
 | .leq=>gB (!gU y x)
 | .gtr=>gB (gU y x)
 | .geq=>gB (!gU x y)
 | _=>none
def AXH(x y:A0):Option Bool:=match x with
 | .int k a=>Bi y (fun k' b=>bif ALw k k' then some (A38 a b) else none) none
 | .bool a=>Cq y (fun b=>some (a == b)) none
 | .string a=>Hq y (fun b=>some (PH (bl a) (bl b))) none
 | _=>none
def MA(tag:Nat)(x y:A0):Option Bool:=bif Nat.beq (fp x) tag then AXH x y else none
def AH(ls:List (Nat×Nat))(x y:List A0):Option Bool:=List.rec (motive:=fun _=>Option Bool) (some true) (fun i _ ih=>R5 (MA i.2 (nth x i.1) (nth y i.1)) (fun t=>Bool.rec (motive:=fun _=>Option Bool) (some false) ih t) none) ls
inductive Cv where
 | toInt (k:IntKind) | AUT (e:TypeId) | Kf | same
inductive AaM where
 | arr (n s:Nat) | sl (s:Nat)
inductive CO where
 | p (f:DP)
 | r (f:DR)
 | g (f:DO)
def T6(c:Nat):Bool:=Nat.ble R8 c
def sure(c:Nat):Nat:=bif T6 c then Nat.mod c R8 else c
def ARM(c:Nat):Nat:=Nat.div c R8
def C4(s n:Nat):Nat:=Nat.add (Nat.mul R8 (Nat.succ s)) n
def C2(b o:Nat):A0:=.pointer (some ⟨b,o,none⟩)
def F8(b o l c:Nat):A0:=.slice (some ⟨b,o,none⟩) l c
def R6(x:OD):DP:=fun lo tm=>some (G4 x lo tm)
def az(c a b:OD):DP:=fun lo tm=>Cq (G4 c lo tm) (fun t=>Bool.rec (motive:=fun _=>Option A0) (some (G4 b lo tm)) (some (G4 a lo tm)) t) none
def Ik(e:TypeId)(z:List A0)(n:Nat):DO:=fun _ _ _ h=>AA h e z n true fun b h=>.val (C2 b 0) h
def AHT(e:TypeId)(v:A0)(h:Hp):N3:=bif TK v then .none else AA h e (c7 v) (len (c7 v)) true fun b h=>.val (C2 b 0) h
def eN(e:TypeId)(x:OD):DO:=fun _ lo tm h=>AHT e (G4 x lo tm) h
def over(z:List A0)(off:Nat)(l:List A0):List A0 :=
 Nat.rec (motive:=fun _=>List A0→List A0) (fun z=>List.rec (motive:=fun _=>List A0→List A0) (fun z=>z) (fun v _ ih z=>List.rec (motive:=fun _=>List A0) [] (fun _ r _=>v::ih r) z) l z)
  (fun _ ih z=>List.rec (motive:=fun _=>List A0) [] (fun x r _=>x::ih r) z) off z
def WG{R:Type}(o n:Nat)(v:A0)(z:List A0)(k:List A0→R)(no:R):R:=bif TK v then no else bif Nat.beq (len (c7 v)) n then bif Nat.ble (Nat.add o n) (len z) then k (over z o (c7 v)) else no else no
def CT{R:Type}(parts:List (Nat×Nat×OD))(lo:List A0)(tm:T A0)(z:List A0)(k:List A0→R)(no:R):R:=List.rec (motive:=fun _=>List A0→R) k (fun p _ ih z=>WG p.1 p.2.1 (G4 p.2.2 lo tm) z ih no) parts z
def T7(z:List A0)(parts:List (Nat×Nat×OD)):DP:=fun lo tm=>CT parts lo tm z (fun l=>some (.agg ⟨l⟩)) none
def V2(e:TypeId)(n:Nat)(z:List A0)(parts:List (Nat×Nat×OD)):DO:=fun _ lo tm h=>CT parts lo tm z (fun l=>AA h e l (len l) true fun b h=>.val (F8 b 0 n n) h) .none
def AE0(v:A0):PR:=FE v (fun b o=>.read b fun ob=>Jc ob (fun c n _ _ _=>bif Nat.blt o n then c.get (path o) else none) none) .none
def AEf(m:Nat)(v:A0):PR:=FE v (fun b o=>.read b fun ob=>Jc ob (fun c n _ _ _=>bif Nat.ble (Nat.add o m) n then R5 (V6 c o m []) (fun l=>some (.agg ⟨l⟩)) none else none) none) .none
def Ul(a:OD):DR:=fun lo tm=>AE0 (G4 a lo tm)
def KB(m:Nat)(a:OD):DR:=fun lo tm=>AEf m (G4 a lo tm)
def Ab(a x:OD):DO:=fun _ lo tm h=>FE (G4 a lo tm) (fun b o=>Ar h b o [G4 x lo tm] (fun h=>.val undef h) .none) .none
def Y1(n:Nat)(a x:OD):DO:=fun _ lo tm h=>FE (G4 a lo tm) (fun b o=>Oh (G4 x lo tm) (fun l=>bif Nat.beq (len l) n then Ar h b o l (fun h=>.val undef h) .none else .none) .none) .none
def dj(v:A0):Option A0:=match v with
 | .pointer a=>Option.rec (motive:=fun _=>Option A0) none (fun a=>some (.pointer (some a))) a
 | .func g a c=>(match g with | .func f=>some (.func (.func f) a c) | _=>none)
 | _=>none
def An(x:OD):DP:=fun lo tm=>dj (G4 x lo tm)
def V0(g:G)(x y:OD):DP:=fun lo tm=>Bi (G4 x lo tm) (fun kd a=>Bi (G4 y lo tm) (fun kd' b=>bif ALw kd kd' then g kd a b else none) none) none
def Kz(g:G)(x y:OD):DP:=fun lo tm=>Bi (G4 x lo tm) (fun kd a=>Bi (G4 y lo tm) (fun _ b=>g kd a b) none) none
def Q7(op:BinOp)(x y:OD):DP:=fun lo tm=>Hq (G4 x lo tm) (fun a=>Hq (G4 y lo tm) (fun b=>RS op (bl a) (bl b)) none) none
def Dp(a b:Bool):Bool:=Bool.rec (motive:=fun _=>Bool) (Bool.rec (motive:=fun _=>Bool) true false b) b a
def MH(neg:Bool)(x y:OD):DP:=fun lo tm=>Cq (G4 x lo tm) (fun a=>Cq (G4 y lo tm) (fun b=>gB (Dp neg (!Dp a b))) none) none
def XI(ls:List (Nat×Nat))(neg:Bool)(x y:OD):DP:=fun lo tm=>Oh (G4 x lo tm) (fun a=>Oh (G4 y lo tm) (fun b=>R5 (AH ls a b) (fun t=>gB (Dp neg (!t))) none) none) none
def A7U(v:A0):Option Bool:=match v with|.pointer a=>Option.rec (motive:=fun _=>Option Bool) (some true) (fun _=>some false) a|_=>none
def A4u(v:A0):Option Bool:=match v with|.slice a _ _=>Option.rec (motive:=fun _=>Option Bool) (some true) (fun _=>some false) a|_=>none
def ATn(v:A0):Option Bool:=match v with|.map a=>Option.rec (motive:=fun _=>Option Bool) (some true) (fun _=>some false) a|_=>none
def AIX(v:A0):Option Bool:=match v with|.nilFunc=>some true|.func ..=>some false|_=>none
def AGX(v:A0):Option Bool:=match v with|.nilIface=>some true|.iface ..=>some false|_=>none
def AB(isn:A0→Option Bool)(neg:Bool)(x:OD):DP:=fun lo tm=>R5 (isn (G4 x lo tm)) (fun t=>gB (Dp neg (!t))) none
def AZy(x y:A0):Option Bool:=match x with
 | .pointer a=>(match y with
  | .pointer b=>Option.rec (motive:=fun _=>Option Bool) (Option.rec (motive:=fun _=>Option Bool) (some true) (fun _=>some false) b)
   (fun a=>Option.rec (motive:=fun _=>Option Bool) (some false) (fun b=>bif Nat.beq a.block b.block then some (Nat.beq a.off b.off) else none) b) a
  | _=>none)
 | _=>none
def A9A(neg:Bool)(x y:OD):DP:=fun lo tm=>R5 (AZy (G4 x lo tm) (G4 y lo tm)) (fun t=>gB (Dp neg (!t))) none
def AOg(v:A0):PR:=match v with
 | .pointer a=>Option.rec (motive:=fun _=>PR) (.val (.pointer none)) (fun a=>.read a.block fun ob=>Jc ob (fun _ n _ _ _=>bif Nat.blt a.off n then some (C2 a.block a.off) else none) none) a
 | _=>.none
def ANO(u s:Nat)(v:A0):PR:=match v with
 | .pointer a=>Option.rec (motive:=fun _=>PR) (.val (.pointer none)) (fun a=>.read a.block fun ob=>Jc ob (fun _ n e cl _=>bif cl&&Nat.beq e u&&Nat.blt a.off n&&Nat.beq (Nat.mod a.off s) 0&&Nat.ble (Nat.add a.off s) n then some (C2 a.block a.off) else none) none) a
 | _=>.none
def A8a(x:OD):DR:=fun lo tm=>AOg (G4 x lo tm)
def A64(u s:Nat)(x:OD):DR:=fun lo tm=>ANO u s (G4 x lo tm)
def Aam(sc:TypeId→Nat)(x y:A0):Option Bool:=El x
 (fun u v=>El y (fun u' w=>bif Nat.beq u u' then(MA (sc u) v w) else some false) (some false) none)
 (El y (fun _ _=>some false) none none) none
def AM5(sc:TypeId→Nat)(neg:Bool)(x y:OD):DP:=fun lo tm=>R5 (Aam sc (G4 x lo tm) (G4 y lo tm)) (fun t=>gB (Dp neg (!t))) none
def ADh(x:OD):DP:=fun lo tm=>Cq (G4 x lo tm) (fun b=>gB (!b)) none
def ACZ(x:OD):DP:=fun lo tm=>Bi (G4 x lo tm) (fun kd a=>GA kd (W4 kd (-a))) none
def rG(k:IntKind):Bool:=match k with|.i8|.i16|.i32|.i64=>true|_=>false
def A5Q(x:OD):DP:=fun lo tm=>Bi (G4 x lo tm) (fun kd a=>bif rG kd then none else Kh a (fun a=>bif Nat.blt a (AQ kd) then AD kd (Nat.sub (Nat.sub (AQ kd) 1) a) else none) none) none
def Uk(b:UInt8):A0:=.int .u8 (.ofNat b.toNat)
def Bg(l:List UInt8):List A0:=List.rec (motive:=fun _=>List A0) [] (fun b _ ih=>Uk b::ih) l
def bytesOf(l:List A0):Option (List UInt8):=List.rec (motive:=fun _=>Option (List UInt8)) (some []) (fun v _ ih=>Bi v (fun kd x=>bif Nat.beq (kN kd) 4 then Kh x (fun n=>bif Nat.blt n 256 then R5 ih (fun r=>some (UInt8.ofNat n::r)) none else none) none else none) none) l
def CV(ob:N2)(o n:Nat):Option (List A0):=Jc ob (fun c m _ _ _=>bif Nat.ble (Nat.add o n) m then V6 c o n [] else none) none
def cellsOf(h:Hp)(b o n:Nat):Option (List A0):=R5 (h.bl.get (path b)) (fun ob=>CV ob o n) none
def Xc(kd:IntKind)(x:OD):DP:=fun lo tm=>Bi (G4 x lo tm) (fun _ a=>GA kd (W4 kd a)) none
def HL(e:TypeId)(x:OD):DO:=fun _ lo tm h=>Hq (G4 x lo tm) (fun s=>C8 (len (bl s)) fun n=>bif Nat.blt n R8 then AA h e (Bg (bl s)) n false fun b h=>C8 (C4 1 n) fun c=>.val (F8 b 0 n c) h else .none) .none
def A3k(o:Option A0):PR:=R5 o PR.val .none
def ADR(v:A0)(k:List UInt8→Option A0):PR:=match v with
 | .string s=>A3k (k (bl s))
 | .slice a l _=>bif Nat.beq l 0 then A3k (k []) else Option.rec (motive:=fun _=>PR) .none (fun a=>.read a.block fun ob=>R5 (CV ob a.off l) (fun cs=>R5 (bytesOf cs) k none) none) a
 | _=>.none
def Kf(v:A0):PR:=match v with
 | .slice a l _=>Option.rec (motive:=fun _=>PR) (.val (.string (O2 []))) (fun a=>bif Nat.beq l 0 then .val (.string (O2 [])) else .read a.block fun ob=>R5 (CV ob a.off l) (fun cs=>R5 (bytesOf cs) Tm none) none) a
 | _=>.none
def Ov(x:OD):DR:=fun lo tm=>Kf (G4 x lo tm)
def Yb(x:OD):DP:=fun lo tm=>Hq (G4 x lo tm) (fun s=>some (.string s)) none
def A2h(t:TypeId)(x:OD):DP:=fun lo tm=>some (.iface t (G4 x lo tm))
def A5V(g:FuncId)(first cap:List OD):DP:=fun lo tm=>some (.func (.func g) ⟨XW first lo tm⟩ ⟨XW cap lo tm⟩)
def ARo(g:Fn)(first cap:List OD):DP:=fun lo tm=>some (.func g ⟨XW first lo tm⟩ ⟨XW cap lo tm⟩)
def U9(n:Nat)(z:List A0):List A0:=Nat.rec (motive:=fun _=>List A0) [] (fun _ ih=>z++ih) n
def Hw{R:Type}(v:A0)(k:Nat→R)(z:R):R:=Bi v (fun _ i=>Kh i k z) z
def qw(e:TypeId)(z:List A0)(bytes:Nat)(n c:OD):DO:=fun _ lo tm h=>Hw (G4 n lo tm) (fun n=>Hw (G4 c lo tm) (fun c =>
 bif Nat.ble n c then bif Nat.ble (Nat.mul bytes c) 16777216 then bif Nat.ble c 16777216 then AA h e (U9 c z) (len (U9 c z)) true fun b h=>C8 n fun n=>C8 c fun c=>.val (F8 b 0 n c) h else .none else .none else .none) .none) .none
def m9{R:Type}(o:Option OD)(lo:List A0)(tm:T A0)(dflt top_:Nat)(k:Nat→R)(z:R):R:=Option.rec (motive:=fun _=>R) (k dflt) (fun x=>Hw (G4 x lo tm) (fun i=>bif Nat.ble i top_ then C8 i k else z) z) o
def Rd(b o s lw hi m:Nat):Option A0:=C8 (Nat.add o (Nat.mul lw s)) fun o=>C8 (Nat.sub hi lw) fun l=>C8 (Nat.sub m lw) fun c=>some (F8 b o l c)
def Jn(b o s lw hi m:Nat):Option A0:=bif Nat.beq lw m then some (F8 b o 0 0) else Rd b o s lw hi m
def dM(b o s lw hi c:Nat):Option A0:=bif Nat.beq lw 0 then some (F8 b o hi c) else bif Nat.beq (ARM c) (Nat.succ s) then(bif Nat.blt lw (sure c) then Rd b o s lw hi c else C8 (Nat.sub c (sure c)) fun c=>some (F8 b o 0 c)) else none
def slice3(s:Nat)(lo' hi:Option OD)(lo:List A0)(tm:T A0)(b o l c:Nat):Option A0:=m9 hi lo tm l (sure c) (fun hi=>m9 lo' lo tm 0 hi (fun lw=>bif T6 c then dM b o s lw hi c else Jn b o s lw hi c) none) none
def Le(s:Nat)(lo' hi:Option OD)(mx:OD)(lo:List A0)(tm:T A0)(b o c:Nat):Option A0:=bif T6 c&&Nat.beq (sure c) 0 then none else m9 (some mx) lo tm 0 (sure c) (fun m=>Option.rec (motive:=fun _=>Option A0) none (fun hi=>m9 (some hi) lo tm 0 m (fun hi=>m9 lo' lo tm 0 hi (fun lw=>Jn b o s lw hi m) none) none) hi) none
def Ii(s:Nat)(x:OD)(lo' hi mx:Option OD):DP:=fun lo tm=>Np (G4 x lo tm)
 (fun b o l c=>Option.rec (motive:=fun _=>Option A0) (slice3 s lo' hi lo tm b o l c) (fun m=>Le s lo' hi m lo tm b o c) mx)
 (fun l c=>bif Nat.beq l 0 then bif Nat.beq c 0 then Option.rec (motive:=fun _=>Option A0) (m9 hi lo tm 0 0 (fun _=>m9 lo' lo tm 0 0 (fun _=>some (.slice none 0 0)) none) none) (fun _=>none) mx else none else none) none
def gg{α:Type}(n:Nat)(l:List α):List α:=Nat.rec (motive:=fun _=>List α→List α) (fun l=>l) (fun _ ih l=>List.rec (motive:=fun _=>List α) [] (fun _ r _=>ih r) l) n l
def KK{α:Type}(n:Nat)(l:List α):List α:=Nat.rec (motive:=fun _=>List α→List α) (fun _=>[]) (fun _ ih l=>List.rec (motive:=fun _=>List α) [] (fun x r _=>x::ih r) l) n l
def Ll(x:OD)(lo' hi:Option OD):DP:=fun lo tm=>Hq (G4 x lo tm) (fun s=>m9 hi lo tm (len (bl s)) (len (bl s)) (fun hi=>m9 lo' lo tm 0 hi (fun lw=>Tm (KK (Nat.sub hi lw) (gg lw (bl s)))) none) none) none
def vO(n s:Nat)(x:OD)(lo' hi mx:Option OD):DP:=fun lo tm=>FE (G4 x lo tm) (fun b o=>Option.rec (motive:=fun _=>Option A0)
 (m9 hi lo tm n n (fun hi=>m9 lo' lo tm 0 hi (fun lw=>Jn b o s lw hi n) none) none) (fun _=>none) mx) none
def iJ(off:Nat)(x:OD):DP:=fun lo tm=>FE (G4 x lo tm) (fun b o=>C8 (Nat.add o off) fun o=>some (C2 b o)) none
def JZ(off:Nat)(l:List A0):Option A0:=bif Nat.blt off (len l) then some (nth l off) else none
def qz(off n:Nat)(l:List A0):Option A0:=bif Nat.ble (Nat.add off n) (len l) then some (.agg ⟨KK n (gg off l)⟩) else none
def mV(off:Nat)(x:OD):DP:=fun lo tm=>Oh (G4 x lo tm) (JZ off) none
def AEj(off n:Nat)(x:OD):DP:=fun lo tm=>Oh (G4 x lo tm) (qz off n) none
def QK(n s:Nat)(x i:OD):DP:=fun lo tm=>Hw (G4 i lo tm) (fun i=>FE (G4 x lo tm) (fun b o=>bif Nat.blt i n then C8 (Nat.add o (Nat.mul i s)) fun o=>some (C2 b o) else none) none) none
def Gi(s:Nat)(x i:OD):DP:=fun lo tm=>Hw (G4 i lo tm) (fun i=>Np (G4 x lo tm) (fun b o l _=>bif Nat.blt i l then C8 (Nat.add o (Nat.mul i s)) fun o=>some (C2 b o) else none) (fun _ _=>none) none) none
def AOK(n:Nat)(x i:OD):DP:=fun lo tm=>Hw (G4 i lo tm) (fun i=>Oh (G4 x lo tm) (fun l=>bif Nat.blt i n then JZ i l else none) none) none
def AO4(n s:Nat)(x i:OD):DP:=fun lo tm=>Hw (G4 i lo tm) (fun i=>Oh (G4 x lo tm) (fun l=>bif Nat.blt i n then qz (Nat.mul i s) s l else none) none) none
def YH(l:List UInt8)(i:Nat):Option UInt8:=List.rec (motive:=fun _=>Nat→Option UInt8) (fun _=>none) (fun v _ ih i=>Nat.rec (motive:=fun _=>Option UInt8) (some v) (fun j _=>ih j) i) l i
def Mv(x i:OD):DP:=fun lo tm=>Hw (G4 i lo tm) (fun i=>Hq (G4 x lo tm) (fun s=>R5 (YH (bl s) i) (fun b=>AD .u8 b.toNat) none) none) none
def AA6(x:OD):DO:=fun _ lo tm h=>Hq (G4 x lo tm) (fun s=>h.SB (.iter s 0) fun b h=>.val (C2 b 0) h) .none
def A65{R:Type}(h:Hp)(b:Nat)(k:ByteArray→Nat→R)(z:R):R:=R5 (h.bl.get (path b)) (fun o=>N2.rec (motive:=fun _=>R) (fun _ _ _ _ _=>z) k (fun _=>z) o) z
def Ua{R:Type}(c:Nat)(k:Nat→R)(z:R):R:=bif Nat.blt c 128 then k c else bif Nat.blt 247 c then k 65533 else z
def AAP(x:OD):DO:=fun _ lo tm h=>FE (G4 x lo tm) (fun b o=>bif Nat.beq o 0 then A65 h b (fun s pos =>
 bif Nat.blt pos (len (bl s)) then R5 (YH (bl s) pos) (fun c=>Ua c.toNat (fun r=>C8 (Nat.succ pos) fun q=>h.Ei b (some (.iter s q)) fun h=>.val (.tuple #[.bool true,.int .i64 (.ofNat pos),.int .i32 (.ofNat r)]) h) .none) .none
 else .val (.tuple #[.bool false]) h) .none else .none) .none
def AHX{R:Type}(v:A0)(k:Nat→R)(kn:R)(z:R):R:=match v with
 | .map a=>Option.rec (motive:=fun _=>R) kn k a
 | _=>z
def A0E{R:Type}(o:N2)(k:List (A0×A0)→R)(z:R):R:=N2.rec (motive:=fun _=>R) (fun _ _ _ _ _=>z) (fun _ _=>z) k o
def Ym{R:Type}(tag:Nat)(k:A0)(es:List (A0×A0))(y:A0→R)(n z:R):R:=List.rec (motive:=fun _=>R) n (fun e _ ih=>R5 (MA tag k e.1) (fun t=>Bool.rec (motive:=fun _=>R) ih (y e.2) t) z) es
def A2F(tag:Nat)(k v:A0)(es:List (A0×A0)):Option (List (A0×A0)):=List.rec (motive:=fun _=>Option (List (A0×A0))) (some [(k,v)]) (fun e r ih=>R5 (MA tag k e.1) (fun t=>Bool.rec (motive:=fun _=>Option (List (A0×A0))) (R5 ih (fun l=>some (e::l)) none) (some ((e.1,v)::r)) t) none) es
def Uj(ok:Bool)(v:A0)(b:Bool):Option A0:=Bool.rec (motive:=fun _=>Option A0) (some v) (some (.tuple ⟨[v,.bool b]⟩)) ok
def ASM:DO:=fun _ _ _ h=>h.SB (.mp []) fun b h=>.val (.map (some b)) h
def AJw(x:OD):DO:=fun _ lo tm h=>Bi (G4 x lo tm) (fun _ _=>h.SB (.mp []) fun b h=>.val (.map (some b)) h) .none
def AFg(tag:Nat)(z:A0)(ok:Bool)(x k:OD):DR:=fun lo tm=>AHX (G4 x lo tm)
 (fun b=>.read b fun ob=>A0E ob (fun es=>Ym tag (G4 k lo tm) es (fun v=>Uj ok v true) (Uj ok z false) none) none) (A3k (Uj ok z false)) .none
def A5R(tag:Nat)(m k v:OD):DO:=fun _ lo tm h=>AHX (G4 m lo tm) (fun b=>R5 (h.bl.get (path b)) (fun ob=>A0E ob (fun es =>
 bif Nat.beq (fp (G4 k lo tm)) tag then R5 (A2F tag (G4 k lo tm) (G4 v lo tm) es) (fun es=>h.Ei b (some (.mp es)) fun h=>.val undef h) .none else .none) .none) .none) .none .none
def AEb(x:OD):DR:=fun lo tm=>AHX (G4 x lo tm) (fun b=>.read b fun ob=>A0E ob (fun es=>AD .i64 (len es)) none) (.val (.int .i64 (.ofNat 0))) .none
def AW1(tb:List (Nat×Nat))(t:Nat):Option Nat:=List.rec (motive:=fun _=>Option Nat) none (fun e _ ih=>bif Nat.beq e.1 t then some e.2 else ih) tb
def ASt(tb:List (Nat×Nat))(r:OD)(l:List OD):DO:=fun A7 lo tm h=>El (G4 r lo tm) (fun t v=>R5 (AW1 tb t) (fun g=>A7 g (v::XW l lo tm) h) .none) .none .none
def AXc(t:TypeId)(ok:Bool)(z:A0)(v:A0):Option A0:=El v
 (fun u v=>bif Nat.beq u t then(Bool.rec (motive:=fun _=>Option A0) (some v) (some (.tuple ⟨[v,.bool true]⟩)) ok) else Bool.rec (motive:=fun _=>Option A0) none (some (.tuple ⟨[z,.bool false]⟩)) ok)
 (Bool.rec (motive:=fun _=>Option A0) none (some (.tuple ⟨[z,.bool false]⟩)) ok) none
def ADL(t:TypeId)(ok:Bool)(z:A0)(x:OD):DP:=fun lo tm=>AXc t ok z (G4 x lo tm)
def XZ(i:Nat)(x:OD):DP:=fun lo tm=>ACm (G4 x lo tm) (JZ i) none
def Dq(g:FuncId)(l:List OD):DO:=fun A7 lo tm h=>A7 g (XW l lo tm) h
def eI(f:OD)(l:List OD):DO:=fun A7 lo tm h=>AFi (G4 f lo tm) (fun g first cap=>A7 g (first++(XW l lo tm++cap)) h) .none
def Rj(x:OD):DP:=fun lo tm=>Np (G4 x lo tm) (fun _ _ l _=>AD .i64 l) (fun l _=>AD .i64 l) none
def rU(x:OD):DP:=fun lo tm=>Hq (G4 x lo tm) (fun s=>AD .i64 (len (bl s))) none
def AFB(n:Nat):DP:=fun _ _=>some (.int .i64 (.ofNat n))
def A6Y(x:OD):DP:=fun lo tm=>Np (G4 x lo tm) (fun _ _ _ c=>bif T6 c then none else AD .i64 c) (fun _ c=>AD .i64 c) none
def wq{R:Type}(h:Hp)(s:Nat)(v:A0)(k:Nat→List A0→R)(z:R):R:=match v with
 | .slice a l _=>bif Nat.beq l 0 then k 0 [] else Option.rec (motive:=fun _=>R) z (fun a=>R5 (cellsOf h a.block a.off (Nat.mul l s)) (k l) z) a
 | .string str=>bif Nat.beq s 1 then k (len (bl str)) (Bg (bl str)) else z
 | _=>z
def opened(e:TypeId)(s:Nat)(l:List A0)(n:Nat)(h:Hp):N3:=AA h e l (len l) false fun b h=>C8 (C4 s n) fun c=>.val (F8 b 0 n c) h
def GJ(e:TypeId)(s:Nat)(c:T A0)(N n:Nat)(h:Hp):N3:=C8 N fun N=>h.SB (.row c N e false false) fun b h=>C8 (C4 s n) fun k=>.val (F8 b 0 n k) h
def HI(e:TypeId)(s:Nat)(h:Hp)(n:Nat)(new:List A0)(b o l c:Nat):N3 :=
 C8 (Nat.add l n) fun need=>bif Nat.ble need (sure c) then
     (bif Nat.beq n 0 then .val (F8 b o l c) h else Ar h b (Nat.add o (Nat.mul l s)) new (fun h=>.val (F8 b o need c) h) .none)
  else bif Nat.ble need 16777216 then(bif Nat.beq l 0 then
   (bif T6 c then .none else opened e s new need h)
   else bif T6 c then
    Is h b (fun cc m e' _ ro=>bif ro then .none else bif Nat.beq e e'&&Nat.beq (ARM c) (Nat.succ s)&&K9 new&&Nat.beq o 0&&Nat.ble (Nat.mul l s) m then h.Ei b none fun h=>C7 new (Nat.mul l s) cc fun cc=>GJ e s cc (Nat.add (Nat.mul l s) (len new)) need h else .none) .none
    else R5 (cellsOf h b o (Nat.mul l s)) (fun AM=>opened e s (AM++new) need h) .none) else .none
def Nu(e:TypeId)(s:Nat)(h:Hp)(n:Nat)(new:List A0)(l c:Nat):N3:=bif Nat.beq l 0 then bif Nat.beq c 0 then(bif Nat.beq n 0 then .val (.slice none 0 0) h else bif Nat.ble n 16777216 then opened e s new n h else .none) else .none else .none
def oJ(e:TypeId)(s:Nat)(z:List A0)(x y:OD):DO:=fun _ lo tm h=>Hw (G4 y lo tm) (fun n=>bif Nat.ble n 16777216 then Np (G4 x lo tm) (HI e s h n (U9 n z)) (Nu e s h n (U9 n z)) .none else .none) .none
def A3Z(e:TypeId)(s:Nat)(x y:OD):DO:=fun _ lo tm h=>wq h s (G4 y lo tm) (fun n new=>Np (G4 x lo tm) (HI e s h n new) (Nu e s h n new) .none) .none
def YP(o:Option A0)(h:Hp):N3:=R5 o (fun v=>.val v h) .none
def AHV(s:Nat)(x y:OD):DO:=fun _ lo tm h=>wq h s (G4 y lo tm) (fun n new=>Np (G4 x lo tm)
 (fun b o l _=>C8 (Xx n l) fun m=>bif Nat.beq m 0 then YP (AD .i64 0) h else Ar h b o (KK (Nat.mul m s) new) (fun h=>YP (AD .i64 m) h) .none) (fun l _=>bif Nat.beq l 0 then YP (AD .i64 0) h else .none) .none) .none
def AI6(mx:Bool)(l:List A0)(kd:IntKind)(acc:Int):Option A0:=List.rec (motive:=fun _=>Int→Option A0) (fun a=>GA kd a) (fun v _ ih a=>Bi v (fun _ b=>ih (bif (Bool.rec (motive:=fun _=>Bool) (PG b a) (PG a b) mx) then b else a)) none) l acc
def Re(mx:Bool)(l:List OD):DP:=fun lo tm=>List.rec (motive:=fun _=>Option A0) none (fun v r _=>Bi v (fun kd a=>AI6 mx r kd a) none) (XW l lo tm)
def nT(e:TypeId)(x n:OD):DO:=fun _ lo tm h=>Hw (G4 n lo tm) (fun n=>bif Nat.beq n 0||Nat.blt 16777216 n then .none else FE (G4 x lo tm) (fun b o =>
 Is h b (fun c m e' cl _=>bif Nat.beq e e' then bif Nat.ble (Nat.add o n) m then R5 (V6 c o n []) (fun cs=>R5 (bytesOf cs) (fun bs=>h.Ei b (some (.row c m e' cl true)) fun h=>YP (Tm bs) h) .none) .none else .none else .none) .none) .none) .none
def XJ(x:OD):DP:=fun lo tm=>Np (G4 x lo tm) (fun b o l c=>bif Nat.beq l 0 then none else bif Nat.beq c 0 then none else some (C2 b o)) (fun _ _=>some (.pointer none)) none
def tJ(e:TypeId)(n:OD):DO:=fun _ lo tm h=>Bi (G4 n lo tm) (fun kd n=>bif Nat.beq (kN kd) 3 then Kh n (fun n=>bif Nat.ble n 16777216 then h.SB (.row .nil n e false false) fun b h=>C8 n fun n=>C8 (C4 1 n) fun c=>.val (F8 b 0 n c) h else .none) .none else .none) .none
def Vz{R:Type}(v:A0)(k:Nat→R)(z:R):R:=Bi v (fun kd c=>bif Nat.beq (kN kd) 4 then Kh c (fun c=>bif Nat.blt c 256 then k c else z) z else z) z
def GQ(c:Nat)(l:List UInt8)(a:Nat):Nat:=List.rec (motive:=fun _=>Nat→Nat) (fun a=>a) (fun b _ ih a=>bif Nat.beq b.toNat c then C8 (Nat.succ a) ih else ih a) l a
def A7k(x c:OD):DR:=fun lo tm=>ADR (G4 x lo tm) (fun l=>Vz (G4 c lo tm) (fun c=>AD .i64 (GQ c l 0)) none)
def LA(c:Nat)(l:List UInt8)(i:Nat):Int:=List.rec (motive:=fun _=>Nat→Int) (fun _=>.negSucc 0) (fun b _ ih i=>bif Nat.beq b.toNat c then .ofNat i else C8 (Nat.succ i) ih) l i
def AIg(x c:OD):DR:=fun lo tm=>ADR (G4 x lo tm) (fun l=>Vz (G4 c lo tm) (fun c=>GA .i64 (LA c l 0)) none)
def mb(x y:List UInt8):Int:=List.rec (motive:=fun _=>List UInt8→Int) (fun y=>List.rec (motive:=fun _=>Int) (.ofNat 0) (fun _ _ _=>.negSucc 0) y) (fun a _ ih y=>List.rec (motive:=fun _=>Int) (.ofNat 1) (fun b r _=>bif Nat.blt a.toNat b.toNat then .negSucc 0 else bif AKv a b then ih r else .ofNat 1) y) x y
def pV(x y:OD):DP:=fun lo tm=>Hq (G4 x lo tm) (fun a=>Hq (G4 y lo tm) (fun b=>GA .i64 (mb (bl a) (bl b))) none) none
def A5p(x:OD):DO:=fun _ lo tm h=>El (G4 x lo tm) (fun t v=>.panic [{ v:=.iface t v,recovered:=false }] h) .none .none
def bad:CO:=.p fun _ _=>none
variable (P:Program)
def sz(t:TypeId):Nat:=P.cellsOf t
def T3(t:TypeId):Bool:=match P.underlying t with|some (.struct _)|some (.array ..)=>true|_=>false
def Hz(t:TypeId):Option (List A0):=match P.info? t with
 | some ti=>(match ti.zero with
  | some v=>bif (c7 v).all j9&&Nat.beq (len (c7 v)) ti.size then some (c7 v) else none
  | none=>none)
 | none=>none
def mP(l:List (Option (List (Nat×Nat)))):Option (List (Nat×Nat)):=List.rec (motive:=fun _=>Option (List (Nat×Nat))) (some []) (fun x _ ih=>R5 x (fun a=>R5 ih (fun b=>some (a++b)) none) none) l
def R7(t:TypeId):Nat:=match P.underlying t with
 | some .bool=>1 | some (.int _)=>2 | some .string=>3 | _=>4
def leaves:Nat→TypeId→Nat→Option (List (Nat×Nat))
 | 0,_,_=>none
 | d+1,t,off=>match P.underlying t with
  | some (.struct fs)=>bif P.stoodInHeld t then none else mP (fs.toList.map fun f=>bif f.name != "_" && Nat.ble (f.offset+sz P f.type) (sz P t) then leaves d f.type (off+f.offset) else none)
  | some (.array n e)=>bif Nat.blt 0 n&&Nat.ble (n*sz P e) (sz P t) then mP ((List.range' 0 n).map fun i=>leaves d e (off+i*sz P e)) else none
  | _=>bif Nat.beq (sz P t) 1&&Nat.blt (R7 P t) 4 then some [(off,R7 P t)] else none
def Lm(gs:List Nat)(ds:List (Option Tmp))(place:Nat→Option (Nat×Nat)):List (Nat×Operand)→Option (List (Nat×Nat×OD))
 | []=>some []
 | (i,x)::r=>match place i,Lm gs ds place r with
  | some (o,n),some l=>some ((o,n,C3 gs ds x)::l)
  | _,_=>none
structure Cx where
 gs:List Nat
 xs:List (Nat×Nat)
 ms:List (String×Nat×Nat)
def A8L(ms:List (String×Nat×Nat))(n:String):List (Nat×Nat):=match ms with|[]=>[]|e::r=>bif e.1 == n then e.2::A8L r n else A8L r n
def xk(xs:List (Nat×Nat))(g:Nat):Option Nat:=match xs with|[]=>none|p::r=>bif Nat.beq p.1 g then some p.2 else xk r g
def ALZ(k:Nat)(fn:Func)(a:List OD):CO:=match a with
 | [x]=>bif Nat.beq k 0 then .p (R6 x) else bif Nat.beq k 1 then(match (fn.resultTypes[0]?).bind P.underlying with | some (.slice e)=>bif Nat.beq (sz P e) 1 then .g (tJ e x) else bad | _=>bad) else bad
 | [x,y]=>bif Nat.beq k 2 then .r (A7k x y) else bif Nat.beq k 3 then .r (AIg x y) else bif Nat.beq k 4 then .p (pV x y) else bad
 | _=>bad
def A2W(cx:Cx)(ds:List (Option Tmp))(fn:Func)(args:List Operand)(g:FuncId):CO:=match xk cx.xs g with
 | some k=>ALZ P k fn (args.map (C3 cx.gs ds))
 | none=>bif fn.body.isSome&&!(fn.name == "runtime.NumGoroutine") then .g (Dq g (args.map (C3 cx.gs ds))) else bad
def AJI(op:BinOp)(x y:OD):CO:=match op with
 | .add=>.p (V0 AB0 x y) | .sub=>.p (V0 Nv x y) | .mul=>.p (V0 ANm x y) | .and=>.p (V0 fE x y) | .or=>.p (V0 (nn Nat.lor) x y) | .xor=>.p (V0 (nn Nat.xor) x y)
 | .andNot=>.p (V0 Mg x y) | .shl=>.p (Kz AAQ x y) | .shr=>.p (Kz wb x y) | .eql=>.p (V0 AY2 x y) | .neq=>.p (V0 iQ x y) | .lss=>.p (V0 AUd x y)
 | .leq=>.p (V0 ANF x y) | .gtr=>.p (V0 xq x y) | .geq=>.p (V0 AZC x y) | .quo=>.p (V0 A1q x y) | .rem=>.p (V0 jz x y)
def ASu(t:TypeId):Nat:=match P.info? t with
 | some i=>bif i.comparable then R7 P t else 4
 | none=>4
def ADs(t:TypeId):Bool:=Nat.blt (R7 P t) 4
def AIM(t:TypeId):Bool:=(P.underlying t).isSome
def AP2(t:TypeId):Bool:=match P.underlying t with|some (.pointer e)=>!Nat.beq (sz P e) 0|_=>false
def AMO(c:Operand→OD)(op:BinOp)(t:TypeId)(x y:Operand):CO:=match P.underlying t with
 | some (.int _)=>AJI op (c x) (c y)
 | some .string=>.p (Q7 op (c x) (c y))
 | some .bool=>(match op with | .eql=>.p (MH false (c x) (c y)) | .neq=>.p (MH true (c x) (c y)) | _=>bad)
 | some (.struct _) | some (.array ..)=>bif !P.eqGuardType P.depth t then(match leaves P 100 t 0 with | some ls=>(match op with | .eql=>.p (XI ls false (c x) (c y)) | .neq=>.p (XI ls true (c x) (c y)) | _=>bad) | none=>bad) else bad
 | some (.pointer _)=>(match op,y with
  | .eql,.const (.pointer none)=>.p (AB A7U false (c x))
  | .neq,.const (.pointer none)=>.p (AB A7U true (c x))
  | .eql,y=>bif AP2 P t then .p (A9A false (c x) (c y)) else bad
  | .neq,y=>bif AP2 P t then .p (A9A true (c x) (c y)) else bad
  | _,_=>bad)
 | some (.func ..)=>(match op,y with
  | .eql,.const .nilFunc=>.p (AB AIX false (c x))
  | .neq,.const .nilFunc=>.p (AB AIX true (c x))
  | _,_=>bad)
 | some (.slice _)=>(match op,y with
  | .eql,.const (.slice none 0 0)=>.p (AB A4u false (c x))
  | .neq,.const (.slice none 0 0)=>.p (AB A4u true (c x))
  | _,_=>bad)
 | some (.map ..)=>(match op,y with
  | .eql,.const (.map none)=>.p (AB ATn false (c x))
  | .neq,.const (.map none)=>.p (AB ATn true (c x))
  | _,_=>bad)
 | some (.interface _)=>(match op,y with
  | .eql,.const .nilIface=>.p (AB AGX false (c x))
  | .neq,.const .nilIface=>.p (AB AGX true (c x))
  | .eql,y=>.p (AM5 (ASu P) false (c x) (c y))
  | .neq,y=>.p (AM5 (ASu P) true (c x) (c y))
  | _,_=>bad)
 | _=>bad
def A9o(x:OD)(s d:TypeId):CO:=match P.underlying s,P.underlying d with
 | some _,some (.int k)=>.p (Xc k x)
 | some .string,some (.slice e)=>(match P.underlying e with | some (.int .u8)=>.g (HL e x) | _=>bad)
 | some (.slice e),some .string=>(match P.underlying e with | some (.int .u8)=>.r (Ov x) | _=>bad)
 | some .string,some .string=>.p (Yb x)
 | some (.pointer e),some .unsafePointer=>bif Nat.beq (sz P e) 0 then bad else .r (A8a x)
 | some .unsafePointer,some (.pointer e)=>bif Nat.beq (sz P e) 0||Nat.beq e ANH then bad else .r (A64 e (sz P e) x)
 | _,_=>bad
def Sb(c:Operand→OD)(b:Builtin)(args:List Operand)(ts:List TypeId):CO:=match b,args,ts with
 | .len,[x],[t]=>(match P.underlying t with
  | some .string=>.p (rU (c x))
  | some (.slice _)=>.p (Rj (c x))
  | some (.array n _)=>.p (AFB n)
  | some (.map _ _)=>.r (AEb (c x))
  | some (.pointer a)=>(match P.underlying a with | some (.array n _)=>.p (AFB n) | _=>bad)
  | _=>bad)
 | .cap,[x],[t]=>(match P.underlying t with | some (.slice _)=>.p (A6Y (c x)) | _=>bad)
 | .append,[x,y],[t,u]=>(match P.underlying t,P.underlying u with
  | some (.slice e),some (.slice _)=>bif Nat.beq (sz P e) 0 then bad else(match Hz P e with | some _=>bif Nat.ble (P.bytesOf e) 8388608 then .g (A3Z e (sz P e) (c x) (c y)) else bad | none=>bad)
  | some (.slice e),some (.int _)=>bif Nat.beq (sz P e) 0 then bad else(match Hz P e with | some z=>bif Nat.ble (P.bytesOf e) 8388608 then .g (oJ e (sz P e) z (c x) (c y)) else bad | none=>bad)
  | some (.slice e),some .string=>bif Nat.beq (sz P e) 1 then(match Hz P e with | some _=>bif Nat.ble (P.bytesOf e) 8388608 then .g (A3Z e 1 (c x) (c y)) else bad | none=>bad) else bad
  | _,_=>bad)
 | .copy,[x,y],[t,_]=>(match P.underlying t with | some (.slice e)=>(match P.info? e with | some ti=>.g (AHV ti.size (c x) (c y)) | none=>bad) | _=>bad)
 | .min,l,_=>.p (Re false (l.map c))
 | .max,l,_=>.p (Re true (l.map c))
 | .unsafeString,[x,n],t::_=>(match P.underlying t with | some (.pointer e)=>(match P.underlying e with | some (.int .u8)=>bif Nat.beq (sz P e) 1&&!Nat.beq e ANH then .g (nT e (c x) (c n)) else bad | _=>bad) | _=>bad)
 | .unsafeSliceData,[x],_=>.p (XJ (c x))
 | _,_,_=>bad
def OS(cx:Cx)(ds:List (Option Tmp))(o:Oper):CO :=
 let c:=C3 cx.gs ds
 match o.op with
 | .move x | .assign x=>.p (R6 (c x))
 | .pick a b d=>.p (az (c a) (c b) (c d))
 | .alloc e=>(match Hz P e with | some z=>.g (Ik e z z.length) | none=>bad)
 | .box e x=>.g (eN e (c x))
 | .build t parts=>(match Hz P t,P.underlying t with
  | some z,some (.struct fs)=>(match fs.toList.mapM (fun f=>(P.info? f.type).map fun i=>(f.offset,i.size)) with
   | some pl=>(match Lm cx.gs ds (fun i=>pl[i]?) parts.toList with | some l=>.p (T7 z l) | none=>bad)
   | none=>bad)
  | some z,some (.array _ e)=>(match P.info? e with
   | some ie=>(match Lm cx.gs ds (fun i=>some (i*ie.size,ie.size)) parts.toList with | some l=>.p (T7 z l) | none=>bad)
   | none=>bad)
  | _,_=>bad)
 | .buildSlice t n parts=>(match P.underlying t with
  | some (.slice e)=>(match Hz P e,Lm cx.gs ds (fun i=>some (i*sz P e,sz P e)) parts.toList with
   | some z,some l=>bif Nat.ble (n*sz P e) 16777216&&Nat.ble n 16777216 then .g (V2 e n (U9 n z) l) else bad
   | _,_=>bad)
  | _=>bad)
 | .load t a=>bif T3 P t then .r (KB (sz P t) (c a)) else bif AIM P t then .r (Ul (c a)) else bad
 | .store t a x=>bif T3 P t then .g (Y1 (sz P t) (c a) (c x)) else bif AIM P t&&Nat.beq (sz P t) 1 then .g (Ab (c a) (c x)) else bad
 | .nilCheck x=>.p (An (c x))
 | .binOp op t x y _=>AMO P c op t x y
 | .unOp op _ x=>(match op with
  | .not=>.p (ADh (c x))
  | .neg=>.p (ACZ (c x))
  | .xor=>.p (A5Q (c x))
  | _=>bad)
 | .convert s d x=>A9o P (c x) s d
 | .makeInterface t x=>(match P.underlying t with
  | some (.interface _)=>bad
  | some _=>.p (A2h t (c x))
  | none=>bad)
 | .makeFunc g first cap=>(match g with
  | .func f=>.p (A5V f (first.toList.map c) (cap.toList.map c))
  | f=>.p (ARo f (first.toList.map c) (cap.toList.map c)))
 | .makeSlice t n m=>(match P.underlying t with
  | some (.slice e)=>(match Hz P e with | some z=>.g (qw e z (P.bytesOf e) (c n) (c m)) | none=>bad)
  | _=>bad)
 | .slice t x l h m=>(match P.underlying t with
  | some (.slice e)=>bif AIM P e then .p (Ii (sz P e) (c x) (l.map c) (h.map c) (m.map c)) else bad
  | some .string=>(match m with | none=>.p (Ll (c x) (l.map c) (h.map c)) | some _=>bad)
  | some (.array n e)=>bif AIM P e&&Nat.ble n 16777216 then .p (vO n (sz P e) (c x) (l.map c) (h.map c) (m.map c)) else bad
  | _=>bad)
 | .fieldAddr s x i=>(match P.underlying s with
  | some (.struct fs)=>(match fs[i]? with | some f=>bif !AIM P f.type||Nat.beq (sz P f.type) 0 then bad else .p (iJ f.offset (c x)) | none=>bad)
  | _=>bad)
 | .field s x i=>(match P.underlying s with
  | some (.struct fs)=>(match fs[i]? with | some f=>bif T3 P f.type then .p (AEj f.offset (sz P f.type) (c x)) else bif AIM P f.type then .p (mV f.offset (c x)) else bad | none=>bad)
  | _=>bad)
 | .indexAddr t x i=>(match P.underlying t with
  | some (.array n e)=>bif AIM P e then .p (QK n (sz P e) (c x) (c i)) else bad
  | some (.slice e)=>bif AIM P e then .p (Gi (sz P e) (c x) (c i)) else bad
  | _=>bad)
 | .index t x i=>(match P.underlying t with
  | some (.array n e)=>bif T3 P e then .p (AO4 n (sz P e) (c x) (c i)) else bif AIM P e&&Nat.beq (sz P e) 1 then .p (AOK n (c x) (c i)) else bad
  | some .string=>.p (Mv (c x) (c i))
  | _=>bad)
 | .range t x=>(match P.underlying t with
  | some .string=>.g (AA6 (c x))
  | _=>bad)
 | .next x true=>.g (AAP (c x))
 | .typeAssert x _ t ok=>(match P.underlying t,(P.info? t).bind (·.zero) with
  | some (.interface _),_=>bad
  | some _,some z=>bif (c7 z).all j9 then .p (ADL t ok z (c x)) else bad
  | _,_=>bad)
 | .extract x i=>.p (XZ i (c x))
 | .panic x=>.g (A5p (c x))
 | .call cl=>(match cl.callee with
  | .value (.func g)=>(match P.funcs[g]? with | some fn=>A2W P cx ds fn cl.args.toList g | none=>bad)
  | .value f=>.g (eI (c f) (cl.args.toList.map c))
  | .builtin b=>Sb P c b cl.args.toList cl.argTypes.toList
  | .invoke r n=>.g (ASt (A8L cx.ms n) (c r) (cl.args.toList.map c)))
 | .makeMap t r=>(match r with
  | none=>.g ASM
  | some x=>(match P.underlying t with | some (.map _ _)=>.g (AJw (c x)) | _=>bad))
 | .lookup t x k ok=>(match P.underlying t with
  | some (.map kt et)=>(match (P.info? et).bind (·.zero) with
   | some z=>bif (c7 z).all j9&&ADs P kt then .r (AFg (R7 P kt) z ok (c x) (c k)) else bad
   | none=>bad)
  | _=>bad)
 | .mapUpdate t m k v=>(match P.underlying t with | some (.map kt _)=>bif ADs P kt then .g (A5R (R7 P kt) (c m) (c k) (c v)) else bad | _=>bad)
 | .insert t m k v=>(match P.underlying t with | some (.map kt _)=>bif ADs P kt then .g (A5R (R7 P kt) (c m) (c k) (c v)) else bad | _=>bad)
 | _=>bad
def bit(m t:Nat):Bool:=Nat.beq (Nat.mod (Nat.div m (Nat.pow 2 t)) 2) 1
def CZ(live:Nat)(t:Tmp):Bool:=bit live t
def Bf(ds:List (Option Tmp))(t:Tmp)(i:Nat):Bool:=match idx ds t with|some j=>Nat.beq i j|none=>false
def CP(live:Nat)(ds:List (Option Tmp))(lo:List A0):List (Option Tmp)→Nat→T A0→T A0
 | [],_,tm=>tm
 | some t::r,i,tm=>bif CZ live t&&Bf ds t i then CP live ds lo r (i+1) (T.set (path t) tm (some (nth lo i))) else CP live ds lo r (i+1) tm
 | none::r,i,tm=>CP live ds lo r (i+1) tm
abbrev Fl:=Nat×List (Option Tmp)
def Fl.go(fl:Fl)(lo:List A0)(tm:T A0):T A0:=CP fl.1 fl.2 lo fl.2 0 tm
inductive CL where
 | nil
 | flush (i:Nat) (p:List Bool) (r:CL)
 | E3 (f:DP) (r:CL)
 | BX (f:DR) (r:CL)
 | JX (fl:Fl) (f:DO) (r:CL)
 | guard (fl:Fl) (g:OD) (want:Bool) (o:CO) (r:CL)
 | AR7 (f:OD) (l:List OD) (r:CL)
 | bad
abbrev DL:=Call→List A0→T A0→Df→Hp→N7
def A5J(tm:T A0)(df:Df)(k:A0→Hp→N7)(r:N3):N7:=N3.rec (motive:=fun _=>N7) .none k (fun c h=>.ok (.panic c) tm df h) r
def AYa:DL:=fun _ _ tm df h=>.ok .normal tm df h
def ATx(i:Nat)(p:List Bool)(_:CL)(r:DL):DL:=fun A7 lo tm df h=>T.Gy p tm (some (nth lo i)) fun tm=>r A7 lo tm df h
def AN7(f:DP)(_:CL)(r:DL):DL:=fun A7 lo tm df h=>R5 (f lo tm) (fun v=>r A7 (v::lo) tm df h) .none
def ANB(h:Hp)(p:PR)(k:A0→N7):N7:=PR.rec (motive:=fun _=>N7) .none k (fun b g=>R5 (h.bl.get (path b)) (fun o=>R5 (g o) k .none) .none) p
def AJg(f:DR)(_:CL)(r:DL):DL:=fun A7 lo tm df h=>ANB h (f lo tm) (fun v=>r A7 (v::lo) tm df h)
def AJ5(fl:Fl)(f:DO)(_:CL)(r:DL):DL:=fun A7 lo tm df h=>A5J (fl.go lo tm) df (fun v h=>r A7 (v::lo) tm df h) (f A7 lo tm h)
def AUJ(fl:Fl)(o:CO)(r:DL):DL:=CO.rec (motive:=fun _=>DL) (fun f=>AN7 f .nil r) (fun f=>AJg f .nil r) (fun f=>AJ5 fl f .nil r) o
def ATT(fl:Fl)(g:OD)(want:Bool)(o:CO)(_:CL)(r:DL):DL:=fun A7 lo tm df h=>AP (G4 g lo tm) want (AUJ fl o r A7 lo tm df h) (r A7 (undef::lo) tm df h) .none
def AXX(f:OD)(l:List OD)(_:CL)(r:DL):DL:=fun A7 lo tm df h=>AFi (G4 f lo tm) (fun g first cap=>r A7 (undef::lo) tm ((g,first++(XW l lo tm++cap))::df) h) .none
def AYH:DL:=fun _ _ _ _ _=>.none
def Hb(l:CL):DL:=CL.rec (motive:=fun _=>DL) AYa ATx AN7 AJg AJ5 ATT AXX AYH l
inductive CD where
 | nil
 | flush (i:Nat) (p:List Bool) (r:CD)
 | E3 (f:DP) (r:CD)
 | BX (k:Nat) (f:DR) (r:CD)
 | JX (k:Nat) (bar:Bool) (own:List (Nat×Bool)) (f:DO) (r:CD)
 | NO (g:OD) (want:Bool) (f:DP) (r:CD)
 | uM (k:Nat) (g:OD) (want:Bool) (f:DR) (r:CD)
 | SN (k:Nat) (bar:Bool) (own:List (Nat×Bool)) (g:OD) (want:Bool) (f:DO) (r:CD)
 | bad
structure Dn where
 ns:List (Nat×Nat)
 rs:List (Nat×Nat)
 ws:List (Nat×Nat)
def owner(ns:List (Nat×Nat))(b:Nat):Option Nat:=List.rec (motive:=fun _=>Option Nat) none (fun n _ ih=>bif Nat.ble n.1 b then some n.2 else ih) ns
def TI(own:List (Nat×Bool))(j:Nat):Bool:=List.rec (motive:=fun _=>Bool) false (fun p _ ih=>bif Nat.beq p.1 j then p.2 else ih) own
def By(cm:Nat→Nat→Bool)(k b:Nat)(l:List (Nat×Nat)):Bool:=List.rec (motive:=fun _=>Bool) true (fun p _ ih=>bif Nat.beq p.2 b then(bif cm p.1 k then ih else false) else ih) l
def allowed(cm:Nat→Nat→Bool)(k:Nat)(bar:Bool)(own:List (Nat×Bool))(d:Dn)(log:List Nat):Bool:=List.rec (motive:=fun _=>Bool) true (fun b _ ih=>bif Option.rec (motive:=fun _=>Bool) bar (TI own) (owner d.ns b) then(bif By cm k b d.rs then ih else false) else false) log
def wrote(k:Nat)(log:List Nat)(ws:List (Nat×Nat)):List (Nat×Nat):=List.rec (motive:=fun _=>List (Nat×Nat)) ws (fun b _ ih=>(k,b)::ih) log
abbrev DD:=(Nat→Nat→Bool)→Call→Dn→List A0→T A0→Df→Hp→N7
def below(base:Nat)(log:List Nat)(AM:List Nat):List Nat:=List.rec (motive:=fun _=>List Nat) AM (fun b _ ih=>bif Nat.blt b base then b::ih else ih) log
def B8(h:Hp)(base:Nat)(log:List Nat):Hp:=⟨h.bl,h.A6,base,log⟩
def AYc:DD:=fun _ _ _ _ tm df h=>.ok .normal tm df h
def ATr(i:Nat)(p:List Bool)(_:CD)(r:DD):DD:=fun cm A7 d lo tm df h=>T.Gy p tm (some (nth lo i)) fun tm=>r cm A7 d lo tm df h
def ALm(f:DP)(_:CD)(r:DD):DD:=fun cm A7 d lo tm df h=>R5 (f lo tm) (fun v=>r cm A7 d (v::lo) tm df h) .none
def ALq(k:Nat)(f:DR)(_:CD)(r:DD):DD:=fun cm A7 d lo tm df h=>PR.rec (motive:=fun _=>N7) .none (fun v=>r cm A7 d (v::lo) tm df h)
 (fun b g=>bif By cm k b d.ws then R5 (h.bl.get (path b)) (fun o=>R5 (g o) (fun v=>r cm A7 ⟨d.ns,(k,b)::d.rs,d.ws⟩ (v::lo) tm df h) .none) .none else .none) (f lo tm)
def ABb(k:A0→Hp→N7)(r:N3):N7:=N3.rec (motive:=fun _=>N7) .none k (fun _ _=>.none) r
def AJz(n:Nat)(bar:Bool)(own:List (Nat×Bool))(f:DO)(_:CD)(r:DD):DD:=fun cm A7 d lo tm df h =>
 ABb (fun v h1=>bif allowed cm n bar own d h1.log then r cm A7 ⟨(h.A6,n)::d.ns,d.rs,wrote n h1.log d.ws⟩ (v::lo) tm df (B8 h1 h.base (below h.base h1.log h.log)) else .none) (f A7 lo tm (B8 h h.A6 []))
def AC4(g:OD)(want:Bool)(x:DD)(r:DD):DD:=fun cm A7 d lo tm df h=>AP (G4 g lo tm) want (x cm A7 d lo tm df h) (r cm A7 d (undef::lo) tm df h) .none
def AO6(g:OD)(want:Bool)(f:DP)(c:CD)(r:DD):DD:=AC4 g want (ALm f c r) r
def AQ2(k:Nat)(g:OD)(want:Bool)(f:DR)(c:CD)(r:DD):DD:=AC4 g want (ALq k f c r) r
def APj(n:Nat)(bar:Bool)(own:List (Nat×Bool))(g:OD)(want:Bool)(f:DO)(c:CD)(r:DD):DD:=AC4 g want (AJz n bar own f c r) r
def AYA:DD:=fun _ _ _ _ _ _ _=>.none
def JO(l:CD):DD:=CD.rec (motive:=fun _=>DD) AYc ATr ALm ALq AJz AO6 AQ2 APj AYA l
def Ed(live:Nat)(ds:List (Option Tmp)):List (Option Tmp)→Nat→CL
 | [],_=>.nil
 | some t::r,i=>bif CZ live t&&Bf ds t i then .flush i (path t) (Ed live ds r (i+1)) else Ed live ds r (i+1)
 | none::r,i=>Ed live ds r (i+1)
def Gu(nt:Nat)(d:Option Tmp):Bool:=match d with|some d=>Nat.blt d nt|none=>true
def A52(fl:Fl)(o:CO)(r:CL):CL:=match o with|.p f=>.E3 f r|.r f=>.BX f r|.g f=>.JX fl f r
def Lz(cx:Cx)(live:Nat)(nt:Nat)(ops:Array Oper):List Oper→List (Option Tmp)→CL
 | [],ds=>Ed live ds ds 0
 | o::r,ds=>bif Gu nt o.dst then(match o.guard with
  | none=>(match o.op with
   | .defer cl=>(match cl.callee with
    | .value f=>.AR7 (C3 cx.gs ds f) (cl.args.toList.map (C3 cx.gs ds)) (Lz cx live nt ops r (o.dst::ds))
    | _=>.bad)
   | _=>A52 (live,ds) (OS P cx ds o) (Lz cx live nt ops r (o.dst::ds)))
  | some (j,want)=>match (ops[j]?).bind (·.dst) with
   | some d=>.guard (live,ds) (C3 cx.gs ds (.tmp d)) want (OS P cx ds o) (Lz cx live nt ops r (o.dst::ds))
   | none=>.bad) else .bad
def Eb(o:Oper):Bool:=match o.op with
 | .load .. | .move _ | .assign _ | .pick .. | .build .. | .nilCheck _ | .unOp .. | .makeInterface .. | .makeFunc .. | .fieldAddr .. | .field .. | .indexAddr .. | .index .. | .extract .. | .slice .. | .binOp ..=>false
 | .call { callee:=.builtin .len,.. }=>false
 | _=>true
def cB(o:Oper):Bool:=match o.op with|.buildSlice ..|.box ..|.alloc _=>true|_=>false
def Oo(o:Oper):Bool:=Eb o&&!cB o
def Yp(an:T Nat)(i:Nat):Nat:=(an.get (path i)).getD 0
def wV(an:T Nat)(l:List Edge)(s:Nat):Nat:=match l with
 | []=>s
 | e::r=>bif Region.binds .any e then C8 (Nat.lor s (Nat.lor (Nat.pow 2 e.on) (Yp an e.on))) (wV an r) else wV an r s
def Rv(l:List Oper)(i:Nat)(an:T Nat):T Nat:=match l with
 | []=>an
 | o::r=>C8 (wV an o.after.toList 0) fun m=>T.Gy (path i) an (some m) (Rv r (Nat.succ i))
def tmpsOf(l:List Operand):List Tmp:=l.filterMap fun|.tmp t=>some t|_=>none
def AKz(ops:Array Oper)(o:Oper):List Tmp:=match o.guard with|some (g,_)=>((ops[g]?).bind (·.dst)).toList|none=>[]
def looks(ops:Array Oper)(o:Oper):List Tmp:=tmpsOf o.op.operands.toList++AKz ops o
def comp(an:T Nat)(i j:Nat):Bool:=bit (Yp an j) i||bit (Yp an i) j
def Wb(w:T (List Nat))(t:Tmp):List Nat:=(w.get (path t)).getD []
def ARg(l:List Oper)(i:Nat)(w:T (List Nat)):T (List Nat):=match l with
 | []=>w
 | o::r=>match o.dst with
  | none=>ARg r (Nat.succ i) w
  | some d=>T.Gy (path d) w (some (i::Wb w d)) (ARg r (Nat.succ i))
def ACD(an:T Nat)(w:T (List Nat))(j:Nat)(t:Tmp):Bool:=(Wb w t).all fun i=>Nat.beq i j||comp an i j
def lS(ops:Array Oper)(an:T Nat)(w:T (List Nat)):List Oper→Nat→Bool
 | [],_=>true
 | o::r,j=>o.after.toList.all (fun e=>!Region.binds .any e||Nat.blt e.on j)&&(match o.op with | .defer _ | .select ..=>false | _=>true) &&
  (o.dst.toList++looks ops o).all (ACD an w j)&&lS ops an w r (Nat.succ j)
def A2l(ops:Array Oper)(an:T Nat):Bool:=lS ops an (ARg ops.toList 0 .nil) ops.toList 0
def WW(an:T Nat)(k:Nat):List Oper→Nat→Bool
 | [],_=>true
 | o::r,i=>(Nat.beq i k||!Oo o||comp an i k)&&WW an k r (Nat.succ i)
def AKG(an:T Nat)(j k:Nat):List Oper→Nat→Bool
 | [],_=>true
 | o::r,i=>(Nat.beq i k||!Oo o||comp an i k||!(Nat.beq i j||bit (Yp an i) j))&&AKG an j k r (Nat.succ i)
def ZR(ops:List Oper)(an:T Nat)(k:Nat):List (Nat×Bool):=(List.range k).map fun j=>(j,bit (Yp an k) j&&AKG an j k ops 0)
def Me(live:Nat)(ds:List (Option Tmp)):List (Option Tmp)→Nat→CD
 | [],_=>.nil
 | some t::r,i=>bif CZ live t&&Bf ds t i then .flush i (path t) (Me live ds r (i+1)) else Me live ds r (i+1)
 | none::r,i=>Me live ds r (i+1)
def AE2(ops:Array Oper)(an:T Nat)(k:Nat)(tch:Bool)(o:CO)(r:CD):CD:=match o with
 | .p f=>.E3 f r
 | .r f=>.BX k f r
 | .g f=>bif tch then .JX k (WW an k ops.toList 0) (ZR ops.toList an k) f r else .bad
def A1i(ops:Array Oper)(an:T Nat)(k:Nat)(tch:Bool)(g:OD)(want:Bool)(o:CO)(r:CD):CD:=match o with
 | .p f=>.NO g want f r
 | .r f=>.uM k g want f r
 | .g f=>bif tch then .SN k (WW an k ops.toList 0) (ZR ops.toList an k) g want f r else .bad
def AZ(cx:Cx)(live:Nat)(nt:Nat)(ops:Array Oper)(an:T Nat):List Oper→Nat→List (Option Tmp)→CD
 | [],_,ds=>Me live ds ds 0
 | o::r,k,ds=>bif Gu nt o.dst then(match o.guard with
  | none=>AE2 ops an k (Eb o) (OS P cx ds o) (AZ cx live nt ops an r (k+1) (o.dst::ds))
  | some (j,want)=>match (ops[j]?).bind (·.dst) with
   | some d=>A1i ops an k (Eb o) (C3 cx.gs ds (.tmp d)) want (OS P cx ds o) (AZ cx live nt ops an r (k+1) (o.dst::ds))
   | none=>.bad) else .bad
inductive CC where
 | skip | region (l:CL) | draw (an:T Nat) (l:CD) | seq (a b:CC) | cond (c:OD) (a b:CC) | block (id:Nat) (b:CC) | loop (b:CC) | scope (b:CC) | exit (id:Nat) | ret | bad
abbrev D:=Call→T A0→Df→Hp→N7
def Lt(r:N7)(kn:T A0→Df→Hp→N7)(ke:Nat→T A0→Df→Hp→N7):N7:=N7.rec (motive:=fun _=>N7) .none (fun e tm df h=>Ex.rec (motive:=fun _=>N7) (kn tm df h) (fun i=>ke i tm df h) (.ok .ret tm df h) (fun c=>.ok (.panic c) tm df h) e) r
def AVg:D:=fun _ tm df h=>.ok .normal tm df h
def AZ7(l:CL):D:=fun A7 tm df h=>Hb l A7 [] tm df h
def AVb(an:T Nat)(l:CD):D:=fun A7 tm df h=>JO l (comp an) A7 ⟨[],[],[]⟩ [] tm df h
def AYd(_ _:CC)(a b:D):D:=fun A7 tm df h=>Lt (a A7 tm df h) (b A7) (fun i tm df h=>.ok (.exit i) tm df h)
def AVz(c:OD)(_ _:CC)(a b:D):D:=fun A7 tm df h=>Cq (G4 c [] tm) (fun b'=>Bool.rec (motive:=fun _=>N7) (b A7 tm df h) (a A7 tm df h) b') .none
def ATA(id:Nat)(_:CC)(a:D):D:=fun A7 tm df h=>Lt (a A7 tm df h) (fun tm df h=>.ok .normal tm df h) (fun i tm df h=>bif Nat.beq i id then .ok .normal tm df h else .ok (.exit i) tm df h)
def pf(a:D)(n:Nat):D:=Nat.rec (motive:=fun _=>D) (fun _ _ _ _=>.none) (fun _ ih A7 tm df h=>Lt (a A7 tm df h) (ih A7) (fun i tm df h=>.ok (.exit i) tm df h)) n
def AV6(_:CC)(a:D):D:=pf a 1000000
def AU3(_:CC)(a:D):D:=a
def AWq(id:Nat):D:=fun _ tm df h=>.ok (.exit id) tm df h
def AYu:D:=fun _ tm df h=>.ok .ret tm df h
def AYT:D:=fun _ _ _ _=>.none
def Dx(c:CC):D:=CC.rec (motive:=fun _=>D) AVg AZ7 AVb AYd AVz ATA AV6 AU3 AWq AYu AYT c
def AXa(m t:Nat):Nat:=Nat.lor m (Nat.pow 2 t)
def xx(l:List Tmp)(m:Nat):Nat:=match l with|[]=>m|t::r=>C8 (AXa m t) (xx r)
def ABP(l:List Tmp)(w m:Nat):Nat:=match l with|[]=>m|t::r=>bif bit w t then ABP r w m else C8 (AXa m t) (ABP r w)
def A4m(ops:List Oper)(w m:Nat):Nat:=match ops with
 | []=>m
 | o::r=>C8 (ABP (tmpsOf o.op.operands.toList) w m) fun m=>C8 (xx o.dst.toList w) fun w=>A4m r w m
def reads(c:Code)(m:Nat):Nat:=match c with
 | .region _ ops _=>A4m ops.toList 0 m
 | .seq a b=>C8 (reads a m) (reads b)
 | .cond c x y=>C8 (xx (tmpsOf [c]) m) fun m=>C8 (reads x m) (reads y)
 | .block _ b=>reads b m
 | .loop b=>reads b m
 | .scope b=>reads b m
 | _=>m
def A2d(l:List ResultVar):List Tmp:=l.map fun|.tmp t=>t|.cell a _=>a
def Cb(cx:Cx)(live:Nat)(nt:Nat):Code→CC
 | .skip=>.skip
 | .region _ ops draw=>bif draw then(bif A2l ops (Rv ops.toList 0 .nil) then .draw (Rv ops.toList 0 .nil) (AZ P cx live nt ops (Rv ops.toList 0 .nil) ops.toList 0 []) else .bad) else .region (Lz P cx live nt ops ops.toList [])
 | .seq a b=>.seq (Cb cx live nt a) (Cb cx live nt b)
 | .cond c x y=>.cond (C3 cx.gs [] c) (Cb cx live nt x) (Cb cx live nt y)
 | .block id b=>.block id (Cb cx live nt b)
 | .loop b=>.loop (Cb cx live nt b)
 | .exit id=>.exit id
 | .ret=>.ret
 | _=>.bad
inductive CR where
 | tmp (p:List Bool) | cell (agg:Bool) (n:Nat) (p:List Bool)
inductive CF where
 | mk (nt na:Nat) (b:CC) (r:List CR) | bad
def Jh(r:CR)(tm:T A0)(h:Hp):Option A0:=CR.rec (motive:=fun _=>Option A0) (fun p=>some (Qd (tm.get p)))
 (fun agg m p=>FE (Qd (tm.get p)) (fun b o=>Is h b (fun c n _ _ _=>Bool.rec (motive:=fun _=>Option A0) (bif Nat.blt o n then c.get (path o) else none) (bif Nat.ble (Nat.add o m) n then R5 (V6 c o m []) (fun l=>some (.agg ⟨l⟩)) none else none) agg) none) none) r
def AJX(l:List CR)(tm:T A0)(h:Hp):Option (List A0):=List.rec (motive:=fun _=>Option (List A0)) (some []) (fun r _ ih=>R5 (Jh r tm h) (fun v=>R5 ih (fun l=>some (v::l)) none) none) l
def ud(l:List CR)(tm:T A0)(h:Hp):N3:=R5 (AJX l tm h) (fun vs=>List.rec (motive:=fun _=>N3) (.val (.tuple ⟨[]⟩) h) (fun v r _=>List.rec (motive:=fun _=>N3) (.val v h) (fun _ _ _=>.val (.tuple ⟨vs⟩) h) r) vs) .none
def Jm:List ResultVar→List CR
 | []=>[]
 | .tmp t::r=>.tmp (path t)::Jm r
 | .cell a t::r=>.cell (T3 P t) (sz P t) (path a)::Jm r
def Fj(live na:Nat):Bool:=(List.range na).all (bit live)
def Tn(l:List ResultVar):Bool:=l.all fun|.tmp _=>true|.cell _ t=>AIM P t
def cF(cx:Cx)(f:FuncId):CF:=match P.funcs[f]? with
 | some fn=>match fn.body with
  | some c=>bif fn.name == "runtime.NumGoroutine" then .bad else C8 (reads c (xx (A2d fn.results.toList) (Nat.sub (Nat.pow 2 (fn.params.size+fn.nfree)) 1))) fun live =>
   bif Fj live (fn.params.size+fn.nfree)&&Tn P fn.results.toList then .mk fn.ntmps (fn.params.size+fn.nfree) (Cb P cx live fn.ntmps c) (Jm P fn.results.toList) else .bad
  | none=>.bad
 | none=>.bad
def WT{R:Type}(l:List A0)(i:Nat)(t:T A0)(k:T A0→R):R:=List.rec (motive:=fun _=>Nat→T A0→R) (fun _ t=>k t) (fun v _ ih i t=>T.Gy (path i) t (some v) fun t=>ih (Nat.succ i) t) l i t
inductive Md where
 | ret | Jj (c:List PanicEntry)
def AQF(c:List PanicEntry):Md:=match c with
 | e::r=>bif e.recovered then(match r.dropWhile (fun e=>!e.goexit) with | []=>.ret | l=>.Jj l) else .Jj (e::r)
 | []=>.Jj []
inductive uW where
 | none
 | ok (m:Md) (h:Hp)
abbrev C9:=FuncId→List A0→Md→Hp→uW
def leave(cd:C9)(rs:List CR)(df:Df)(tm:T A0)(m:Md)(h:Hp):N3 :=
 List.rec (motive:=fun _=>Md→Hp→N3) (fun m h=>Md.rec (motive:=fun _=>N3) (ud rs tm h) (fun c=>.panic c h) m)
  (fun d _ ih m h=>uW.rec (motive:=fun _=>N3) .none ih (cd d.1 d.2 m h)) df m h
def G8(cf:CF)(A7:Call)(cd:C9)(args:List A0)(h:Hp):N3:=CF.rec (motive:=fun _=>N3)
 (fun nt na b r=>bif Nat.beq (len args) na&&Nat.ble na nt then WT args 0 .nil fun tm=>N7.rec (motive:=fun _=>N3) .none (fun e tm df h=>Ex.rec (motive:=fun _=>N3) (leave cd r df tm .ret h) (fun _=>.none) (leave cd r df tm .ret h) (fun c=>leave cd r df tm (.Jj c) h) e) (Dx b A7 tm [] h) else .none) .none cf
inductive CS where
 | plain (c:CC) | iu (d:Option (List Bool)) | seq (a b:CS) | cond (c:OD) (a b:CS)
inductive Ee where
 | none
 | ok (e:Ex) (tm:T A0) (m:Md) (h:Hp)
abbrev DS:=Call→T A0→Md→Hp→Ee
def XP(c:CC):DS:=fun A7 tm m h=>N7.rec (motive:=fun _=>Ee) .none (fun e tm df h=>List.rec (motive:=fun _=>Ee) (.ok e tm m h) (fun _ _ _=>.none) df) (Dx c A7 tm [] h)
def UF(m:Md):A0×Md:=match m with
 | .Jj (e::r)=>bif !e.recovered&&!e.goexit then(e.v,.Jj ({ v:=e.v,recovered:=true }::r)) else(.nilIface,m)
 | m=>(.nilIface,m)
def ATs(d:Option (List Bool)):DS:=fun _ tm m h=>Option.rec (motive:=fun _=>Ee) (.ok .normal tm (UF m).2 h) (fun p=>T.Gy p tm (some (UF m).1) fun tm=>.ok .normal tm (UF m).2 h) d
def AY0(_ _:CS)(a b:DS):DS:=fun A7 tm m h=>Ee.rec (motive:=fun _=>Ee) .none (fun e tm m h=>Ex.rec (motive:=fun _=>Ee) (b A7 tm m h) (fun i=>.ok (.exit i) tm m h) (.ok .ret tm m h) (fun c=>.ok (.panic c) tm m h) e) (a A7 tm m h)
def AWe(c:OD)(_ _:CS)(a b:DS):DS:=fun A7 tm m h=>Cq (G4 c [] tm) (fun t=>Bool.rec (motive:=fun _=>Ee) (b A7 tm m h) (a A7 tm m h) t) .none
def Rz(c:CS):DS:=CS.rec (motive:=fun _=>DS) XP ATs AY0 AWe c
def DQ(o:Oper):Bool:=match o.op with|.call { callee:=.builtin .recover,.. }=>true|_=>false
def Bp(cx:Cx)(nt:Nat)(all:Nat):List Oper→CS
 | []=>.plain .skip
 | o::r=>bif DQ o then(bif (match o.guard with | none=>Gu nt o.dst | some _=>false) then .seq (.iu (o.dst.map path)) (Bp cx nt all r) else .plain .bad)
  else .seq (.plain (.region (Lz P cx all nt #[o] [o] []))) (Bp cx nt all r)
def cS(cx:Cx)(all:Nat)(nt:Nat):Code→CS
 | .seq a b=>.seq (cS cx all nt a) (cS cx all nt b)
 | .cond c x y=>.cond (C3 cx.gs [] c) (cS cx all nt x) (cS cx all nt y)
 | .region id ops draw=>bif ops.toList.any DQ then(bif draw||ops.toList.any (fun o=>o.guard.isSome) then .plain .bad else Bp P cx nt all ops.toList) else .plain (Cb P cx all nt (.region id ops draw))
 | c=>.plain (Cb P cx all nt c)
inductive AWF where
 | mk (nt na:Nat) (b:CS) | bad
def ACH(cx:Cx)(f:FuncId):AWF:=match P.funcs[f]? with
 | some fn=>match fn.body with
  | some c=>bif fn.results.isEmpty&&!(fn.name == "runtime.NumGoroutine")&&Fj (Nat.sub (Nat.pow 2 fn.ntmps) 1) fn.ntmps then .mk fn.ntmps (fn.params.size+fn.nfree) (cS P cx (Nat.sub (Nat.pow 2 fn.ntmps) 1) fn.ntmps c) else .bad
  | none=>.bad
 | none=>.bad
def kz(m:Md)(c:List PanicEntry):Md:=match m with
 | .Jj AM=>.Jj (c++AM)
 | .ret=>.Jj c
def MF(m:Md):Md:=match m with|.Jj c=>AQF c|.ret=>.ret
def Xu(cf:AWF)(A7:Call)(args:List A0)(m:Md)(h:Hp):uW:=AWF.rec (motive:=fun _=>uW)
 (fun nt na b=>bif Nat.beq (len args) na&&Nat.ble na nt then WT args 0 .nil fun tm=>Ee.rec (motive:=fun _=>uW) .none (fun e _ m h=>Ex.rec (motive:=fun _=>uW) (.ok (MF m) h) (fun _=>.none) (.ok (MF m) h) (fun c=>.ok (kz m c) h) e) (Rz b A7 tm m h) else .none) .none cf
def gm(cx:Cx)(n:Nat):Call:=Nat.rec (motive:=fun _=>Call) (fun _ _ _=>.none) (fun _ ih f args h=>G8 (cF P cx f) ih (fun g=>Xu (ACH P cx g) ih) args h) n
end
theorem Bh(v:A0)(k:IntKind→Int→R)(z:R):(∃kd n,v=.int kd n∧Bi v k z=k kd n)∨Bi v k z=z:=by cases v<;>first|exact .inr rfl|exact .inl ⟨_,_,rfl,rfl⟩
theorem Lr(v:A0)(k:Bool→R)(z:R):(∃b,v=.bool b∧Cq v k z=k b)∨Cq v k z=z:=by cases v<;>first|exact .inr rfl|exact .inl ⟨_,rfl,rfl⟩
theorem Ft(v:A0)(k:ByteArray→R)(z:R):(∃s,v=.string s∧Hq v k z=k s)∨Hq v k z=z:=by cases v<;>first|exact .inr rfl|exact .inl ⟨_,rfl,rfl⟩
theorem Ha(v:A0)(k:Nat→Nat→R)(z:R):(∃a,v=.pointer (some a)∧FE v k z=k a.block a.off)∨FE v k z=z:=by
 cases v with
 | pointer a=>cases a with
  | none=>exact .inr rfl
  | some a=>exact .inl ⟨a,rfl,rfl⟩
 | _=>exact .inr rfl
theorem Wv(v:A0)(k:Nat→Nat→Nat→Nat→R)(kn:Nat→Nat→R)(z:R):
 (∃a l c,v=.slice (some a) l c∧Np v k kn z=k a.block a.off l c)∨(∃l c,v=.slice none l c∧Np v k kn z=kn l c)∨Np v k kn z=z:=by
 cases v with
 | slice a l c=>cases a with
  | none=>exact .inr (.inl ⟨l,c,rfl,rfl⟩)
  | some a=>exact .inl ⟨a,l,c,rfl,rfl⟩
 | _=>exact .inr (.inr rfl)
theorem Pz(v:A0)(k:List A0→R)(z:R):(∃a,v=.agg a∧Oh v k z=k a.toList)∨Oh v k z=z:=by cases v<;>first|exact .inr rfl|exact .inl ⟨_,rfl,rfl⟩
theorem AOO(v:A0)(k:List A0→R)(z:R):(∃a,v=.tuple a∧ACm v k z=k a.toList)∨ACm v k z=z:=by cases v<;>first|exact .inr rfl|exact .inl ⟨_,rfl,rfl⟩
theorem fy(v:A0)(k:TypeId→A0→R)(kn z:R):
 (∃t x,v=.iface t x∧El v k kn z=k t x)∨(v=.nilIface∧El v k kn z=kn)∨El v k kn z=z:=by
 cases v<;>first|exact .inr (.inr rfl)|exact .inl ⟨_,_,rfl,rfl⟩|exact .inr (.inl ⟨rfl,rfl⟩)
theorem ABu(v:A0)(k:FuncId→List A0→List A0→R)(z:R):
 (∃g a c,v=.func (.func g) a c∧AFi v k z=k g a.toList c.toList)∨AFi v k z=z:=by
 cases v with
 | func g a c=>cases g<;>first | exact .inl ⟨_,_,_,rfl,rfl⟩ | exact .inr rfl
 | _=>exact .inr rfl
theorem Jp(x:Int)(k:Nat→R)(z:R):(∃n:Nat,x=(n:Int)∧Kh x k z=k n)∨Kh x k z=z:=by
 cases x with
 | ofNat n=>exact .inl ⟨n,rfl,rfl⟩
 | negSucc n=>exact .inr rfl
theorem He(v:A0)(k:Nat→R)(z:R):(∃kd n,v=.int kd ((n:Nat):Int)∧Hw v k z=k n)∨Hw v k z=z:=by
 unfold Hw;rcases Bh v (fun _ i=>Kh i k z) z with⟨kd,i,rfl,h⟩|h
 · rcases Jp i k z with⟨n,rfl,h'⟩|h'
   ·grind
   ·exact .inr (h.trans h')
 ·exact .inr h
theorem V8(o:Option α)(k:α→Option R){r:R}(h:R5 o k none=some r):∃x,o=some x∧k x=some r:=by
 cases o with
 | none=>cases h
 | some x=>exact⟨x,rfl,h⟩
theorem Cg(kd:IntKind)(z:Int):GA kd z=some (.int kd z):=A4V z _
theorem Aa(kd:IntKind)(z:Nat):AD kd z=some (.int kd (z:Int)):=C1 z _
theorem Gv(b:Bool):gB b=some (.bool b):=by cases b<;>rfl
theorem AA5{a b:IntKind}(h:ALw a b=true):a=b:=by cases a<;>cases b<;>first|rfl|cases h
theorem L7{c:Bool}{x:Option α}{r:α}(h:(bif c then x else none)=some r):c=true∧x=some r:=by grind
theorem R4(l:List α):len l=l.length:=by
 induction l with
 | nil=>rfl
 | cons a l ih=>show Nat.succ (len l)=_;rw[ih];rfl
theorem AFv(k:IntKind):AQ k=2^k.bits:=by cases k<;>rfl
theorem AM3(M H m:Nat)(hm:m<M):fin M H m=if m<H then(m:Int) else(m:Int)-M:=by unfold fin;simp;omega
theorem AIu(k:IntKind)(n:Int):k.wrap n=if k.signed=true∧n%(AQ k:Int)≥2^(k.bits-1) then n%(AQ k:Int)-AQ k else n%(AQ k:Int):=by unfold IntKind.wrap;rw[AFv];simp
theorem IQ(k:IntKind)(x:Int):W4 k x=k.wrap x:=by
 rw[AIu];cases x with
 | ofNat a =>
  show(bif Nat.blt a (half k) then Int.ofNat a else fin (AQ k) (half k) (Nat.mod a (AQ k)))=_;have hm:Nat.mod a (AQ k)<AQ k:=ZI _ (by cases k<;>decide);have e1:(Int.ofNat a)%(AQ k:Int)=((a%AQ k:Nat):Int):=rfl;rw[e1,AM3 _ _ _ hm];have e2:Nat.mod a (AQ k)=a%AQ k:=rfl;rw[e2];by_cases hb:a<half k
  · rw[Nat.blt_eq.mpr hb];show(a:Int)=_;have hh:half k≤AQ k:=by cases k<;>decide
    rw[Hi (Ep hb hh)];cases k<;>simp[IntKind.signed,IntKind.bits,half] at hb ⊢<;>omega
  · have e:Nat.blt a (half k)=false:=by
     cases hb':Nat.blt a (half k) with
     | false=>rfl
     | true=>simp_all;omega
    rw[e];show(if a%AQ k<half k then((a%AQ k:Nat):Int) else((a%AQ k:Nat):Int)-AQ k)=_;cases k<;>simp[IntKind.signed,IntKind.bits,half,AQ]<;>omega
 | negSucc a =>
  show fin (AQ k) (half k) (AQ k-1-a%AQ k)=_;have hM:0<AQ k:=by cases k<;>decide
  have hm:=ZI a hM;have e1:(Int.negSucc a)%(AQ k:Int)=((AQ k-1-a%AQ k:Nat):Int):=by rw[Int.negSucc_emod _ (by omega)];omega
  rw[e1,AM3 _ _ _ (by omega)];generalize AQ k-1-a%AQ k=m at *;cases k<;>simp[IntKind.signed,IntKind.bits,half,AQ] at*<;> omega
theorem AOA(x y:Int):AP9 x y=x+y:=by cases x<;>cases y<;>rfl
theorem APT(x y:Int):AVA x y=x*y:=by cases x<;>cases y<;>rfl
theorem dV(x y:Int):PG x y=decide (x<y):=by
 cases x with
 | ofNat a=>cases y with
  | ofNat b=>show Nat.blt a b=_;rw[RJ,Nat.blt_eq];simp
  | negSucc b=>rfl
 | negSucc a=>cases y with
  | ofNat b=>show true=_;symm;simp;omega
  | negSucc b=>show Nat.blt b a=_;rw[RJ,Nat.blt_eq];simp;omega
theorem dX(x y:Int):A38 x y=decide (x=y):=by
 cases x with
 | ofNat a=>cases y with
  | ofNat b=>show Nat.beq a b=_;rw[RJ,zn];grind
  | negSucc b=>show false=_;symm;simp
 | negSucc a=>cases y with
  | ofNat b=>show false=_;symm;simp
  | negSucc b=>show Nat.beq b a=_;rw[RJ,zn];simp;omega
theorem AQr(x:Int)(n:Nat):ART x n=x*2^n:=by
 cases x with
 | ofNat a=>rfl
 | negSucc a=>rfl
theorem AOa(x:Int)(n:Nat):AK0 x n=x.fdiv (2^n):=by
 have h2:(0:Int)<2^n:=Int.pow_pos (by decide);cases x with
 | ofNat a =>
  show((a/2^n:Nat):Int)=_;grind
 | negSucc a =>
  show Int.negSucc (a/2^n)=_;rw[Int.fdiv_eq_ediv_of_nonneg _ (Int.le_of_lt h2),Int.negSucc_ediv _ h2];rfl
theorem AKr(x y:Int):AJx x y=x.tdiv y:=by cases x<;>cases y<;>rfl
theorem AKV(x y:Int):ARq x y=x.tmod y:=by cases x<;>cases y<;>rfl
theorem A35(a b:Nat):Xx a b=min a b:=by
 unfold Xx;by_cases h:a≤b
 ·rw[Nat.ble_eq.mpr h];show a=_;omega
 · have e:Nat.ble a b=false:=by
    cases hb:Nat.ble a b with
    | false=>rfl
    | true=>simp_all;omega
   rw[e];show b=_;omega
theorem Kv(k:IntKind)(c:Nat)(h:c<half k):k.wrap (c:Int)=c:=by rw[←IQ];show(bif Nat.blt c (half k) then Int.ofNat c else _)=_;rw[Nat.blt_eq.mpr h];rfl
theorem AFr(k:IntKind):half k≤2^k.bits:=by cases k<;>decide
theorem FD(n a:Nat):(BitVec.ofInt n (a:Int))=BitVec.ofNat n a:=by simp
theorem MI(P:Program)(w:World)(op:BinOp)(k:IntKind)(a b c:Nat)(hc:c<half k)(h:(op=.and∧c=a &&& b)∨(op=.or∧c=a ||| b)∨(op=.xor∧c=a ^^^ b)∨(op=.andNot∧a<half k∧c=a ^^^ (a &&& b))):
 (Op.intBits op k (a:Int) (b:Int)).run P w=.ok (.int k (c:Int)) w:=by
 have hM:=AFr k;have hc2:c%2^k.bits=c:=Hi (by omega);rcases h with⟨rfl,rfl⟩|⟨rfl,rfl⟩|⟨rfl,rfl⟩|⟨rfl,ha,rfl⟩
 ·simp only[Op.intBits,FD,Cw,BitVec.toNat_and,rX];rw[←Nat.and_mod_two_pow,hc2,Kv k _ hc]
 ·simp only[Op.intBits,FD,Cw,BitVec.toNat_or,rX];rw[←Nat.or_mod_two_pow,hc2,Kv k _ hc]
 ·simp only[Op.intBits,FD,Cw,BitVec.toNat_xor,rX];rw[←Nat.xor_mod_two_pow,hc2,Kv k _ hc]
 · have e:(BitVec.ofNat k.bits a &&& ~~~BitVec.ofNat k.bits b)=BitVec.ofNat k.bits a ^^^ (BitVec.ofNat k.bits a &&& BitVec.ofNat k.bits b):=by
    grind
   simp only[Op.intBits,FD,Cw,e,BitVec.toNat_and,BitVec.toNat_xor,rX];rw[←Nat.and_mod_two_pow,←Nat.xor_mod_two_pow,hc2,Kv k _ hc]
def Dr(gs:List Nat)(f:Map):Prop:=∀g,g∈gs→∃i,f g=some i∧i.S6=g∧i.o=0
theorem Dr.mono{gs:List Nat}{f g:Map}(h:Dr gs f)(hfg:f.le g):Dr gs g:=fun x hx=>let ⟨i,a,b⟩:=h x hx;⟨i,hfg _ _ a,b⟩
def Env(f:Map)(ds:List (Option Tmp))(lo:List A0)(tm:T A0)(tmps:Array A0):Prop:=∀t,(∀i,idx ds t=some i→F5 f (nth lo i) (tmps.getD t undef))∧(idx ds t=none→∀v,tm.get (path t)=some v→F5 f v (tmps.getD t undef))
theorem Env.mono{f g:Map}{ds:List (Option Tmp)}{tm:T A0}{tmps:Array A0}(h:Env f ds lo tm tmps)(hfg:f.le g):Env g ds lo tm tmps:=fun t=>⟨fun i hi=>((h t).1 i hi).mono hfg,fun hi v hv=>((h t).2 hi v hv).mono hfg⟩
theorem F5.plain{f:Map}(h:j9 v=true):F5 f v v:=by
 cases v with
 | bool b=>exact .bool b
 | int k n=>exact .int k n
 | string s=>exact .string s
 | pointer a=>cases a with
  | none=>exact .nilPtr
  | some a=>cases h
 | slice a l c=>cases a with
  | none=>exact .AW l c
  | some a=>cases h
 | map r=>cases r with
  | none=>exact .IV
  | some r=>cases h
 | nilFunc=>exact .nilFunc
 | nilIface=>exact .nilIface
 | _=>cases h
theorem F5.AK7{f:Map}(v:A0):F5 f Abs.top v:=.top v
theorem F0{f:Map}{gs:List Nat}{ds:List (Option Tmp)}{tm:T A0}{a:Act}(hG:Dr gs f)(hE:Env f ds lo tm a.tmps)(x:Operand):
 F5 f (G4 (C3 gs ds x) lo tm) (a.eval x):=by
 cases x with
 | tmp t =>
  show F5 f (G4 (match idx ds t with|some i=>.loc i|none=>.tmp (path t)) lo tm) (a.tmps.getD t undef);cases hi:idx ds t with
  | some i=>exact(hE t).1 i hi
  | none =>
   show F5 f (Qd (tm.get (path t))) _;cases hv:tm.get (path t) with
   | none=>exact .AK7 _
   | some v=>exact(hE t).2 hi v hv
 | const v =>
  show F5 f (bif j9 v then v else top) v;cases h:j9 v with
  | true=>exact F5.plain h
  | false=>exact .AK7 _
 | global g =>
  show F5 f (bif gs.any (fun x=>Nat.beq x g) then .pointer (some ⟨g,0,none⟩) else top) (.pointer (some ⟨g,0,none⟩));cases h:gs.any (fun x=>Nat.beq x g) with
  | false=>exact .AK7 _
  | true =>
   obtain⟨y,hy,e⟩:=List.any_eq_true.1 h;have:=T9 e;subst this;obtain⟨i,hi,hb,ho⟩:=hG y hy;have:=F5.ptr y 0 i hi;grind
 | func g=>constructor<;>grind
theorem Jl{f:Map}{gs:List Nat}{ds:List (Option Tmp)}{tm:T A0}{a:Act}(hG:Dr gs f)(hE:Env f ds lo tm a.tmps)(xs:List Operand):
 M7 f (XW (xs.map (C3 gs ds)) lo tm) (xs.map a.eval):=by
 induction xs with
 | nil=>exact M7.nil f
 | cons x xs ih=>exact M7.cons (F0 hG hE x) ih
def Q9(P:Program)(gs:List Nat)(ds:List (Option Tmp))(o:Oper)(fn:DP):Prop:=∀lo tm v,fn lo tm=some v→∀f (a:Act) w,Dr gs f→Env f ds lo tm a.tmps→∃v',(execOp a.eval o).run P w=.ok (.value v') w∧F5 f v v'
section
variable {P:Program} {gs:List Nat} {ds:List (Option Tmp)} {o:Oper}
theorem AMY:Q9 P gs ds o fun _ _=>none:=fun _ _ _ h=>by cases h
theorem A0c(ho:o.op=.move x∨o.op=.assign x):Q9 P gs ds o (R6 (C3 gs ds x)):=by intro lo tm v hv f a w hG hE;cases hv;refine⟨a.eval x,?_,F0 hG hE x⟩;rcases ho with ho|ho<;>simp[execOp,ho]
theorem AGi{c:Operand}(ho:o.op=.pick c x y):Q9 P gs ds o (az (C3 gs ds c) (C3 gs ds x) (C3 gs ds y)):=by
 intro lo tm v hv f a w hG hE;have hc:=F0 hG hE c;unfold az at hv;rcases Lr (G4 (C3 gs ds c) lo tm) (fun t=>Bool.rec (motive:=fun _=>Option A0) (some (G4 (C3 gs ds y) lo tm)) (some (G4 (C3 gs ds x) lo tm)) t) none with⟨b,e,h⟩|h
 · rw[h] at hv;rw[e] at hc;generalize hce:a.eval c=vc at hc;cases hc;cases b with
   | true=>cases hv;exact⟨a.eval x,by simp[execOp,ho,hce,asBool],F0 hG hE x⟩
   | false=>cases hv;exact⟨a.eval y,by simp[execOp,ho,hce,asBool],F0 hG hE y⟩
 ·rw[h] at hv;cases hv
theorem U0(op:BinOp)(t:TypeId)(x y:Operand)(u v:A0)(w:World)(h:match u,v with|.nilIface,.nilIface=>False|.agg _,.agg _=>False|_,_=>True):
 (eqGuard op t x y u v).run P w=.ok () w:=by
 cases op<;>first
  | rfl
  | (cases u<;>cases v<;>first | rfl | exact h.elim)
theorem W5{op:BinOp}{g:G}(ho:o.op=.binOp op t x y yt)(hg:∀k a b r w,g k a b=some r→(binOp op t (.int k a) (.int k b)).run P w=.ok r w∧j9 r=true):
 Q9 P gs ds o (V0 g (C3 gs ds x) (C3 gs ds y)):=by
 intro lo tm v hv f a w hG hE;have hx:=F0 hG hE x;have hy:=F0 hG hE y;unfold V0 at hv;rcases Bh (G4 (C3 gs ds x) lo tm) (fun kd a=>Bi (G4 (C3 gs ds y) lo tm) (fun kd' b=>bif ALw kd kd' then g kd a b else none) none) none with⟨k,n,e,h⟩|h
 · rw[h] at hv;rcases Bh (G4 (C3 gs ds y) lo tm) (fun kd' b=>bif ALw k kd' then g k n b else none) none with⟨k',m,e',h'⟩|h'
   ·rw[h'] at hv;obtain⟨hk,hv2⟩:=L7 hv;clear hv;have:=AA5 hk;subst this;rw[e] at hx;rw[e'] at hy;generalize hxe:a.eval x=vx at hx;generalize hye:a.eval y=vy at hy;cases hx;cases hy;obtain⟨h1,h2⟩:=hg k n m v w hv2;refine⟨v,?_,F5.plain h2⟩;simp only[execOp,ho,hxe,hye,z6];rw[U0 _ _ _ _ _ _ _ trivial];simp[h1]
   ·rw[h'] at hv;cases hv
 ·rw[h] at hv;cases hv
theorem mZ{op:BinOp}{g:G}(ho:o.op=.binOp op t x y yt)(hg:∀k k' a b r w,g k a b=some r→(binOp op t (.int k a) (.int k' b)).run P w=.ok r w∧j9 r=true):
 Q9 P gs ds o (Kz g (C3 gs ds x) (C3 gs ds y)):=by
 intro lo tm v hv f a w hG hE;have hx:=F0 hG hE x;have hy:=F0 hG hE y;unfold Kz at hv;rcases Bh (G4 (C3 gs ds x) lo tm) (fun kd a=>Bi (G4 (C3 gs ds y) lo tm) (fun _ b=>g kd a b) none) none with⟨k,n,e,h⟩|h
 · rw[h] at hv;rcases Bh (G4 (C3 gs ds y) lo tm) (fun _ b=>g k n b) none with⟨k',m,e',h'⟩|h'
   ·rw[h'] at hv;rw[e] at hx;rw[e'] at hy;generalize hxe:a.eval x=vx at hx;generalize hye:a.eval y=vy at hy;cases hx;cases hy;obtain⟨h1,h2⟩:=hg k k' n m v w hv;refine⟨v,?_,F5.plain h2⟩;simp only[execOp,ho,hxe,hye,z6];rw[U0 _ _ _ _ _ _ _ trivial];simp[h1]
   ·rw[h'] at hv;cases hv
 ·rw[h] at hv;cases hv
theorem Bo{z:Int}{r:A0}(h:GA kd z=some r):r=.int kd z:=by rw[Cg] at h;cases h;rfl
theorem z8{b:Bool}{r:A0}(h:gB b=some r):r=.bool b:=by rw[Gv] at h;cases h;rfl
theorem A16{f:Nat→Nat→Nat}{k:IntKind}{x y:Int}{r:A0}(h:nn f k x y=some r):∃a b:Nat,x=a∧y=b∧f a b<half k∧r=.int k (f a b:Nat):=by
 unfold nn at h;rcases Jp x (fun a=>Kh y (fun b=>C8 (f a b) fun c=>bif Nat.blt c (half k) then some (Value.int k (Int.ofNat c)) else none) none) none with⟨a,rfl,e⟩|e
 · rw[e] at h;rcases Jp y (fun b=>C8 (f a b) fun c=>bif Nat.blt c (half k) then some (Value.int k (Int.ofNat c)) else none) none with⟨b,rfl,e'⟩|e'
   ·rw[e',C1] at h;obtain⟨h1,h2⟩:=L7 h;cases h2;exact⟨a,b,rfl,rfl,Nat.blt_eq.mp h1,rfl⟩
   ·rw[e'] at h;cases h
 ·rw[e] at h;cases h
theorem A4I{k:IntKind}{x y:Int}{r:A0}(h:Mg k x y=some r):(∃a b:Nat,x=a∧y=b∧(a<half k∧a ^^^ (a &&& b)<half k)∧r=.int k (a ^^^ (a &&& b):Nat))∨∃a:Nat,x=a∧y=.negSucc 0∧a<half k∧r=.int k (0:Nat):=by
 cases x with
 | negSucc a=>cases h
 | ofNat a =>
  cases y with
  | ofNat b =>
   have h':(C8 (Nat.xor a (Nat.land a b)) fun c=>bif Nat.blt a (half k)&&Nat.blt c (half k) then some (Value.int k (Int.ofNat c)) else none)=some r:=h;rw[C1] at h';obtain⟨h1,h2⟩:=L7 h';cases h2;rw[U8] at h1;exact .inl ⟨a,b,rfl,rfl,⟨Nat.blt_eq.mp h1.1,Nat.blt_eq.mp h1.2⟩,rfl⟩
  | negSucc b =>
   have h':(bif Nat.beq b 0&&Nat.blt a (half k) then some (Value.int k (.ofNat 0)) else none)=some r:=h;obtain⟨h1,h2⟩:=L7 h';cases h2;rw[U8] at h1;have:=T9 h1.1;subst this;exact .inr ⟨a,rfl,rfl,Nat.blt_eq.mp h1.2,rfl⟩
theorem AJJ{k:IntKind}{x y:Int}{r:A0}(h:fE k x y=some r):nn Nat.land k x y=some r∨∃a:Nat,x=a∧y=.negSucc 0∧a<half k∧r=.int k (a:Nat):=by
 cases y with
 | ofNat b=>exact .inl h
 | negSucc b =>
  have h':(bif Nat.beq b 0 then Kh x (fun a=>bif Nat.blt a (half k) then some (Value.int k (.ofNat a)) else none) none else none)=some r:=h;obtain⟨h1,h2⟩:=L7 h';have:=T9 h1;subst this;cases x with
  | negSucc a=>cases h2
  | ofNat a =>
   obtain⟨h3,h4⟩:=L7 (show(bif Nat.blt a (half k) then some (Value.int k (.ofNat a)) else none)=some r from h2);cases h4;exact .inr ⟨a,rfl,rfl,Nat.blt_eq.mp h3,rfl⟩
theorem A51(n:Nat):BitVec.ofInt n (.negSucc 0)=BitVec.allOnes n:=by rw[BitVec.ofInt_negSucc_eq_not_ofNat];exact BitVec.not_zero
theorem AMk(P:Program)(w:World)(k:IntKind)(a:Nat)(ha:a<half k):(Op.intBits .and k (a:Int) (.negSucc 0)).run P w=.ok (.int k (a:Int)) w:=by have hM:=AFr k;have hc2:a%2^k.bits=a:=Hi (by omega);simp only[Op.intBits,FD,A51,Cw,BitVec.and_allOnes,rX];rw[hc2,Kv k _ ha]
theorem A7G(P:Program)(w:World)(k:IntKind)(a:Nat):(Op.intBits .andNot k (a:Int) (.negSucc 0)).run P w=.ok (.int k ((0:Nat):Int)) w:=by simp only[Op.intBits,FD,A51,Cw,BitVec.not_allOnes,BitVec.and_zero,rX];rw[Nat.zero_mod,Kv k _ (by cases k<;>decide)]
theorem AIQ{op:BinOp}(ho:o.op=.binOp op t x y yt):
 ∃fn,AJI op (C3 gs ds x) (C3 gs ds y)=.p fn∧Q9 P gs ds o fn:=by
 cases op<;>refine⟨_,rfl,?_⟩
 case add =>
  exact W5 ho fun k a b r w h=>by have:=Bo h;subst this;exact⟨by simp[binOp,Op.intArith,IQ,AOA],rfl⟩
 case sub =>
  exact W5 ho fun k a b r w h=>by have:=Bo h;subst this;exact⟨by simp[binOp,Op.intArith,IQ],rfl⟩
 case mul =>
  exact W5 ho fun k a b r w h=>by have:=Bo h;subst this;exact⟨by simp[binOp,Op.intArith,IQ,APT],rfl⟩
 case quo =>
  exact W5 ho fun k a b r w h=>by
   unfold A1q at h;cases hb:A38 b 0 with
   | true=>rw[hb] at h;cases h
   | false =>
    rw[hb] at h;have:=Bo h;subst this;have hb':b≠0:=by rw[dX] at hb;simpa using hb
    exact⟨by simp[binOp,Op.intDiv,hb',IQ,AKr],rfl⟩
 case rem =>
  exact W5 ho fun k a b r w h=>by
   unfold jz at h;cases hb:A38 b 0 with
   | true=>rw[hb] at h;cases h
   | false =>
    rw[hb] at h;have:=Bo h;subst this;have hb':b≠0:=by rw[dX] at hb;simpa using hb
    exact⟨by simp[binOp,Op.intDiv,hb',AKV],rfl⟩
 case and =>
  exact W5 ho fun k a b r w h=>by
   rcases AJJ h with h|⟨m,rfl,rfl,hc,rfl⟩
   rotate_left
   ·exact⟨by simp only[binOp,ne_eq,not_true,if_false];exact AMk P w k m hc,rfl⟩
   obtain⟨m,n,rfl,rfl,hc,rfl⟩:=A16 h;exact⟨by simp only[binOp,ne_eq,not_true,if_false];exact MI P w .and k m n _ hc (.inl ⟨rfl,rfl⟩),rfl⟩
 case or =>
  exact W5 ho fun k a b r w h=>by obtain⟨m,n,rfl,rfl,hc,rfl⟩:=A16 h;exact⟨by simp only[binOp,ne_eq,not_true,if_false];exact MI P w .or k m n _ hc (.inr (.inl ⟨rfl,rfl⟩)),rfl⟩
 case xor =>
  exact W5 ho fun k a b r w h=>by obtain⟨m,n,rfl,rfl,hc,rfl⟩:=A16 h;exact⟨by simp only[binOp,ne_eq,not_true,if_false];exact MI P w .xor k m n _ hc (.inr (.inr (.inl ⟨rfl,rfl⟩))),rfl⟩
 case andNot =>
  exact W5 ho fun k a b r w h=>by
   rcases A4I h with⟨m,n,rfl,rfl,hc,rfl⟩|⟨m,rfl,rfl,hc,rfl⟩
   rotate_left
   ·exact⟨by simp only[binOp,ne_eq,not_true,if_false];exact A7G P w k m,rfl⟩
   exact⟨by simp only[binOp,ne_eq,not_true,if_false];exact MI P w .andNot k m n _ hc.2 (.inr (.inr (.inr ⟨rfl,hc.1,rfl⟩))),rfl⟩
 case shl =>
  exact mZ ho fun k k' a b r w h=>by
   unfold AAQ at h;rcases Jp b (fun n=>GA k (W4 k (ART a (Xx n k.bits)))) none with⟨n,rfl,e⟩|e
   ·rw[e] at h;have:=Bo h;subst this;exact⟨by simp[binOp,Op.shift,IQ,AQr,A35];intro hn;omega,rfl⟩
   ·rw[e] at h;cases h
 case shr =>
  exact mZ ho fun k k' a b r w h=>by
   unfold wb at h;rcases Jp b (fun n=>GA k (AK0 a (Xx n k.bits))) none with⟨n,rfl,e⟩|e
   ·rw[e] at h;have:=Bo h;subst this;exact⟨by simp[binOp,Op.shift,AOa,A35];intro hn;omega,rfl⟩
   ·rw[e] at h;cases h
 case eql =>
  exact W5 ho fun k a b r w h=>by have:=z8 h;subst this;exact⟨by simp[binOp,Op.intCmp,dX];rfl,rfl⟩
 case neq =>
  exact W5 ho fun k a b r w h=>by have:=z8 h;subst this;exact⟨by simp[binOp,Op.intCmp,dX];rfl,rfl⟩
 case lss =>
  exact W5 ho fun k a b r w h=>by have:=z8 h;subst this;exact⟨by simp[binOp,Op.intCmp,dV],rfl⟩
 case leq =>
  exact W5 ho fun k a b r w h=>by have:=z8 h;subst this;exact⟨by simp[binOp,Op.intCmp,dV];rw[RJ];simp,rfl⟩
 case gtr =>
  exact W5 ho fun k a b r w h=>by have:=z8 h;subst this;exact⟨by simp[binOp,Op.intCmp,dV],rfl⟩
 case geq =>
  exact W5 ho fun k a b r w h=>by have:=z8 h;subst this;exact⟨by simp[binOp,Op.intCmp,dV];rw[RJ];simp,rfl⟩
end
section
variable {P:Program} {gs:List Nat} {ds:List (Option Tmp)} {o:Oper}
theorem F5.Mo{f:Map}{b:Bool}(h:F5 f (.bool b) v'):v'=.bool b:=by cases h;rfl
theorem F5.Y8{f:Map}{k:IntKind}{n:Int}(h:F5 f (.int k n) v'):v'=.int k n:=by cases h;rfl
theorem F5.Bn{f:Map}{s:ByteArray}(h:F5 f (.string s) v'):v'=.string s:=by cases h;rfl
theorem F5.QC{f:Map}{a:Array A0}(h:F5 f (.agg a) v'):∃a',v'=.agg a'∧M7 f a.toList a'.toList:=by
 cases h with
 | agg _ a' hs h=>exact⟨a',rfl,M7.of_array hs h⟩
theorem F5.AO3{f:Map}{a:Array A0}(h:F5 f (.tuple a) v'):∃a',v'=.tuple a'∧M7 f a.toList a'.toList:=by
 cases h with
 | tuple _ a' hs h=>exact⟨a',rfl,M7.of_array hs h⟩
theorem F5.ABO{f:Map}{g:Fn}{a c:Array A0}(h:F5 f (.func g a c) v'):∃a' c',v'=.func g a' c'∧M7 f a.toList a'.toList∧M7 f c.toList c'.toList:=by
 cases h with
 | func _ _ _ a' c' ha hc va vc=>exact⟨a',c',rfl,M7.of_array ha va,M7.of_array hc vc⟩
theorem F5.dn{f:Map}(h:F5 f (.iface t v) v'):∃x,v'=.iface t x∧F5 f v x:=by
 cases h with
 | iface _ _ x h=>exact⟨x,rfl,h⟩
theorem F5.FK{f:Map}{a:Addr}(h:F5 f (.pointer (some a)) v'):a.spot=none∧∃i,f a.block=some i∧v'=.pointer (some ⟨i.S6,i.o+a.off,none⟩):=by
 cases h with
 | ptr b o i h=>exact⟨rfl,i,h,rfl⟩
theorem F5.AKP{f:Map}(h:F5 f v v'):F5 f (.iface t v) (.iface t v'):=.iface t v v' h
theorem PD(s:ByteArray):s.toList=bl s:=by exact ByteArray.toList_eq s
theorem Bm(s:ByteArray):(bl s).length=s.size:=rfl
theorem A3R(s:ByteArray):O2 (bl s)=s:=by rfl
theorem A9X(a b:UInt8):AKv a b=(a == b):=by unfold AKv;rw[RJ,zn];simp[lX]
theorem eD(x y:List UInt8):PH x y=(x == y):=by
 induction x generalizing y with
 | nil=>cases y<;>rfl
 | cons a x ih =>
  cases y with
  | nil=>rfl
  | cons b y =>
   show(bif AKv a b then PH x y else false)=_;rw[ih,A9X,List.cons_beq_cons];cases a == b<;>rfl
theorem ARO(x y:List UInt8):gU x y=Op.bytesLess x y:=by
 induction x generalizing y with
 | nil=>cases y<;>rfl
 | cons a x ih =>
  cases y with
  | nil=>rfl
  | cons b y =>
   show(bif Nat.blt a.toNat b.toNat then true else bif AKv a b then gU x y else false)=(decide (a<b)||(a == b&&Op.bytesLess x y))
   rw[ih,A9X];have e:Nat.blt a.toNat b.toNat=decide (a<b):=by rw[RJ,Nat.blt_eq];simp[UInt8.lt_iff_toNat_lt]
   grind
theorem kM(x y:List UInt8):(Op.bytesLess x y||x == y)=!Op.bytesLess y x:=by
 induction x generalizing y with
 | nil=>cases y<;>simp[Op.bytesLess]
 | cons a x ih =>
  cases y with
  | nil=>simp[Op.bytesLess]
  | cons b y =>
   have ih':=ih y;simp only[Op.bytesLess,List.cons_beq_cons];grind
theorem ABl{op:BinOp}(ho:o.op=.binOp op t x y yt):Q9 P gs ds o (Q7 op (C3 gs ds x) (C3 gs ds y)):=by
 intro lo tm v hv f a w hG hE;have hx:=F0 hG hE x;have hy:=F0 hG hE y;unfold Q7 at hv;rcases Ft (G4 (C3 gs ds x) lo tm) (fun a=>Hq (G4 (C3 gs ds y) lo tm) (fun b=>RS op (bl a) (bl b)) none) none with⟨s,e,h⟩|h
 · rw[h] at hv;rcases Ft (G4 (C3 gs ds y) lo tm) (fun b=>RS op (bl s) (bl b)) none with⟨s',e',h'⟩|h'
   · rw[h'] at hv;rw[e] at hx;rw[e'] at hy;have hx:=hx.Bn;have hy:=hy.Bn;refine⟨v,?_,?_⟩
     · simp only[execOp,ho,hx,hy,z6];rw[U0 _ _ _ _ _ _ _ trivial];cases op<;>first
        | (cases hv;done)
        | (have:=z8 hv;subst this;simp[binOp,Op.stringOp,PD,eD,ARO,kM];done)
        | (unfold RS at hv
           obtain⟨h1,h2⟩:=L7 hv;cases h2;have hlt:=Nat.blt_eq.mp h1;rw[R4,R4,Bm,Bm] at hlt;have hlt':s.size+s'.size<9223372036854775808:=hlt;have:¬(((s.size+s'.size:Nat):Int)>IntKind.i64.max):=by simp;omega
           simp only[binOp,Op.stringOp,CB];rw[if_neg this];rfl)
     · cases op<;>first
        | (cases hv;done)
        | (have:=z8 hv;subst this;exact .bool _)
        | (unfold RS at hv
           obtain⟨h1,h2⟩:=L7 hv;cases h2;exact .string _)
   ·rw[h'] at hv;cases hv
 ·rw[h] at hv;cases hv
theorem fW(neg:Bool){x y:A0}{b:Bool}(h:∀d,(Op.equalIn (d+1) t x y).run P w=.ok b w)(hb:binOp (if neg then .neq else .eql) t x y=if neg then(do pure (.bool (!(← Op.equal t x y)))) else(do pure (.bool (← Op.equal t x y)))):
 (binOp (if neg then .neq else .eql) t x y).run P w=.ok (.bool (Dp neg (!b))) w:=by
 have h9:(Op.equal t x y).run P w=.ok b w:=h 9999;rw[hb];cases neg<;>cases b<;>simp[h9,Dp]
theorem jN{op:BinOp}(ho:o.op=.binOp op t x y yt)(hop:op=if neg then .neq else .eql)(ht:P.underlying t=some .bool):
 Q9 P gs ds o (MH neg (C3 gs ds x) (C3 gs ds y)):=by
 intro lo tm v hv f a w hG hE;have hx:=F0 hG hE x;have hy:=F0 hG hE y;unfold MH at hv;rcases Lr (G4 (C3 gs ds x) lo tm) (fun a=>Cq (G4 (C3 gs ds y) lo tm) (fun b=>gB (Dp neg (!Dp a b))) none) none with⟨p,e,h⟩|h
 · rw[h] at hv;rcases Lr (G4 (C3 gs ds y) lo tm) (fun b=>gB (Dp neg (!Dp p b))) none with⟨q,e',h'⟩|h'
   ·rw[h'] at hv;rw[e] at hx;rw[e'] at hy;have hx:=hx.Mo;have hy:=hy.Mo;have:=z8 hv;subst this;refine⟨_,?_,.bool _⟩;simp only[execOp,ho,hx,hy,z6];rw[U0 _ _ _ _ _ _ _ trivial];subst hop;have hq:=fW neg (fun d=>run_equalIn_bool' w d t p q ht) (by cases neg<;>rfl);simp only[CB,hq];cases neg<;>cases p<;>cases q<;>rfl
   ·rw[h'] at hv;cases hv
 ·rw[h] at hv;cases hv
theorem Ao{op:BinOp}{c:A0}{isn:A0→Option Bool}(ho:o.op=.binOp op t x (.const c) yt)(hop:op=if neg then .neq else .eql)(hc1:match c with|.nilIface=>True|.agg _=>False|.int ..=>False|.float ..=>False|.complex ..=>False|.string _=>False|.bool _=>False|_=>True)(key:∀f v v' b,F5 f v v'→isn v=some b→(∀d (w:World),(Op.equalIn (d+1) t v' c).run P w=.ok b w)∧(∀neg:Bool,binOp (if neg then .neq else .eql) t v' c=if neg then(do pure (.bool (!(← Op.equal t v' c)))) else(do pure (.bool (← Op.equal t v' c))))∧(∀xs,v'≠.agg xs)):
 Q9 P gs ds o (AB isn neg (C3 gs ds x)):=by
 intro lo tm v hv f a w hG hE;have hx:=F0 hG hE x;unfold AB at hv;obtain⟨b,hb,hv⟩:=V8 _ _ hv;have:=z8 hv;subst this;refine⟨_,?_,.bool _⟩;obtain⟨h1,h2,h3⟩:=key _ _ _ _ hx hb;have hc:a.eval (.const c)=c:=rfl;subst hop;simp only[execOp,ho,z6,hc];have hg:(eqGuard (if neg then BinOp.neq else BinOp.eql) t x (.const c) (a.eval x) c).run P w=.ok () w:=by generalize a.eval x=vx at *;cases neg<;>cases c<;>first|exact hc1.elim|(cases vx<;>first|rfl|(cases x<;>rfl)|exact absurd rfl (h3 _))
 rw[hg];have hq:=fW neg (fun d=>h1 d w) (h2 neg);simp_all
theorem A4T{e:TypeId}(hu:P.underlying t=some (.pointer e)):∀f v v' b,F5 f v v'→A7U v=some b→(∀d (w:World),(Op.equalIn (d+1) t v' (.pointer none)).run P w=.ok b w) ∧
 (∀neg:Bool,binOp (if neg then .neq else .eql) t v' (.pointer none)=if neg then(do pure (.bool (!(← Op.equal t v' (.pointer none))))) else(do pure (.bool (← Op.equal t v' (.pointer none)))))∧(∀xs,v'≠.agg xs):=by
 intro f v v' b h hb;cases h<;>first
  | (cases hb;exact⟨fun d w=>by simp[Op.equalIn,run_underlying hu],fun neg=>by cases neg<;>rfl,fun xs=>by simp⟩)
  | (cases hb)
theorem A7R{e:TypeId}(hu:P.underlying t=some (.slice e)):∀f v v' b,F5 f v v'→A4u v=some b→(∀d (w:World),(Op.equalIn (d+1) t v' (.slice none 0 0)).run P w=.ok b w) ∧
 (∀neg:Bool,binOp (if neg then .neq else .eql) t v' (.slice none 0 0)=if neg then(do pure (.bool (!(← Op.equal t v' (.slice none 0 0))))) else(do pure (.bool (← Op.equal t v' (.slice none 0 0)))))∧(∀xs,v'≠.agg xs):=by
 intro f v v' b h hb;cases h<;>first
  | (cases hb;exact⟨fun d w=>by simp[Op.equalIn,run_underlying hu],fun neg=>by cases neg<;>rfl,fun xs=>by simp⟩)
  | (cases hb)
theorem A6f{k e:TypeId}(hu:P.underlying t=some (.map k e)):∀f v v' b,F5 f v v'→ATn v=some b→(∀d (w:World),(Op.equalIn (d+1) t v' (.map none)).run P w=.ok b w) ∧
 (∀neg:Bool,binOp (if neg then .neq else .eql) t v' (.map none)=if neg then(do pure (.bool (!(← Op.equal t v' (.map none))))) else(do pure (.bool (← Op.equal t v' (.map none)))))∧(∀xs,v'≠.agg xs):=by
 intro f v v' b h hb;cases h<;>first
  | (cases hb;exact⟨fun d w=>by simp[Op.equalIn,run_underlying hu],fun neg=>by cases neg<;>rfl,fun xs=>by simp⟩)
  | (cases hb)
theorem A8E{ps rs:Array TypeId}{va:Bool}(hu:P.underlying t=some (.func ps rs va)):∀f v v' b,F5 f v v'→AIX v=some b→(∀d (w:World),(Op.equalIn (d+1) t v' .nilFunc).run P w=.ok b w) ∧
 (∀neg:Bool,binOp (if neg then .neq else .eql) t v' .nilFunc=if neg then(do pure (.bool (!(← Op.equal t v' .nilFunc)))) else(do pure (.bool (← Op.equal t v' .nilFunc))))∧(∀xs,v'≠.agg xs):=by
 intro f v v' b h hb;cases h<;>first
  | (cases hb;exact⟨fun d w=>by simp[Op.equalIn,run_underlying hu],fun neg=>by cases neg<;>rfl,fun xs=>by simp⟩)
  | (cases hb)
theorem A6G{ms:Array (String×TypeId)}(hu:P.underlying t=some (.interface ms)):∀f v v' b,F5 f v v'→AGX v=some b→(∀d (w:World),(Op.equalIn (d+1) t v' .nilIface).run P w=.ok b w) ∧
 (∀neg:Bool,binOp (if neg then .neq else .eql) t v' .nilIface=if neg then(do pure (.bool (!(← Op.equal t v' .nilIface)))) else(do pure (.bool (← Op.equal t v' .nilIface))))∧(∀xs,v'≠.agg xs):=by
 intro f v v' b h hb;cases h<;>first
  | (cases hb;exact⟨fun d w=>by simp[Op.equalIn,run_underlying hu],fun neg=>by cases neg<;>rfl,fun xs=>by simp⟩)
  | (cases hb)
theorem A5s{op:BinOp}{e:TypeId}(ho:o.op=.binOp op t x y yt)(hop:op=if neg then .neq else .eql)(hu:P.underlying t=some (.pointer e))(hs:P.cellsOf e≠0):
 Q9 P gs ds o (A9A neg (C3 gs ds x) (C3 gs ds y)):=by
 intro lo tm v hv f a w hG hE;have hx:=F0 hG hE x;have hy:=F0 hG hE y;unfold A9A at hv;obtain⟨b,hb,hv⟩:=V8 _ _ hv;have:=z8 hv;subst this;refine⟨_,?_,.bool _⟩;have hi:∃i,P.info? e=some i∧i.size≠0:=by
  unfold Program.cellsOf at hs;cases hi:P.info? e with
  | none=>simp[hi] at hs
  | some i=>grind
 obtain⟨i,hi,hi0⟩:=hi;have hsz:∀w:World,(sizeOf e).run P w=.ok i.size w:=fun w=>by simp[sizeOf,typeInfo,hi]
 subst hop;have main:∃p q,a.eval x=.pointer p∧a.eval y=.pointer q∧∀d (w:World),(Op.equalIn (d+1) t (.pointer p) (.pointer q)).run P w=.ok b w:=by
  generalize G4 (C3 gs ds x) lo tm=vx at *;generalize G4 (C3 gs ds y) lo tm=vy at *;generalize a.eval x=ux at *;generalize a.eval y=uy at *;cases hx<;>first|(cases hb;done)|skip
  · cases hy<;>first|(cases hb;done)|skip
    ·cases hb;exact⟨_,_,rfl,rfl,fun d w=>by simp[Op.equalIn,run_underlying hu]⟩
    ·cases hb;exact⟨_,_,rfl,rfl,fun d w=>by simp[Op.equalIn,run_underlying hu]⟩
  · rename_i b1 o1 i1 hf1;cases hy<;>first|(cases hb;done)|skip
    ·cases hb;exact⟨_,_,rfl,rfl,fun d w=>by simp[Op.equalIn,run_underlying hu]⟩
    ·rename_i b2 o2 i2 hf2;have hb':(bif Nat.beq b1 b2 then some (Nat.beq o1 o2) else none)=some b:=hb;obtain⟨e1,e2⟩:=L7 hb';have:=T9 e1;subst this;rw[hf1] at hf2;cases hf2;cases e2;refine⟨_,_,rfl,rfl,fun d w=>?_⟩;simp only[Op.equalIn,z6,run_underlying hu,CB,hsz,ne_eq,hi0,not_false_eq_true,if_true,sameAddr,beq_self_eq_true,Cw];congr 1;rw[RJ,zn,beq_iff_eq];simp
 obtain⟨p,q,hp,hq,hrun⟩:=main;simp only[execOp,ho,z6,hp,hq];have hg:(eqGuard (if neg then BinOp.neq else BinOp.eql) t x y (.pointer p) (.pointer q)).run P w=.ok () w:=U0 _ _ _ _ _ _ _ trivial;rw[hg];have hq:=fW neg (fun d=>hrun d w) (by cases neg<;>rfl);simp_all
theorem A2b{f:Map}{x y x' y':A0}{b:Bool}(hx:F5 f x x')(hy:F5 f y y')(h:AXH x y=some b):x'=x∧y'=y ∧
 ((∃k m n,x=.int k m∧y=.int k n∧b=(m == n))∨(∃p q,x=.bool p∧y=.bool q∧b=(p == q))∨(∃p q,x=.string p∧y=.string q∧b=(p.toList == q.toList))):=by
 cases x with
 | int k m =>
  rcases Bh y (fun k' b=>bif ALw k k' then some (A38 m b) else none) none with⟨k',n,rfl,e⟩|e
  ·have h':Bi (.int k' n) (fun k' b=>bif ALw k k' then some (A38 m b) else none) none=some b:=h;rw[e] at h';obtain⟨h1,h2⟩:=L7 h';have:=AA5 h1;subst this;cases h2;exact⟨hx.Y8,hy.Y8,.inl ⟨k,m,n,rfl,rfl,by rw[dX];rfl⟩⟩
  ·have h':Bi y (fun k' b=>bif ALw k k' then some (A38 m b) else none) none=some b:=h;rw[e] at h';cases h'
 | bool p =>
  rcases Lr y (fun q=>some (p == q)) none with⟨q,rfl,e⟩|e
  ·cases h;exact⟨hx.Mo,hy.Mo,.inr (.inl ⟨p,q,rfl,rfl,rfl⟩)⟩
  ·have h':Cq y (fun q=>some (p == q)) none=some b:=h;rw[e] at h';cases h'
 | string p =>
  rcases Ft y (fun q=>some (PH (bl p) (bl q))) none with⟨q,rfl,e⟩|e
  ·cases h;exact⟨hx.Bn,hy.Bn,.inr (.inr ⟨p,q,rfl,rfl,by rw[eD,PD,PD]⟩)⟩
  ·have h':Hq y (fun q=>some (PH (bl p) (bl q))) none=some b:=h;rw[e] at h';cases h'
 | _=>cases h
end
section
variable {P:Program} {gs:List Nat} {ds:List (Option Tmp)} {o:Oper}
theorem AL2(ho:o.op=.unOp .not t x):Q9 P gs ds o (ADh (C3 gs ds x)):=by
 intro lo tm v hv f a w hG hE;have hx:=F0 hG hE x;unfold ADh at hv;rcases Lr (G4 (C3 gs ds x) lo tm) (fun b=>gB (!b)) none with⟨b,e,h⟩|h
 ·rw[h] at hv;rw[e] at hx;have hx:=hx.Mo;have:=z8 hv;subst this;exact⟨_,by simp[execOp,ho,hx,Op.unary],.bool _⟩
 ·rw[h] at hv;cases hv
theorem AKN(ho:o.op=.unOp .neg t x):Q9 P gs ds o (ACZ (C3 gs ds x)):=by
 intro lo tm v hv f a w hG hE;have hx:=F0 hG hE x;unfold ACZ at hv;rcases Bh (G4 (C3 gs ds x) lo tm) (fun kd a=>GA kd (W4 kd (-a))) none with⟨k,n,e,h⟩|h
 ·rw[h] at hv;rw[e] at hx;have hx:=hx.Y8;have:=Bo hv;subst this;exact⟨_,by simp[execOp,ho,hx,Op.unary,Op.intArith,IQ],.int _ _⟩
 ·rw[h] at hv;cases hv
theorem AKs(ho:o.op=.unOp .xor t x):Q9 P gs ds o (A5Q (C3 gs ds x)):=by
 intro lo tm v hv f a w hG hE;have hx:=F0 hG hE x;unfold A5Q at hv;rcases Bh (G4 (C3 gs ds x) lo tm) (fun kd a=>bif rG kd then none else Kh a (fun a=>bif Nat.blt a (AQ kd) then AD kd (Nat.sub (Nat.sub (AQ kd) 1) a) else none) none) none with⟨k,z,e,h⟩|h
 · rw[h] at hv;rw[e] at hx;have hx:=hx.Y8;cases hs:rG k with
   | true=>rw[hs] at hv;cases hv
   | false =>
    rw[hs] at hv;have hv':Kh z (fun a=>bif Nat.blt a (AQ k) then AD k (Nat.sub (Nat.sub (AQ k) 1) a) else none) none=some v:=hv;rcases Jp z (fun a=>bif Nat.blt a (AQ k) then AD k (Nat.sub (Nat.sub (AQ k) 1) a) else none) none with⟨n,rfl,e'⟩|e'
    · rw[e'] at hv';obtain⟨h1,h2⟩:=L7 hv';rw[Aa] at h2;cases h2;have hlt:=Nat.blt_eq.mp h1;refine⟨_,?_,.int _ _⟩;have hM:=AFv k;have hsg:k.signed=false:=by trivial
      have hmax:(k.max:Int)=((2^k.bits-1:Nat):Int):=by unfold IntKind.max;grind
      have hn:(BitVec.ofInt k.bits k.max)=BitVec.allOnes k.bits:=by rw[hmax,FD];apply BitVec.eq_of_toNat_eq;simp
      have e2:(Op.intBits .xor k k.max (n:Int)).run P w=.ok (.int k ((AQ k-1-n:Nat):Int)) w:=by
       simp only[Op.intBits,hn,FD,Cw];congr 2;rw[BitVec.allOnes_xor,BitVec.toNat_not,rX,←hM,Hi hlt];have hh:half k=AQ k:=by cases k<;>first|rfl|cases hs
       exact Kv k _ (by rw[hh];omega)
      simp only[execOp,ho,hx,Op.unary,hsg,z6];simp_all
    ·rw[e'] at hv';cases hv'
 ·rw[h] at hv;cases hv
theorem AB5{s d:TypeId}{k:IntKind}{ts:TypeDesc}(ho:o.op=.convert s d x)(hs:P.underlying s=some ts)(hd:P.underlying d=some (.int k)):Q9 P gs ds o (Xc k (C3 gs ds x)):=by
 intro lo tm v hv f a w hG hE;have hx:=F0 hG hE x;unfold Xc at hv;rcases Bh (G4 (C3 gs ds x) lo tm) (fun _ a=>GA k (W4 k a)) none with⟨k',n,e,h⟩|h
 ·rw[h] at hv;rw[e] at hx;have hx:=hx.Y8;have:=Bo hv;subst this;refine⟨_,?_,.int _ _⟩;simp only[execOp,ho,hx,convert,z6,run_underlying hs,run_underlying hd,CB];cases ts<;>simp[Conv.intToInt,IQ]
 ·rw[h] at hv;cases hv
theorem A3u{s d:TypeId}(ho:o.op=.convert s d x)(hs:P.underlying s=some .string)(hd:P.underlying d=some .string):Q9 P gs ds o (Yb (C3 gs ds x)):=by
 intro lo tm v hv f a w hG hE;have hx:=F0 hG hE x;unfold Yb at hv;rcases Ft (G4 (C3 gs ds x) lo tm) (fun s=>some (Value.string s)) none with⟨b,e,h⟩|h
 ·rw[h] at hv;rw[e] at hx;have hx:=hx.Bn;cases hv;exact⟨_,by simp[execOp,ho,hx,convert,run_underlying hs,run_underlying hd],.string _⟩
 ·rw[h] at hv;cases hv
theorem AKD(ho:o.op=.makeInterface t x)(ht:P.underlying t=some d)(hd:∀ms,d≠.interface ms):Q9 P gs ds o (A2h t (C3 gs ds x)):=by intro lo tm v hv f a w hG hE;cases hv;refine⟨_,?_,F5.AKP (F0 hG hE x)⟩;simp only[execOp,ho,Instr.makeInterface,z6,run_underlying ht,CB];rfl
theorem AKd{g:FuncId}(ho:o.op=.makeFunc (.func g) first cap):Q9 P gs ds o (A5V g (first.toList.map (C3 gs ds)) (cap.toList.map (C3 gs ds))):=by
 intro lo tm v hv f a w hG hE;cases hv;have h1:=(Jl hG hE first.toList)
 have h2:=(Jl hG hE cap.toList)
 refine⟨.func (.func g) (first.map a.eval) (cap.map a.eval),by simp[execOp,ho,Instr.makeFunc],?_⟩;have e1:first.map a.eval=(first.toList.map a.eval).toArray:=nw.1 (by simp only[yW])
 have e2:cap.map a.eval=(cap.toList.map a.eval).toArray:=nw.1 (by simp only[yW]);rw[e1,e2];exact .func _ _ _ _ _ (by simpa using h1.1) (by simpa using h2.1) h1.Nr.2 h2.Nr.2
theorem AH7{g:Fn}(ho:o.op=.makeFunc g first cap):Q9 P gs ds o (ARo g (first.toList.map (C3 gs ds)) (cap.toList.map (C3 gs ds))):=by
 intro lo tm v hv f a w hG hE;cases hv;have h1:=(Jl hG hE first.toList)
 have h2:=(Jl hG hE cap.toList)
 refine⟨.func g (first.map a.eval) (cap.map a.eval),by simp[execOp,ho,Instr.makeFunc],?_⟩;have e1:first.map a.eval=(first.toList.map a.eval).toArray:=nw.1 (by simp only[yW])
 have e2:cap.map a.eval=(cap.toList.map a.eval).toArray:=nw.1 (by simp only[yW]);rw[e1,e2];exact .func _ _ _ _ _ (by simpa using h1.1) (by simpa using h2.1) h1.Nr.2 h2.Nr.2
theorem A7n(ho:o.op=.nilCheck x):Q9 P gs ds o (An (C3 gs ds x)):=by
 intro lo tm v hv f a w hG hE;have hx:=F0 hG hE x;unfold An dj at hv;generalize G4 (C3 gs ds x) lo tm=vx at *;cases vx with
 | pointer p =>
  cases p with
  | none=>cases hv
  | some p =>
   cases hv;obtain⟨hs,i,hi,hxe⟩:=hx.FK;refine⟨a.eval x,?_,hx⟩;simp[execOp,ho,hxe]
 | func g p q =>
  cases g with
  | func g =>
   cases hv;obtain⟨p',q',hxe,_,_⟩:=hx.ABO;refine⟨a.eval x,?_,hx⟩;simp[execOp,ho,hxe]
  | _=>cases hv
 | _=>cases hv
theorem AEN{l:List A0}(h:i<l.length):nth l i=l[i]:=by
 induction l generalizing i with
 | nil=>simp at h
 | cons a l ih =>
  cases i with
  | zero=>rfl
  | succ i=>exact ih (by simpa using h)
theorem M7.get{f:Map}{l:List A0}(h:M7 f l l')(hi:i<l.length):∃v',l'[i]?=some v'∧F5 f (nth l i) v':=by rw[AEN hi];exact h.2 i _ (by simp[hi])
theorem Yz(n:Nat)(l:List α):gg n l=l.drop n:=by
 induction n generalizing l with
 | zero=>rfl
 | succ n ih =>
  cases l with
  | nil=>rfl
  | cons a l=>exact ih l
theorem OF(n:Nat)(l:List α):KK n l=l.take n:=by
 induction n generalizing l with
 | zero=>rfl
 | succ n ih =>
  cases l with
  | nil=>rfl
  | cons a l=>show a::KK n l=_;rw[ih];rfl
theorem M7.drop{f:Map}{l:List A0}(h:M7 f l l')(n:Nat):M7 f (l.drop n) (l'.drop n):=by refine⟨by simp[h.1],fun i v hv=>?_⟩;rw[AEW] at hv ⊢;exact h.2 _ v hv
theorem M7.take{f:Map}{l:List A0}(h:M7 f l l')(n:Nat):M7 f (l.take n) (l'.take n):=by
 refine⟨by simp[h.1],fun i v hv=>?_⟩;rw[jU] at hv ⊢;split at hv
 ·rename_i hi;rw[if_pos hi];exact h.2 _ v hv
 ·cases hv
theorem uE{f:Map}{l:List A0}(h:M7 f l cs.toList)(hv:JZ off l=some v):∃v',cs[off]?=some v'∧F5 f v v':=by unfold JZ at hv;obtain⟨h1,h2⟩:=L7 hv;have hlt:=Nat.blt_eq.mp h1;rw[R4] at hlt;cases h2;obtain⟨v',a,b⟩:=h.get hlt;grind
theorem A7e{f:Map}{l:List A0}{n:Nat}(h:M7 f l cs.toList)(hv:qz off n l=some v):F5 f v (.agg (cs.extract off (off+n))):=by
 unfold qz at hv;obtain⟨h1,h2⟩:=L7 hv;cases h2;rw[OF,Yz];have:=F5.aj ((h.drop off).take n);have e:cs.extract off (off+n)=(((cs.toList.drop off).take n).toArray):=by grind
 rw[e];exact this
theorem FR(h:T3 P t=false)(hu:P.underlying t=some d)(w:World):(isAgg t).run P w=.ok false w:=by unfold T3 at h;rw[hu] at h;simp only[isAgg,z6,run_underlying hu,CB];cases d<;>first|rfl|cases h
theorem Hm(h:T3 P t=true)(w:World):(isAgg t).run P w=.ok true w:=by
 unfold T3 at h;cases hu:P.underlying t with
 | none=>rw[hu] at h;cases h
 | some d =>
  rw[hu] at h;simp only[isAgg,z6,run_underlying hu,CB];cases d<;>first|rfl|cases h
theorem run_sizeOf(hu:P.underlying t=some d)(w:World):(sizeOf t).run P w=.ok (sz P t) w:=by
 unfold Program.underlying at hu;cases hi:P.info? t with
 | none=>rw[hi] at hu;cases hu
 | some i=>simp[sizeOf,typeInfo,hi,sz,Program.cellsOf]
theorem AGt{s:TypeId}(ho:o.op=.field s x i)(hs:P.underlying s=some (.struct fs))(hf:fs[i]?=some fd)(hd:P.underlying fd.type=some d)(hagg:T3 P fd.type=false):Q9 P gs ds o (mV fd.offset (C3 gs ds x)):=by
 intro lo tm v hv f a w hG hE;have hx:=F0 hG hE x;unfold mV at hv;rcases Pz (G4 (C3 gs ds x) lo tm) (JZ fd.offset) none with⟨c,e,h⟩|h
 ·rw[h] at hv;rw[e] at hx;obtain⟨c',hxe,hl⟩:=hx.QC;obtain⟨v',h1,h2⟩:=uE hl hv;refine⟨v',?_,h2⟩;simp[execOp,ho,Instr.field,run_underlying hs,hf,hxe,asAgg,part,FR hagg hd,h1]
 ·rw[h] at hv;cases hv
theorem AIq{s:TypeId}(ho:o.op=.field s x i)(hs:P.underlying s=some (.struct fs))(hf:fs[i]?=some fd)(hd:P.underlying fd.type=some d)(hagg:T3 P fd.type=true):Q9 P gs ds o (AEj fd.offset (sz P fd.type) (C3 gs ds x)):=by
 intro lo tm v hv f a w hG hE;have hx:=F0 hG hE x;unfold AEj at hv;rcases Pz (G4 (C3 gs ds x) lo tm) (qz fd.offset (sz P fd.type)) none with⟨c,e,h⟩|h
 ·rw[h] at hv;rw[e] at hx;obtain⟨c',hxe,hl⟩:=hx.QC;refine⟨_,?_,A7e hl hv⟩;simp[execOp,ho,Instr.field,run_underlying hs,hf,hxe,asAgg,part,Hm hagg,run_sizeOf hd]
 ·rw[h] at hv;cases hv
theorem AKb(ho:o.op=.extract x i):Q9 P gs ds o (XZ i (C3 gs ds x)):=by
 intro lo tm v hv f a w hG hE;have hx:=F0 hG hE x;unfold XZ at hv;rcases AOO (G4 (C3 gs ds x) lo tm) (JZ i) none with⟨c,e,h⟩|h
 ·rw[h] at hv;rw[e] at hx;obtain⟨c',hxe,hl⟩:=hx.AO3;obtain⟨v',h1,h2⟩:=uE hl hv;exact⟨v',by simp[execOp,ho,Instr.extract,hxe,h1],h2⟩
 ·rw[h] at hv;cases hv
theorem AMM{i:Operand}{e:TypeId}{n:Nat}(ho:o.op=.index t x i)(ht:P.underlying t=some (.array n e))(hd:P.underlying e=some d)(hagg:T3 P e=false)(hs:sz P e=1):
 Q9 P gs ds o (AOK n (C3 gs ds x) (C3 gs ds i)):=by
 intro lo tm v hv f a w hG hE;have hx:=F0 hG hE x;have hi:=F0 hG hE i;unfold AOK at hv;rcases He (G4 (C3 gs ds i) lo tm) (fun i=>Oh (G4 (C3 gs ds x) lo tm) (fun l=>bif Nat.blt i n then JZ i l else none) none) none with⟨k,m,e1,h1⟩|h1
 · rw[h1] at hv;rw[e1] at hi;rcases Pz (G4 (C3 gs ds x) lo tm) (fun l=>bif Nat.blt m n then JZ m l else none) none with⟨c,e2,h2⟩|h2
   ·rw[h2] at hv;rw[e2] at hx;have hi:=hi.Y8;obtain⟨c',hxe,hl⟩:=hx.QC;obtain⟨hb,hv2⟩:=L7 hv;have hlt:=Nat.blt_eq.mp hb;obtain⟨v',h3,h4⟩:=uE hl hv2;refine⟨v',?_,h4⟩;simp[execOp,ho,Instr.index,hi,asIntOf,run_underlying ht,hxe,hlt,run_sizeOf hd,hs,part,FR hagg hd,h3]
   ·rw[h2] at hv;cases hv
 ·rw[h1] at hv;cases hv
theorem AJs{i:Operand}{e:TypeId}{n:Nat}(ho:o.op=.index t x i)(ht:P.underlying t=some (.array n e))(hd:P.underlying e=some d)(hagg:T3 P e=true):
 Q9 P gs ds o (AO4 n (sz P e) (C3 gs ds x) (C3 gs ds i)):=by
 intro lo tm v hv f a w hG hE;have hx:=F0 hG hE x;have hi:=F0 hG hE i;unfold AO4 at hv;rcases He (G4 (C3 gs ds i) lo tm) (fun i=>Oh (G4 (C3 gs ds x) lo tm) (fun l=>bif Nat.blt i n then qz (Nat.mul i (sz P e)) (sz P e) l else none) none) none with⟨k,m,e1,h1⟩|h1
 · rw[h1] at hv;rw[e1] at hi;rcases Pz (G4 (C3 gs ds x) lo tm) (fun l=>bif Nat.blt m n then qz (Nat.mul m (sz P e)) (sz P e) l else none) none with⟨c,e2,h2⟩|h2
   ·rw[h2] at hv;rw[e2] at hx;have hi:=hi.Y8;obtain⟨c',hxe,hl⟩:=hx.QC;obtain⟨hb,hv2⟩:=L7 hv;have hlt:=Nat.blt_eq.mp hb;refine⟨_,?_,A7e hl hv2⟩;simp[execOp,ho,Instr.index,hi,asIntOf,run_underlying ht,hxe,hlt,run_sizeOf hd,part,Hm hagg]
   ·rw[h2] at hv;cases hv
 ·rw[h1] at hv;cases hv
theorem AE6(l:List UInt8)(i:Nat):YH l i=l[i]?:=by
 induction l generalizing i with
 | nil=>rfl
 | cons a l ih =>
  cases i with
  | zero=>rfl
  | succ i=>exact ih i
theorem AA2{i:Operand}(ho:o.op=.index t x i)(ht:P.underlying t=some .string):Q9 P gs ds o (Mv (C3 gs ds x) (C3 gs ds i)):=by
 intro lo tm v hv f a w hG hE;have hx:=F0 hG hE x;have hi:=F0 hG hE i;unfold Mv at hv;rcases He (G4 (C3 gs ds i) lo tm) (fun i=>Hq (G4 (C3 gs ds x) lo tm) (fun s=>R5 (YH (bl s) i) (fun b=>AD .u8 b.toNat) none) none) none with⟨k,m,e1,h1⟩|h1
 · rw[h1] at hv;rw[e1] at hi;rcases Ft (G4 (C3 gs ds x) lo tm) (fun s=>R5 (YH (bl s) m) (fun b=>AD .u8 b.toNat) none) none with⟨s,e2,h2⟩|h2
   · rw[h2] at hv;rw[e2] at hx;have hi:=hi.Y8;have hx:=hx.Bn;obtain⟨b,hb,hv⟩:=V8 _ _ hv;rw[Aa] at hv;cases hv;rw[AE6] at hb;refine⟨_,?_,.int _ _⟩;have hlt:m<s.size:=by
      have:=(Fe.1 hb).1;rwa[Bm] at this
     have hsb:s[m]?=some b:=by
      have h3:(bl s)[m]?=s[m]?:=by rw[getElem?_pos s m hlt,X0 (by rw[Bm];exact hlt)];rfl
      rw[←h3];exact hb
     simp[execOp,ho,Instr.index,hi,asIntOf,run_underlying ht,hx,hsb]
   ·rw[h2] at hv;cases hv
 ·rw[h1] at hv;cases hv
end
section
variable {P:Program} {gs:List Nat} {ds:List (Option Tmp)} {o:Oper}
theorem Ou(b o n:Nat):(Addr.add ⟨b,o,none⟩ n)=⟨b,o+n,none⟩:=by unfold Addr.add;simp
theorem AGV{s:TypeId}(ho:o.op=.fieldAddr s x i)(hs:P.underlying s=some (.struct fs))(hf:fs[i]?=some fd)(hd:P.underlying fd.type=some d)(hz:sz P fd.type≠0):Q9 P gs ds o (iJ fd.offset (C3 gs ds x)):=by
 intro lo tm v hv f a w hG hE;have hx:=F0 hG hE x;unfold iJ at hv;rcases Ha (G4 (C3 gs ds x) lo tm) (fun b o=>C8 (Nat.add o fd.offset) fun o=>some (C2 b o)) none with⟨p,e,h⟩|h
 ·rw[h,C1] at hv;rw[e] at hx;cases hv;obtain⟨hsp,im,hi,hxe⟩:=hx.FK;refine⟨.pointer (some ⟨im.S6,im.o+(p.off+fd.offset),none⟩),?_,.ptr _ _ im hi⟩;simp[execOp,ho,Instr.fieldAt,run_underlying hs,hf,hxe,Instr.sureAddr,fieldPlace,run_sizeOf hd,hz,Ou,Es]
 ·rw[h] at hv;cases hv
theorem ACy{i:Operand}{e:TypeId}{n:Nat}(ho:o.op=.indexAddr t x i)(ht:P.underlying t=some (.array n e))(hd:P.underlying e=some d):
 Q9 P gs ds o (QK n (sz P e) (C3 gs ds x) (C3 gs ds i)):=by
 intro lo tm v hv f a w hG hE;have hx:=F0 hG hE x;have hi:=F0 hG hE i;unfold QK at hv;rcases He (G4 (C3 gs ds i) lo tm) (fun i=>FE (G4 (C3 gs ds x) lo tm) (fun b o=>bif Nat.blt i n then C8 (Nat.add o (Nat.mul i (sz P e))) fun o=>some (C2 b o) else none) none) none with⟨k,m,e1,h1⟩|h1
 · rw[h1] at hv;rw[e1] at hi;rcases Ha (G4 (C3 gs ds x) lo tm) (fun b o=>bif Nat.blt m n then C8 (Nat.add o (Nat.mul m (sz P e))) fun o=>some (C2 b o) else none) none with⟨p,e2,h2⟩|h2
   ·rw[h2] at hv;rw[e2] at hx;have hi:=hi.Y8;obtain⟨hsp,im,him,hxe⟩:=hx.FK;obtain⟨hb,hv2⟩:=L7 hv;rw[C1] at hv2;cases hv2;have hlt:=Nat.blt_eq.mp hb;refine⟨.pointer (some ⟨im.S6,im.o+(p.off+m*sz P e),none⟩),?_,.ptr _ _ im him⟩;simp[execOp,ho,Instr.indexAt,hi,asIntOf,run_underlying ht,hxe,Instr.sureAddr,hlt,run_sizeOf hd,Ou,Es]
   ·rw[h2] at hv;cases hv
 ·rw[h1] at hv;cases hv
theorem F5.DV{f:Map}{a:Addr}{l:Nat}(h:F5 f (.slice (some a) l c) v'):∃i,f a.block=some i ∧
 ((c<R8∧l≤c∧v'=.slice (some ⟨i.S6,i.o+a.off,none⟩) l c) ∨
  (∃lb o' c',c=R8*(i.s+1)+lb∧lb<R8∧l≤lb∧lb≤c'∧(o'=i.o+a.off∨lb=0)∧o'+c'*i.s≤i.n∧v'=.slice (some ⟨i.S6,o',none⟩) l c')):=by
 cases h with
 | slice b o _ _ i h hc hl=>grind
 | Z9 b o _ _ lb i o' c' h hc hlb hl hb ho hn=>exact⟨i,h,.inr ⟨lb,o',c',hc,hlb,hl,hb,ho,hn,rfl⟩⟩
theorem F5.AKA{f:Map}{a:Addr}{l:Nat}(h:F5 f (.slice (some a) l c) v')(hl:0<l):∃i c',f a.block=some i∧v'=.slice (some ⟨i.S6,i.o+a.off,none⟩) l c':=by
 obtain⟨i,hi,h|⟨lb,o',c',_,_,h1,_,h2,_,h3⟩⟩:=h.DV
 ·exact⟨i,c,hi,h.2.2⟩
 grind
theorem AGO{i:Operand}{e:TypeId}(ho:o.op=.indexAddr t x i)(ht:P.underlying t=some (.slice e))(hd:P.underlying e=some d):
 Q9 P gs ds o (Gi (sz P e) (C3 gs ds x) (C3 gs ds i)):=by
 intro lo tm v hv f a w hG hE;have hx:=F0 hG hE x;have hi:=F0 hG hE i;unfold Gi at hv;rcases He (G4 (C3 gs ds i) lo tm) (fun i=>Np (G4 (C3 gs ds x) lo tm) (fun b o l _=>bif Nat.blt i l then C8 (Nat.add o (Nat.mul i (sz P e))) fun o=>some (C2 b o) else none) (fun _ _=>none) none) none with⟨k,m,e1,h1⟩|h1
 · rw[h1] at hv;rw[e1] at hi;rcases Wv (G4 (C3 gs ds x) lo tm) (fun b o l _=>bif Nat.blt m l then C8 (Nat.add o (Nat.mul m (sz P e))) fun o=>some (C2 b o) else none) (fun _ _=>none) none with⟨p,l,c,e2,h2⟩|⟨l,c,e2,h2⟩|h2
   ·rw[h2] at hv;rw[e2] at hx;have hi:=hi.Y8;obtain⟨hb,hv2⟩:=L7 hv;have hlt:=Nat.blt_eq.mp hb;obtain⟨im,c',him,hxe⟩:=hx.AKA (by omega);rw[C1] at hv2;cases hv2;refine⟨.pointer (some ⟨im.S6,im.o+(p.off+m*sz P e),none⟩),?_,.ptr _ _ im him⟩;simp[execOp,ho,Instr.indexAt,hi,asIntOf,run_underlying ht,hxe,hlt,run_sizeOf hd,Ou,Es]
   ·rw[h2] at hv;cases hv
   ·rw[h2] at hv;cases hv
 ·rw[h1] at hv;cases hv
theorem BF{x:Option Operand}{tm:T A0}{d t:Nat}{k:Nat→Option A0}{r:A0}(h:m9 (x.map (C3 gs ds)) lo tm d t k none=some r):
 ∃n,k n=some r∧((x=none∧n=d)∨∃y kd,x=some y∧n≤t∧∀f (a:Act),Dr gs f→Env f ds lo tm a.tmps→a.eval y=.int kd (n:Int)):=by
 cases x with
 | none=>exact⟨d,h,.inl ⟨rfl,rfl⟩⟩
 | some y =>
  have h':Hw (G4 (C3 gs ds y) lo tm) (fun i=>bif Nat.ble i t then C8 i k else none) none=some r:=h;rcases He (G4 (C3 gs ds y) lo tm) (fun i=>bif Nat.ble i t then C8 i k else none) none with⟨kd,n,e,h1⟩|h1
  ·rw[h1] at h';obtain⟨h2,h3⟩:=L7 h';rw[C1] at h3;refine⟨n,h3,.inr ⟨y,kd,rfl,Nat.ble_eq.mp h2,fun f a hG hE=>?_⟩⟩;have:=F0 hG hE y;rw[e] at this;exact this.Y8
  ·rw[h1] at h';cases h'
theorem Jt{n y:Nat}{code:BoundsCode}(h:n≤y):(Instr.sliceBound (.int kd (n:Int)) y code).run P w=.ok n w:=by simp[Instr.sliceBound,asIntOf,h]
theorem Hy{isSlice:Bool}{ln cp:Nat}{x y:Option Operand}{a:Act}(hh:(y=none∧hi=ln)∨∃z kd,y=some z∧hi≤cp∧a.eval z=.int kd (hi:Int))(hl:(x=none∧lw=0)∨∃z kd,x=some z∧lw≤hi∧a.eval z=.int kd (lw:Int)):
 (Instr.sliceBounds isSlice ln cp (x.map a.eval) (y.map a.eval) none).run P w=.ok (lw,hi,cp) w:=by
 unfold Instr.sliceBounds;rcases hh with⟨rfl,rfl⟩|⟨z,kd,rfl,h1,h2⟩<;>rcases hl with⟨rfl,rfl⟩|⟨z',kd',rfl,h3,h4⟩<;>simp_all[Jt]
theorem qq{o s:Nat}(h:Rd b o s lw hi m=some v):v=F8 b (o+lw*s) (hi-lw) (m-lw):=by unfold Rd at h;rw[C1,C1,C1] at h;cases h;rfl
theorem Zs{f:Map}{o s:Nat}{i:VT}(hi':f b=some i)(hlh:lw≤hi)(hhm:hi≤m)(hm:m<R8)(h:Jn b o s lw hi m=some v):
 F5 f v (.slice (some (if m=lw then(⟨i.S6,i.o+o,none⟩:Addr) else(Addr.add ⟨i.S6,i.o+o,none⟩ (lw*s)))) (hi-lw) (m-lw)):=by
 unfold Jn at h;cases hb:Nat.beq lw m with
 | true =>
  rw[hb] at h;cases h;have:=T9 hb;subst this;have:hi=lw:=by omega
  subst this;rw[if_pos rfl,Wj];constructor<;>grind
 | false =>
  rw[hb] at h;have:=qq h;subst this;have hne:¬m=lw:=fun e=>by subst e;simp at hb
  rw[if_neg hne,Ou,Es];constructor<;>grind
theorem BV(h:c<R8):T6 c=false∧sure c=c:=by
 have:T6 c=false:=by
  unfold T6;cases hb:Nat.ble R8 c with
  | false=>rfl
  | true=>have:=Nat.ble_eq.mp hb;omega
 exact⟨this,by unfold sure;rw[this];rfl⟩
theorem CE{s:Nat}(h:c=R8*(s+1)+lb)(hlb:lb<R8):T6 c=true∧sure c=lb∧ARM c=s+1:=by
 have h1:R8≤c:=by subst h;unfold R8;omega
 have h2:T6 c=true:=Nat.ble_eq.mpr h1;refine⟨h2,?_,?_⟩
 ·unfold sure;rw[h2];show c%R8=lb;rw[h,Nat.mul_add_mod];exact Hi hlb
 ·show c/R8=s+1;rw[h,Nat.mul_add_div (by decide),AFa hlb]
theorem AMK{f:Map}{o s:Nat}{i:VT}{o' c':Nat}(hi':f b=some i)(hc:c=R8*(i.s+1)+lb)(hlb:lb<R8)(hb:lb≤c')(ho:o'=i.o+o∨lb=0)(hn:o'+c'*i.s≤i.n)(hlh:lw≤hi)(hhm:hi≤lb)(h:dM b o s lw hi c=some v):
 F5 f v (.slice (some (if c'=lw then(⟨i.S6,o',none⟩:Addr) else(Addr.add ⟨i.S6,o',none⟩ (lw*s)))) (hi-lw) (c'-lw)):=by
 obtain⟨_,hs,hz⟩:=CE hc hlb;unfold dM at h;cases hb0:Nat.beq lw 0 with
 | true =>
  rw[hb0] at h;cases h;have:=T9 hb0;subst this;have e:(if c'=0 then(⟨i.S6,o',none⟩:Addr) else(Addr.add ⟨i.S6,o',none⟩ (0*s)))=⟨i.S6,o',none⟩:=by rw[UM];split<;>rfl
  rw[e];exact .Z9 _ _ _ _ lb i o' c' hi' hc hlb (by omega) hb ho hn
 | false =>
  rw[hb0] at h;have hlw:lw≠0:=fun e=>by subst e;simp at hb0
  obtain⟨h1,h2⟩:=L7 h;have hs':i.s=s:=by simp_all
  subst hs';cases hb1:Nat.blt lw (sure c) with
  | true =>
   rw[hb1] at h2;have:=qq h2;subst this;have hlt:=Nat.blt_eq.mp hb1;rw[hs] at hlt;rw[if_neg (by omega),Ou];have hoo:o'=i.o+o:=by omega
   subst hoo;have hmul:lw*i.s+(c'-lw)*i.s=c'*i.s:=by rw[←Mm];congr 1;omega
   rw[Es];exact .Z9 _ _ _ _ (lb-lw) i _ (c'-lw) hi' (by omega) (by omega) (by omega) (by omega) (.inl rfl) (by omega)
  | false =>
   rw[hb1] at h2;have h':C8 (Nat.sub c (sure c)) (fun c=>some (F8 b o 0 c))=some v:=h2;rw[C1] at h';cases h';have hge:¬lw<sure c:=fun e=>by rw[Nat.blt_eq.mpr e] at hb1;cases hb1
   rw[hs] at hge;have e1:hi-lw=0:=by omega
   rw[e1];have hc2:Nat.sub c (sure c)=R8*(i.s+1)+0:=by rw[hs];show c-_=_;omega
   rw[hc2];by_cases hcl:c'=lw
   ·rw[if_pos hcl];exact .Z9 _ _ _ _ 0 i _ _ hi' rfl (by decide) (M8 _) (BB _) (.inr rfl) (by rw[hcl,Wj];omega)
   · rw[if_neg hcl,Ou];have hmul:lw*i.s+(c'-lw)*i.s=c'*i.s:=by rw[←Mm];congr 1;omega
     exact .Z9 _ _ _ _ 0 i _ _ hi' rfl (by decide) (M8 _) (BB _) (.inr rfl) (by omega)
theorem AK3{e:TypeId}{m:Option Operand}(ho:o.op=.slice t x l h m)(ht:P.underlying t=some (.slice e))(hd:P.underlying e=some d):
 Q9 P gs ds o (Ii (sz P e) (C3 gs ds x) (l.map (C3 gs ds)) (h.map (C3 gs ds)) (m.map (C3 gs ds))):=by
 intro lo tm v hv f a w hG hE;have hx:=F0 hG hE x;have hrun:∀(y:A0) w,(Instr.sliceAt t y (l.map a.eval) (h.map a.eval) (m.map a.eval)).run P w=(Instr.slice t y (l.map a.eval) (h.map a.eval) (m.map a.eval)).run P w:=fun y w=>by simp[Instr.sliceAt,run_underlying ht]
 have hop:(execOp a.eval o).run P w=((Instr.slice t (a.eval x) (l.map a.eval) (h.map a.eval) (m.map a.eval)).run P w).andThen fun v w=>.ok (.value v) w:=by simp only[execOp,ho,z6,hrun];rfl
 rw[hop];unfold Ii at hv;rcases Wv (G4 (C3 gs ds x) lo tm) (fun b o l' c=>Option.rec (motive:=fun _=>Option A0) (slice3 (sz P e) (l.map (C3 gs ds)) (h.map (C3 gs ds)) lo tm b o l' c) (fun m=>Le (sz P e) (l.map (C3 gs ds)) (h.map (C3 gs ds)) m lo tm b o c) (m.map (C3 gs ds)))
  (fun l' c=>bif Nat.beq l' 0 then bif Nat.beq c 0 then Option.rec (motive:=fun _=>Option A0) (m9 (h.map (C3 gs ds)) lo tm 0 0 (fun _=>m9 (l.map (C3 gs ds)) lo tm 0 0 (fun _=>some (.slice none 0 0)) none) none) (fun _=>none) (m.map (C3 gs ds)) else none else none) none with⟨p,ln,c,e1,h1⟩|⟨ln,c,e1,h1⟩|h1
 · rw[h1] at hv;rw[e1] at hx;obtain⟨i,hi,hcase⟩:=hx.DV;cases m with
   | none =>
    have hv':m9 (h.map (C3 gs ds)) lo tm ln (sure c) (fun hi=>m9 (l.map (C3 gs ds)) lo tm 0 hi (fun lw=>bif T6 c then dM p.block p.off (sz P e) lw hi c else Jn p.block p.off (sz P e) lw hi c) none) none=some v:=hv;obtain⟨hn,hv1,hh⟩:=BF hv';obtain⟨lw,hv2,hl⟩:=BF hv1;have hlh:lw≤hn:=by omega
    have hl':(l=none∧lw=0)∨∃z kd,l=some z∧lw≤hn∧a.eval z=.int kd (lw:Int):=hl.imp id fun⟨z,kd,e2,q,r⟩=>⟨z,kd,e2,q,r f a hG hE⟩
    rcases hcase with⟨hc,hln,hxe⟩|⟨lb,o',c',hc,hlb,hll,hbc,hoo,hnn,hxe⟩
    · obtain⟨ho1,hs1⟩:=BV hc;rw[ho1] at hv2;rw[hs1] at hh;have hhm:hn≤c:=by omega
      have hh':(h=none∧hn=ln)∨∃z kd,h=some z∧hn≤c∧a.eval z=.int kd (hn:Int):=hh.imp id fun⟨z,kd,e2,q,r⟩=>⟨z,kd,e2,q,r f a hG hE⟩
      have hb:=Hy (P:=P) (w:=w) (isSlice:=true) hh' hl';refine⟨_,?_,Zs hi hlh hhm hc hv2⟩;simp only[A6s,hxe,Instr.slice,z6,run_underlying ht,CB,hb,run_sizeOf hd,Cw];split<;>rfl
    · obtain⟨ho1,hs1,_⟩:=CE hc hlb;rw[ho1] at hv2;rw[hs1] at hh;have hhm:hn≤lb:=by omega
      have hh':(h=none∧hn=ln)∨∃z kd,h=some z∧hn≤c'∧a.eval z=.int kd (hn:Int):=hh.imp id fun⟨z,kd,e2,q,r⟩=>⟨z,kd,e2,by omega,r f a hG hE⟩
      have hb:=Hy (P:=P) (w:=w) (isSlice:=true) hh' hl';refine⟨_,?_,AMK hi hc hlb hbc hoo hnn hlh hhm hv2⟩;simp only[A6s,hxe,Instr.slice,z6,run_underlying ht,CB,hb,run_sizeOf hd,Cw];split<;>rfl
   | some m =>
    have hv':Le (sz P e) (l.map (C3 gs ds)) (h.map (C3 gs ds)) (C3 gs ds m) lo tm p.block p.off c=some v:=hv;unfold Le at hv';have hne:(T6 c&&Nat.beq (sure c) 0)=false:=by grind
    rw[hne] at hv';rw[cond_false] at hv';obtain⟨mn,hv1,hm⟩:=BF (x:=some m) hv';obtain⟨_,e2⟩|⟨m',kd,e2,hms,hme⟩:=hm
    ·trivial
    · cases e2;have hme:=hme f a hG hE;cases h with
      | none=>cases hv1
      | some hh0 =>
       have hv1':m9 ((some hh0).map (C3 gs ds)) lo tm 0 mn (fun hi=>m9 (l.map (C3 gs ds)) lo tm 0 hi (fun lw=>Jn p.block p.off (sz P e) lw hi mn) none) none=some v:=hv1;obtain⟨hn,hv2,hh⟩:=BF hv1';obtain⟨lw,hv3,hl⟩:=BF hv2;have hlh:lw≤hn:=by omega
       obtain⟨e3,_⟩|⟨h',kh,e3,hhm,hhe⟩:=hh
       ·cases e3
       cases e3;have hhe:=hhe f a hG hE;have hmo:mn<R8:=by
        rcases hcase with⟨hc,_,_⟩|⟨lb,o',c',hc,hlb,_⟩
        ·rw[(BV hc).2] at hms;omega
        ·rw[(CE hc hlb).2.1] at hms;omega
       have hbd:∀cp,mn≤cp→(Instr.sliceBounds true ln cp (l.map a.eval) (some (a.eval hh0)) (some (a.eval m))).run P w=.ok (lw,hn,mn) w:=by
        intro cp hcp;unfold Instr.sliceBounds;rw[hme,hhe];rcases hl with⟨rfl,rfl⟩|⟨z,kd2,rfl,q1,q2⟩
        ·simp[Jt hcp,Jt hhm]
        ·have:=q2 f a hG hE;simp[Jt hcp,Jt hhm,this,Jt q1]
       rcases hcase with⟨hc,hln,hxe⟩|⟨lb,o',c',hc,hlb,hll,hbc,hoo,hnn,hxe⟩
       ·rw[(BV hc).2] at hms;refine⟨_,?_,Zs hi hlh hhm hmo hv3⟩;simp only[A08,hxe,Instr.slice,z6,run_underlying ht,CB,hbd c hms,run_sizeOf hd,Cw];split<;>rfl
       · rw[(CE hc hlb).2.1] at hms;by_cases hlb0:lb=0
         ·obtain⟨q1,q2,_⟩:=CE hc hlb;simp_all
         · have hoo':o'=i.o+p.off:=by omega
           subst hoo';refine⟨_,?_,Zs hi hlh hhm hmo hv3⟩;simp only[A08,hxe,Instr.slice,z6,run_underlying ht,CB,hbd c' (by omega),run_sizeOf hd,Cw];split<;>rfl
 · rw[h1] at hv;rw[e1] at hx;generalize hxe:a.eval x=vx at hx;cases hx;obtain⟨hz1,hv⟩:=L7 hv;obtain⟨hz2,hv⟩:=L7 hv;have:=T9 hz1;subst this;have:=T9 hz2;subst this;cases m with
   | some m=>cases hv
   | none =>
    have hv':m9 (h.map (C3 gs ds)) lo tm 0 0 (fun _=>m9 (l.map (C3 gs ds)) lo tm 0 0 (fun _=>some (.slice none 0 0)) none) none=some v:=hv;obtain⟨hn,hv1,hh⟩:=BF hv';obtain⟨lw,hv2,hl⟩:=BF hv1;cases hv2;have hn0:hn=0:=by omega
    have hl0:lw=0:=by omega
    subst hn0;subst hl0;have hh':(h=none∧0=0)∨∃z kd,h=some z∧0≤0∧a.eval z=.int kd ((0:Nat):Int):=hh.imp id fun⟨z,kd,e2,q,r⟩=>⟨z,kd,e2,q,r f a hG hE⟩
    have hl':(l=none∧0=0)∨∃z kd,l=some z∧0≤0∧a.eval z=.int kd ((0:Nat):Int):=hl.imp id fun⟨z,kd,e2,q,r⟩=>⟨z,kd,e2,q,r f a hG hE⟩
    have hb:=Hy (P:=P) (w:=w) (isSlice:=true) hh' hl';refine⟨.slice none 0 0,?_,.AW 0 0⟩;simp only[A6s,Instr.slice,z6,run_underlying ht,CB,hb,run_sizeOf hd,Cw];simp
 ·rw[h1] at hv;cases hv
theorem AL8{e:TypeId}{n:Nat}{m:Option Operand}(ho:o.op=.slice t x l h m)(ht:P.underlying t=some (.array n e))(hn:n<R8)(hd:P.underlying e=some d):
 Q9 P gs ds o (vO n (sz P e) (C3 gs ds x) (l.map (C3 gs ds)) (h.map (C3 gs ds)) (m.map (C3 gs ds))):=by
 intro lo tm v hv f a w hG hE;have hx:=F0 hG hE x;unfold vO at hv;rcases Ha (G4 (C3 gs ds x) lo tm) (fun b o=>Option.rec (motive:=fun _=>Option A0)
  (m9 (h.map (C3 gs ds)) lo tm n n (fun hi=>m9 (l.map (C3 gs ds)) lo tm 0 hi (fun lw=>Jn b o (sz P e) lw hi n) none) none) (fun _=>none) (m.map (C3 gs ds))) none with⟨p,e1,h1⟩|h1
 · rw[h1] at hv;rw[e1] at hx;obtain⟨hsp,i,hi,hxe⟩:=hx.FK;cases m with
   | some m=>cases hv
   | none =>
    have hv':m9 (h.map (C3 gs ds)) lo tm n n (fun hi=>m9 (l.map (C3 gs ds)) lo tm 0 hi (fun lw=>Jn p.block p.off (sz P e) lw hi n) none) none=some v:=hv;obtain⟨hn',hv1,hh⟩:=BF hv';obtain⟨lw,hv2,hl⟩:=BF hv1;have hlh:lw≤hn':=by omega
    have hhm:hn'≤n:=by omega
    have hl':(l=none∧lw=0)∨∃z kd,l=some z∧lw≤hn'∧a.eval z=.int kd (lw:Int):=hl.imp id fun⟨z,kd,e2,q,r⟩=>⟨z,kd,e2,q,r f a hG hE⟩
    have hh':(h=none∧hn'=n)∨∃z kd,h=some z∧hn'≤n∧a.eval z=.int kd (hn':Int):=hh.imp id fun⟨z,kd,e2,q,r⟩=>⟨z,kd,e2,q,r f a hG hE⟩
    have hb:=Hy (P:=P) (w:=w) (isSlice:=false) hh' hl';refine⟨_,?_,Zs hi hlh hhm hn hv2⟩;simp only[execOp,ho,A6s,hxe,Instr.sliceAt,z6,run_underlying ht,Instr.sureAddr,Cw,CB,hb,run_sizeOf hd]
 ·rw[h1] at hv;cases hv
theorem ACq(ho:o.op=.slice t x l h none)(ht:P.underlying t=some .string):
 Q9 P gs ds o (Ll (C3 gs ds x) (l.map (C3 gs ds)) (h.map (C3 gs ds))):=by
 intro lo tm v hv f a w hG hE;have hx:=F0 hG hE x;unfold Ll at hv;rcases Ft (G4 (C3 gs ds x) lo tm) (fun s=>m9 (h.map (C3 gs ds)) lo tm (len (bl s)) (len (bl s)) (fun hi=>m9 (l.map (C3 gs ds)) lo tm 0 hi (fun lw=>Tm (KK (Nat.sub hi lw) (gg lw (bl s)))) none) none) none with⟨s,e1,h1⟩|h1
 · rw[h1] at hv;rw[e1] at hx;have hx:=hx.Bn;obtain⟨hn,hv1,hh⟩:=BF hv;obtain⟨lw,hv2,hl⟩:=BF hv1;cases hv2;rw[R4,Bm] at hh;have hlh:lw≤hn:=by omega
   have hl':(l=none∧lw=0)∨∃z kd,l=some z∧lw≤hn∧a.eval z=.int kd (lw:Int):=hl.imp id fun⟨z,kd,e2,q,r⟩=>⟨z,kd,e2,q,r f a hG hE⟩
   have hh':(h=none∧hn=s.size)∨∃z kd,h=some z∧hn≤s.size∧a.eval z=.int kd (hn:Int):=hh.imp id fun⟨z,kd,e2,q,r⟩=>⟨z,kd,e2,q,r f a hG hE⟩
   have hb:=Hy (P:=P) (w:=w) (isSlice:=false) hh' hl';have hs:s.extract lw hn=O2 (KK (Nat.sub hn lw) (gg lw (bl s))):=by rw[OF,Yz,←A3R (s.extract lw hn)];congr 1;exact Lib.extract_data s lw hn
   refine⟨_,?_,.string _⟩;simp only[execOp,ho,A6s,hx,Instr.sliceAt,Instr.slice,z6,run_underlying ht,CB,hb,Option.isSome_none,A5y,if_false,Cw,hs]
 ·rw[h1] at hv;cases hv
theorem AMF{xt:TypeId}{ok:Bool}{z:A0}(ho:o.op=.typeAssert x xt t ok)(ht:P.underlying t=some d)(hd:∀ms,d≠.interface ms)(hz:(P.info? t).bind (·.zero)=some z)(hp:(c7 z).all j9=true):Q9 P gs ds o (ADL t ok z (C3 gs ds x)):=by
 intro lo tm v hv f a w hG hE;have hx:=F0 hG hE x;have hzr:F5 f z z:=by
  cases z with
  | agg c =>
   refine .agg _ _ rfl fun i hi=>?_;have hm:c.getD i undef∈c.toList:=by rw[gS,AFo hi];simp
   exact F5.plain (Cc.1 hp _ hm)
  | _=>exact F5.plain (Cc.1 hp _ (LZ.2 rfl))
 have hzv:∀w:World,(zeroValue t).run P w=.ok z w:=fun w=>by
  cases hi:P.info? t with
  | none=>rw[hi] at hz;cases hz
  | some i =>
   rw[hi] at hz;have hz':i.zero=some z:=hz;simp[zeroValue,typeInfo,hi,hz']
 have hpair:∀(u u':A0) (b:Bool),F5 f u u'→F5 f (.tuple ⟨[u,.bool b]⟩) (.tuple #[u',.bool b]):=fun u u' b hu =>
  F5.KJ (M7.cons hu (M7.cons (.bool b) (M7.nil f)))
 unfold ADL AXc at hv;rcases fy (G4 (C3 gs ds x) lo tm)
  (fun u v=>bif Nat.beq u t then(Bool.rec (motive:=fun _=>Option A0) (some v) (some (.tuple ⟨[v,.bool true]⟩)) ok) else Bool.rec (motive:=fun _=>Option A0) none (some (.tuple ⟨[z,.bool false]⟩)) ok)
  (Bool.rec (motive:=fun _=>Option A0) none (some (.tuple ⟨[z,.bool false]⟩)) ok) none with⟨u,y,e1,h1⟩|⟨e1,h1⟩|h1
 · rw[h1] at hv;rw[e1] at hx;obtain⟨y',hxe,hy⟩:=hx.dn;cases hb:Nat.beq u t with
   | true =>
    rw[hb] at hv;have:=T9 hb;subst this;cases ok with
    | true =>
     cases hv;refine⟨_,?_,hpair _ y' true hy⟩;simp only[execOp,ho,hxe,Instr.typeAssert,z6,run_underlying ht,CB];cases d<;>first|exact absurd rfl (hd _)|simp
    | false =>
     cases hv;refine⟨y',?_,hy⟩;simp only[execOp,ho,hxe,Instr.typeAssert,z6,run_underlying ht,CB];cases d<;>first|exact absurd rfl (hd _)|simp
   | false =>
    rw[hb] at hv;have hne:¬u=t:=fun e=>by subst e;simp at hb
    cases ok with
    | true =>
     cases hv;refine⟨_,?_,hpair _ z false hzr⟩;simp only[execOp,ho,hxe,Instr.typeAssert,z6,run_underlying ht,CB];cases d<;>first|exact absurd rfl (hd _)|simp[hne,hzv]
    | false=>cases hv
 · rw[h1] at hv;rw[e1] at hx;generalize hxe:a.eval x=vx at hx;cases hx;cases ok with
   | true =>
    cases hv;refine⟨_,?_,hpair _ z false hzr⟩;simp only[execOp,ho,hxe,Instr.typeAssert,z6,run_underlying ht,CB];cases d<;>first|exact absurd rfl (hd _)|simp[hzv]
   | false=>cases hv
 ·rw[h1] at hv;cases hv
end
section
variable {P:Program} {gs:List Nat} {ds:List (Option Tmp)} {o:Oper}
theorem AI(ρ:Operand→A0){b:Builtin}(w:World)(ho:o.op=.call { callee:=.builtin b,args:=args,argTypes:=ats }):
 ∃cs,(execOp ρ o).run P w=(builtin b ats o.type cs (args.map ρ)).run P w:=by
 refine⟨args.map fun x=>match x with|.const _=>true|_=>false,?_⟩;unfold execOp;rw[ho];rfl
theorem DN{a:Array α}{x:α}(h:a.toList=[x]):a=#[x]:=nw.1 h
theorem QN{a:Array α}{x y:α}(h:a.toList=[x,y]):a=#[x,y]:=nw.1 h
theorem AGq{e:TypeId}(ho:o.op=.call { callee:=.builtin .len,args:=args,argTypes:=ats })(ha:args.toList=[x])(hat:ats.toList=[t])(ht:P.underlying t=some (.slice e)):Q9 P gs ds o (Rj (C3 gs ds x)):=by
 intro lo tm v hv f a w hG hE;have hx:=F0 hG hE x;have:=DN ha;subst this;have:=DN hat;subst this;obtain⟨cs,hr⟩:=AI (P:=P) a.eval w ho;rw[hr];unfold Rj at hv;rcases Wv (G4 (C3 gs ds x) lo tm) (fun _ _ l _=>AD .i64 l) (fun l _=>AD .i64 l) none with⟨p,l,c,e1,h1⟩|⟨l,c,e1,h1⟩|h1
 · rw[h1,Aa] at hv;rw[e1] at hx;cases hv;obtain⟨i,hi,⟨_,_,hxe⟩|⟨_,_,_,_,_,_,_,_,_,hxe⟩⟩:=hx.DV
   ·exact⟨_,by simp[builtin,Builtin.len_,hxe,run_underlying ht,goInt],.int _ _⟩
   ·exact⟨_,by simp[builtin,Builtin.len_,hxe,run_underlying ht,goInt],.int _ _⟩
 ·rw[h1,Aa] at hv;rw[e1] at hx;cases hv;generalize hxe:a.eval x=vx at hx;cases hx;exact⟨_,by simp[builtin,Builtin.len_,hxe,run_underlying ht,goInt],.int _ _⟩
 ·rw[h1] at hv;cases hv
theorem AH9(ho:o.op=.call { callee:=.builtin .len,args:=args,argTypes:=ats })(ha:args.toList=[x])(hat:ats.toList=[t])(ht:P.underlying t=some .string):Q9 P gs ds o (rU (C3 gs ds x)):=by
 intro lo tm v hv f a w hG hE;have hx:=F0 hG hE x;have:=DN ha;subst this;have:=DN hat;subst this;obtain⟨cs,hr⟩:=AI (P:=P) a.eval w ho;rw[hr];unfold rU at hv;rcases Ft (G4 (C3 gs ds x) lo tm) (fun s=>AD .i64 (len (bl s))) none with⟨s,e1,h1⟩|h1
 ·rw[h1,Aa,R4,Bm] at hv;rw[e1] at hx;cases hv;have hx:=hx.Bn;exact⟨_,by simp[builtin,Builtin.len_,hx,run_underlying ht,goInt],.int _ _⟩
 ·rw[h1] at hv;cases hv
theorem ye{n:Nat}(ho:o.op=.call { callee:=.builtin .len,args:=args,argTypes:=ats })(ha:args.toList=[x])(hat:ats.toList=[t])(ht:(∃e,P.underlying t=some (.array n e))∨∃p e,P.underlying t=some (.pointer p)∧P.underlying p=some (.array n e)):Q9 P gs ds o (AFB n):=by
 intro lo tm v hv f a w hG hE;have:=DN ha;subst this;have:=DN hat;subst this;obtain⟨cs,hr⟩:=AI (P:=P) a.eval w ho;rw[hr];cases hv;refine⟨.int .i64 (n:Int),?_,.int _ _⟩;rcases ht with⟨e,ht⟩|⟨p,e,ht,hp⟩
 ·simp[builtin,Builtin.len_,run_underlying ht,goInt]
 ·simp[builtin,Builtin.len_,run_underlying ht,run_underlying hp,goInt]
theorem AJZ{e:TypeId}(ho:o.op=.call { callee:=.builtin .cap,args:=args,argTypes:=ats })(ha:args.toList=[x])(hat:ats.toList=[t])(ht:P.underlying t=some (.slice e)):Q9 P gs ds o (A6Y (C3 gs ds x)):=by
 intro lo tm v hv f a w hG hE;have hx:=F0 hG hE x;have:=DN ha;subst this;have:=DN hat;subst this;obtain⟨cs,hr⟩:=AI (P:=P) a.eval w ho;rw[hr];unfold A6Y at hv;rcases Wv (G4 (C3 gs ds x) lo tm) (fun _ _ _ c=>bif T6 c then none else AD .i64 c) (fun _ c=>AD .i64 c) none with⟨p,l,c,e1,h1⟩|⟨l,c,e1,h1⟩|h1
 · rw[h1] at hv;rw[e1] at hx;obtain⟨i,hi,⟨hc,_,hxe⟩|⟨lb,_,_,hc,hlb,_⟩⟩:=hx.DV
   ·rw[(BV hc).1] at hv;have hv':AD .i64 c=some v:=hv;rw[Aa] at hv';cases hv';exact⟨_,by simp[builtin,Builtin.cap_,hxe,run_underlying ht,goInt],.int _ _⟩
   ·rw[(CE hc hlb).1] at hv;cases hv
 ·rw[h1,Aa] at hv;rw[e1] at hx;cases hv;generalize hxe:a.eval x=vx at hx;cases hx;exact⟨_,by simp[builtin,Builtin.cap_,hxe,run_underlying ht,goInt],.int _ _⟩
 ·rw[h1] at hv;cases hv
theorem AB7(ho:o.op=.call { callee:=.builtin .unsafeSliceData,args:=args,argTypes:=ats })(ha:args.toList=[x]):
 Q9 P gs ds o (XJ (C3 gs ds x)):=by
 intro lo tm v hv f a w hG hE;have hx:=F0 hG hE x;have:=DN ha;subst this;obtain⟨cs,hr⟩:=AI (P:=P) a.eval w ho;rw[hr];unfold XJ at hv;rcases Wv (G4 (C3 gs ds x) lo tm) (fun b o l c=>bif Nat.beq l 0 then none else bif Nat.beq c 0 then none else some (C2 b o)) (fun _ _=>some (.pointer none)) none with⟨p,l,c,e1,h1⟩|⟨l,c,e1,h1⟩|h1
 · rw[h1] at hv;rw[e1] at hx;cases hl:Nat.beq l 0 with
   | true=>rw[hl] at hv;cases hv
   | false =>
    rw[hl] at hv;have hl0:0<l:=by
     rcases Br l with h|h
     ·subst h;cases hl
     ·exact h
    have hv1:(bif Nat.beq c 0 then none else some (C2 p.block p.off))=some v:=hv;cases hcb:Nat.beq c 0 with
    | true=>rw[hcb] at hv1;cases hv1
    | false =>
     rw[hcb] at hv1;cases hv1;have hlc:∃i c',f p.block=some i∧a.eval x=.slice (some ⟨i.S6,i.o+p.off,none⟩) l c'∧c'≠0:=by
      obtain⟨i,hi,⟨hc,hlc,hxe⟩|⟨lb,o',c',hc,hlb,hll,hbc,hoo,_,hxe⟩⟩:=hx.DV
      ·grind
      grind
     obtain⟨i,c',hi,hxe,hc0⟩:=hlc;refine⟨_,?_,.ptr _ _ i hi⟩;have e3:∀A ty,Builtin.unsafeSliceData_ ats ty #[.slice (some A) l c']=if c'≠0 then pure (.pointer (some A)) else(do
      if(← viewAt A.block).isSome then pure (.pointer (some A)) else pure (.pointer (some ⟨← newObj (.view A (← elemOf ty)),0,none⟩))):=fun _ _=>rfl
     have e4:(#[x]:Array Operand).map a.eval=#[a.eval x]:=by simp
     rw[e4,hxe];simp only[builtin,z6,e3];rw[if_pos hc0];rfl
 · rw[h1] at hv;rw[e1] at hx;cases hv;generalize hxe:a.eval x=vx at hx;cases hx;refine⟨.pointer none,?_,.nilPtr⟩;have e4:(#[x]:Array Operand).map a.eval=#[a.eval x]:=by simp
   rw[e4,hxe];rfl
 ·rw[h1] at hv;cases hv
end
section
variable {P:Program} {gs:List Nat} {ds:List (Option Tmp)} {o:Oper}
theorem vw(a b:List (Nat×Nat))(x y:List A0):AH (a++b) x y=R5 (AH a x y) (fun t=>Bool.rec (motive:=fun _=>Option Bool) (some false) (AH b x y) t) none:=by
 induction a with
 | nil=>rfl
 | cons i a ih =>
  show R5 (MA i.2 (nth x i.1) (nth y i.1)) (fun t=>Bool.rec (motive:=fun _=>Option Bool) (some false) (AH (a++b) x y) t) none=R5 (R5 (MA i.2 (nth x i.1) (nth y i.1)) (fun t=>Bool.rec (motive:=fun _=>Option Bool) (some false) (AH a x y) t) none) _ none;cases MA i.2 (nth x i.1) (nth y i.1) with
  | none=>rfl
  | some t =>
   cases t with
   | false=>rfl
   | true=>exact ih
def ACa(P:Program)(t:TypeId)(cs:Array A0)(off:Nat)(u:A0):Prop:=if T3 P t then ∃xs,u=.agg xs∧∀k,k<sz P t→xs[k]?=cs[off+k]? else cs[off]?=some u
theorem ACa.agg{u:A0}(h:ACa P t cs off u)(ht:T3 P t=true):∃xs,u=.agg xs∧∀k,k<sz P t→xs[k]?=cs[off+k]?:=by unfold ACa at h;rwa[if_pos ht] at h
theorem ACa.one{u:A0}(h:ACa P t cs off u)(ht:T3 P t=false):cs[off]?=some u:=by unfold ACa at h;grind
theorem Mj{d:Nat}(h:leaves P d t off=some ls):∃td,P.underlying t=some td:=by
 cases d with
 | zero=>cases h
 | succ d =>
  unfold leaves at h;cases hu:P.underlying t with
  | none =>
   rw[hu] at h;have e:R7 P t=4:=by unfold R7;rw[hu]
   have h':(bif Nat.beq (sz P t) 1&&Nat.blt (R7 P t) 4 then some [(off,R7 P t)] else none)=some ls:=h;rw[e] at h';have h1:=(L7 h').1;simp_all
  | some td=>exact⟨td,rfl⟩
theorem Ms{d:Nat}(h:leaves P d t off=some ls)(ht:T3 P t=false):
 ls=[(off,R7 P t)]∧sz P t=1∧R7 P t<4:=by
 cases d with
 | zero=>cases h
 | succ d =>
  obtain⟨td,hu⟩:=Mj h;unfold leaves at h;unfold T3 at ht;rw[hu] at h ht;cases td<;>first
   | (cases ht;done)
   | (have h':(bif Nat.beq (sz P t) 1&&Nat.blt (R7 P t) 4 then some [(off,R7 P t)] else none)=some ls:=h
      obtain⟨h1,h2⟩:=L7 h';simp_all)
theorem A69{d:Nat}{xs:Array A0}{td:TypeDesc}(hl:leaves P d ft (off+fo)=some ls)(hu:P.underlying ft=some td)(hw:∀k,k<m→xs[k]?=cs[off+k]?)(hm:fo+sz P ft≤m)(hex:T3 P ft=false→∃v,cs[off+fo]?=some v):∃u,(∀w:World,(part ft xs fo).run P w=.ok u w)∧ACa P ft cs (off+fo) u:=by
 cases hagg:T3 P ft with
 | true =>
  refine⟨.agg (xs.extract fo (fo+sz P ft)),fun w=>by simp[part,Hm hagg,run_sizeOf hu],?_⟩;unfold ACa;rw[if_pos hagg];refine⟨_,rfl,fun k hk=>?_⟩;rw[Array.getElem?_extract];have e:=hw (fo+k) (by omega);grind
 | false =>
  obtain⟨v,hv⟩:=hex hagg;obtain⟨_,h1,_⟩:=Ms hl hagg;have e:=hw fo (by omega);refine⟨v,fun w=>by simp[part,FR hagg hu,e,hv],?_⟩;unfold ACa;grind
theorem Xf{x:Option (List (Nat×Nat))}{l:List (Option (List (Nat×Nat)))}{r:List (Nat×Nat)}(h:mP (x::l)=some r):∃a b,x=some a∧mP l=some b∧r=a++b:=by have h':R5 x (fun a=>R5 (mP l) (fun b=>some (a++b)) none) none=some r:=h;obtain⟨a,ha,h'⟩:=V8 _ _ h';obtain⟨b,hb,h'⟩:=V8 _ _ h';grind
theorem jA{i:Nat×Nat}{l:List (Nat×Nat)}{x y:List A0}{r:Bool}(h:AH (i::l) x y=some r):∃t,MA i.2 (nth x i.1) (nth y i.1)=some t∧(if t then AH l x y=some r else r=false):=by
 have h':R5 (MA i.2 (nth x i.1) (nth y i.1)) (fun t=>Bool.rec (some false) (AH l x y) t) none=some r:=h;obtain⟨t,ht,h'⟩:=V8 _ _ h';refine⟨t,ht,?_⟩;cases t with
 | false=>cases h';rfl
 | true=>exact h'
theorem qN{a b:List (Nat×Nat)}{x y:List A0}{r:Bool}(h:AH (a++b) x y=some r):∃t,AH a x y=some t∧(if t then AH b x y=some r else r=false):=by
 rw[vw] at h;obtain⟨t,ht,h'⟩:=V8 _ _ h;refine⟨t,ht,?_⟩;cases t with
 | false=>cases h';rfl
 | true=>exact h'
theorem VE{l:List A0}(h:l.length≤i):nth l i=top:=by
 induction l generalizing i with
 | nil=>rfl
 | cons a l ih =>
  cases i with
  | zero=>simp at h
  | succ i=>exact ih (by simpa using h)
theorem Js{tag:Nat}{x y:A0}{t:Bool}(h:MA tag x y=some t):fp x=tag∧AXH x y=some t:=by obtain⟨h1,h2⟩:=L7 h;simp_all
theorem AN4{l:List A0}{t:Bool}(h:AXH (nth l i) (nth l' j)=some t):i<l.length∧j<l'.length:=by
 refine⟨Nat.lt_of_not_ge fun hg=>?_,Nat.lt_of_not_ge fun hg=>?_⟩
 ·rw[VE hg] at h;cases h
 ·rw[VE hg] at h;cases hx:nth l i<;>rw[hx] at h<;>cases h
theorem cP:(R7 P t=1→P.underlying t=some .bool)∧(R7 P t=2→∃k,P.underlying t=some (.int k))∧(R7 P t=3→P.underlying t=some .string):=by unfold R7;grind
theorem Tk{f:Map}{x y x' y':A0}{b:Bool}(hx:F5 f x x')(hy:F5 f y y')(h:MA (R7 P t) x y=some b):
 ∀(d:Nat) (w:World),(Op.equalIn (d+1) t x' y').run P w=.ok b w:=by
 intro d w;obtain⟨ht,h⟩:=Js h;obtain⟨rfl,rfl,h⟩:=A2b hx hy h;rcases h with⟨k,m,n,rfl,rfl,rfl⟩|⟨p,q,rfl,rfl,rfl⟩|⟨p,q,rfl,rfl,rfl⟩
 ·obtain⟨k',hk⟩:=cP.2.1 ht.symm;exact run_equalIn_int w d t k k' m n hk
 ·exact run_equalIn_bool' w d t p q (cP.1 ht.symm)
 ·exact run_equalIn_string w d t p q (cP.2.2 ht.symm)
theorem lD{f:Map}{l:List A0}(h:M7 f l cs.toList)(hi:i<l.length):∃v,cs[i]?=some v∧F5 f (nth l i) v:=by obtain⟨v,a,b⟩:=h.get hi;grind
theorem A8U{f:Map}{l:List A0}{d:Nat}{r:Bool}{xs ys:Array A0}(hl:M7 f l cs.toList)(hl':M7 f l' cs'.toList)(ih:∀t off ls r u v,leaves P d t off=some ls→AH ls l l'=some r→ACa P t cs off u→ACa P t cs' off v→∀D (w:World),(Op.equalIn (d+D) t u v).run P w=.ok r w)(hx:∀k,k<m→xs[k]?=cs[off+k]?)(hy:∀k,k<m→ys[k]?=cs'[off+k]?)(hm:fo+sz P ft≤m)(h:leaves P d ft (off+fo)=some ls)(hr:AH ls l l'=some r):
 ∃u v,∀w:World,(part ft xs fo).run P w=.ok u w∧(part ft ys fo).run P w=.ok v w∧∀D,(Op.equalIn (d+D) ft u v).run P w=.ok r w:=by
 obtain⟨td,hu⟩:=Mj h;have hex:T3 P ft=false→(∃v,cs[off+fo]?=some v)∧∃v,cs'[off+fo]?=some v:=fun hagg=>by obtain⟨rfl,_,_⟩:=Ms h hagg;obtain⟨t,ht,_⟩:=jA hr;obtain⟨h1,h2⟩:=AN4 (Js ht).2;obtain⟨v,hv,_⟩:=lD hl h1;obtain⟨v',hv',_⟩:=lD hl' h2;grind
 obtain⟨u,hu1,hu2⟩:=A69 h hu hx hm fun e=>(hex e).1;obtain⟨v,hv1,hv2⟩:=A69 h hu hy hm fun e=>(hex e).2;exact⟨u,v,fun w=>⟨hu1 w,hv1 w,fun D=>ih _ _ _ _ _ _ h hr hu2 hv2 D w⟩⟩
theorem AIC{f:Map}{l:List A0}(hl:M7 f l cs.toList)(hl':M7 f l' cs'.toList):∀(d:Nat) (t:TypeId) (off:Nat) (ls:List (Nat×Nat)) (r:Bool) (u v:A0),
 leaves P d t off=some ls→AH ls l l'=some r→ACa P t cs off u→ACa P t cs' off v→∀D (w:World),(Op.equalIn (d+D) t u v).run P w=.ok r w:=by
 intro d;induction d with
 | zero=>intro t off ls r u v h;cases h
 | succ d ih =>
  intro t off ls r u v h hr hu hv D w;rw[show d+1+D=(d+D)+1 by omega];cases hagg:T3 P t with
  | false =>
   obtain⟨rfl,_,_⟩:=Ms h hagg;obtain⟨t',ht',hr'⟩:=jA hr;have e:t'=r:=by
    cases t' with
    | false=>exact hr'.symm
    | true=>cases hr';rfl
   subst e;obtain⟨h1,h2⟩:=AN4 (Js ht').2;obtain⟨a,ha,hra⟩:=lD hl h1;obtain⟨b,hb,hrb⟩:=lD hl' h2;have ea:=hu.one hagg;have eb:=hv.one hagg;rw[ha] at ea;rw[hb] at eb;cases ea;cases eb;exact Tk hra hrb ht' _ w
  | true =>
   obtain⟨xs,rfl,hx⟩:=hu.agg hagg;obtain⟨ys,rfl,hy⟩:=hv.agg hagg;obtain⟨td,htd⟩:=Mj h;unfold leaves at h;unfold T3 at hagg;rw[htd] at h hagg;cases td<;>first|(cases hagg;done)|skip
   · rename_i n e;obtain⟨h1,h2⟩:=L7 h;rw[U8] at h1;have hn:=Nat.ble_eq.mp h1.2;have hj:=h2;obtain⟨te,hte⟩:∃te,P.underlying e=some te:=by
      cases n with
      | zero=>exact absurd h1.1 (by decide)
      | succ n=>obtain⟨a,b,ha,hb,_⟩:=Xf hj;exact Mj ha
     have hall:∀i,i∈List.range' 0 n→i*sz P e+sz P e≤sz P t:=fun i hi=>by
      have:i<n:=by simpa using hi
      have:=BY (sz P e) (Nat.succ_le_of_lt this);grind
     simp only[Op.equalIn,z6,run_underlying htd,CB];simp only[Std.Legacy.Range.forIn_eq_forIn_range',Std.Legacy.Range.size,EC,Nat.add_one_sub_one,Nat.div_one];rw[run_sizeOf hte];simp only[CB];clear h h1 h2 htd hu hv hn hte;revert hj hr hall;generalize List.range' 0 n=il;intro hr hj hall;induction il generalizing ls r w with
     | nil=>cases hj;cases hr;simp
     | cons i il ihf =>
      obtain⟨a,b,ha,hb,rfl⟩:=Xf hj;obtain⟨t1,ht1,hr1⟩:=qN hr;obtain⟨u,v,huv⟩:=A8U hl hl' ih hx hy (hall i (by simp)) ha ht1;obtain⟨e1,e2,e3⟩:=huv w;simp only[List.forIn_cons,z6,e1,e2,e3 D,CB];cases t1 with
      | false=>cases hr1;simp
      | true=>simpa using ihf b r w hr1 hb fun j hj=>hall j (by simp[hj])
   · rename_i fs;have h0:(bif P.stoodInHeld t then none else mP (fs.toList.map fun f=>bif f.name != "_" && Nat.ble (f.offset+sz P f.type) (sz P t) then leaves P d f.type (off+f.offset) else none))=some ls:=h;cases hp:P.stoodInHeld t with
     | true=>rw[hp] at h0;cases h0
     | false =>
     rw[hp] at h0;have h1:mP (fs.toList.map fun f=>bif f.name != "_" && Nat.ble (f.offset+sz P f.type) (sz P t) then leaves P d f.type (off+f.offset) else none)=some ls:=h0;have hfs:P.fieldsOf t=fs:=by unfold Program.fieldsOf;rw[htd]
     rw[run_equalIn_struct w (d+D) t xs ys (by rw[hfs];exact htd) hp,hfs];clear h h0 htd hfs hu hv;revert h1 hr;generalize fs.toList=fl;intro hr h';induction fl generalizing ls r w with
     | nil=>cases h';cases hr;simp[Op.eqFields]
     | cons fd fl ihf =>
      obtain⟨a,b,ha,hb,rfl⟩:=Xf h';obtain⟨h1,h2⟩:=L7 ha;rw[U8] at h1;have hble:=Nat.ble_eq.mp h1.2;obtain⟨t1,ht1,hr1⟩:=qN hr;obtain⟨u,v,huv⟩:=A8U hl hl' ih hx hy hble h2 ht1;obtain⟨e1,e2,e3⟩:=huv w;have hname:fd.name ≠ "_" := by simpa using h1.1
      simp only[Op.eqFields,if_pos hname,z6,e1,e2,e3 D,CB];cases t1 with
      | false=>cases hr1;simp
      | true=>simpa using ihf b r w hr1 hb
theorem AEU(neg:Bool){x y:A0}{b:Bool}(h:(Op.equal t x y).run P w=.ok b w)(hb:binOp (if neg then .neq else .eql) t x y=if neg then(do pure (.bool (!(← Op.equal t x y)))) else(do pure (.bool (← Op.equal t x y)))):
 (binOp (if neg then .neq else .eql) t x y).run P w=.ok (.bool (Dp neg (!b))) w:=by
 rw[hb];cases neg<;>cases b<;>simp[h,Dp]
theorem ZY{op:BinOp}(ho:o.op=.binOp op t x y yt)(hop:op=if neg then .neq else .eql)(hg0:P.eqGuardType P.depth t=false)(hls:leaves P 100 t 0=some ls)(ht:T3 P t=true):
 Q9 P gs ds o (XI ls neg (C3 gs ds x) (C3 gs ds y)):=by
 intro lo tm v hv f a w hG hE;have hx:=F0 hG hE x;have hy:=F0 hG hE y;unfold XI at hv;rcases Pz (G4 (C3 gs ds x) lo tm) (fun a=>Oh (G4 (C3 gs ds y) lo tm) (fun b=>R5 (AH ls a b) (fun t=>gB (Dp neg (!t))) none) none) none with⟨c,e1,h1⟩|h1
 · rw[h1] at hv;rw[e1] at hx;rcases Pz (G4 (C3 gs ds y) lo tm) (fun b=>R5 (AH ls c.toList b) (fun t=>gB (Dp neg (!t))) none) none with⟨c2,e2,h2⟩|h2
   · rw[h2] at hv;rw[e2] at hy;obtain⟨b,hb,hv⟩:=V8 _ _ hv;have:=z8 hv;subst this;obtain⟨xs,hxe,hlx⟩:=hx.QC;obtain⟨ys,hye,hly⟩:=hy.QC;refine⟨_,?_,.bool _⟩;subst hop;have hwin:∀zs:Array A0,ACa P t zs 0 (.agg zs):=fun zs=>by
      unfold ACa;grind
     have he:(Op.equal t (.agg xs) (.agg ys)).run P w=.ok b w:=AIC hlx hly 100 t 0 ls b _ _ hls hb (hwin xs) (hwin ys) 9900 w;simp only[execOp,ho,z6,hxe,hye];rw[run_eqGuard_agg _ _ _ _ _ _ _ hg0];have hq:=AEU neg he (by cases neg<;>rfl);simp_all
   ·rw[h2] at hv;cases hv
 ·rw[h1] at hv;cases hv
theorem A92{op:BinOp}{ms:Array (String×TypeId)}(ho:o.op=.binOp op t x y yt)(hop:op=if neg then .neq else .eql)(hu:P.underlying t=some (.interface ms)):
 Q9 P gs ds o (AM5 (ASu P) neg (C3 gs ds x) (C3 gs ds y)):=by
 intro lo tm v hv f a w hG hE;have hx:=F0 hG hE x;have hy:=F0 hG hE y;unfold AM5 at hv;obtain⟨b,hb,hv⟩:=V8 _ _ hv;have:=z8 hv;subst this;refine⟨_,?_,.bool _⟩;subst hop;generalize G4 (C3 gs ds x) lo tm=vx at *;generalize G4 (C3 gs ds y) lo tm=vy at *;simp only[execOp,ho,z6];generalize a.eval x=ux at *;generalize a.eval y=uy at *;have main:(eqGuard (if neg then BinOp.neq else BinOp.eql) t x y ux uy).run P w=.ok () w∧(∀d,(Op.equalIn (d+1+1) t ux uy).run P w=.ok b w) ∧
  binOp (if neg then .neq else .eql) t ux uy=if neg then(do pure (.bool (!(← Op.equal t ux uy)))) else(do pure (.bool (← Op.equal t ux uy))):=by
  cases hx<;>first|(cases hb;done)|skip
  · rename_i t1 a1 a1' h1;cases hy<;>first|(cases hb;done)|skip
    · rename_i t2 a2 a2' h2;refine⟨U0 _ _ _ _ _ _ _ trivial,?_,by cases neg<;>rfl⟩;have hb':(bif Nat.beq t1 t2 then MA (ASu P t1) a1 a2 else some false)=some b:=hb;intro d;by_cases ht:t1=t2
      · subst ht;rw[Dg] at hb';have hb'':MA (ASu P t1) a1 a2=some b:=hb';have htag:=(Js hb'').1;cases hi:P.info? t1 with
        | none =>
         exfalso;unfold ASu at htag;rw[hi] at htag;cases a1<;>cases htag
        | some i =>
         unfold ASu at hb'' htag;rw[hi] at hb'' htag;have hc:i.comparable=true:=by
          cases hc:i.comparable with
          | true=>rfl
          | false =>
           exfalso;have htag':fp a1=(bif i.comparable then R7 P t1 else 4):=htag;rw[hc] at htag';cases a1<;>cases htag'
         have hb3:MA (bif i.comparable then R7 P t1 else 4) a1 a2=some b:=hb'';rw[hc] at hb3;have he:=Tk h1 h2 hb3 d w;revert he;generalize d+1=e;intro he;simp[Op.equalIn,run_underlying hu,typeInfo,hi,hc,he]
      · have e:Nat.beq t1 t2=false:=by
         cases hbq:Nat.beq t1 t2 with
         | false=>rfl
         | true=>simp_all
        rw[e] at hb';cases hb';generalize d+1=e;simp[Op.equalIn,run_underlying hu,ht]
    ·cases hb;exact⟨U0 _ _ _ _ _ _ _ trivial,fun d=>by generalize d+1=e;simp[Op.equalIn,run_underlying hu],by cases neg<;>rfl⟩
  · cases hy<;>first|(cases hb;done)|skip
    cases hb;exact⟨U0 _ _ _ _ _ _ _ trivial,fun d=>by generalize d+1=e;simp[Op.equalIn,run_underlying hu],by cases neg<;>rfl⟩
 obtain⟨hg,he,hbo⟩:=main;rw[hg];have hq:=AEU neg (he 9998) hbo;simp_all
end
end Abs
end Go
end
