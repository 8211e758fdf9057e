/-
A certified evaluator for calls of the program, part 02.
Conditions: none.
-/
import Derived.Laws.Externs
import Derived.Laws.Cells
import Derived.Laws.BytesString
import Derived.Lib.Builder
import Derived.Lib.BytesEntry
import Derived.Calls
import Derived.Orders
import Derived.Laws.MakeOwn
import Derived.Laws.RangeString
import Derived.Laws.IdiomStrings
import Derived.Lib.UnsafeStr
import Derived.Laws.Append
import Derived.Defers
import Derived.Test.YtekknahndoonjaaGreatDoorEval01
set_option linter.all false
noncomputable section
namespace Go
namespace Abs
variable {f f':Map} {args:Array Operand} {ats:Array TypeId} {cs l l' lo new' rest z':List A0} {ao c cap live m na need nt off:Nat} {place:Nat→Option (Nat×Nat)} {R:Type} {tm:T A0} {g:FuncId} {xs:List (Nat×Nat)} {y:Operand} {i:VT} {b ok ro want:Bool} {k' s' v v' x':A0} {d et kt s yt:TypeId} {j:TypeInfo} {bs:List UInt8} {fn:Func} {a' c':List PanicEntry} {h h':Hp} {w':World} {arr:Array A0} {A7:Call} {td:TypeDesc} {es:List (A0×A0)} {r:N7} {ms:List (String×Nat×Nat)} {cx:Cx} {df:Df} {AM:Option A0} {ops:Array Oper} {wp:(Exit→Act→World→Prop)→Prop} {Q:Exit→Act→World→Prop} {cd:C9}
section
variable {P:Program} {gs:List Nat} {ds:List (Option Tmp)} {o:Oper}
theorem APu(mx:Bool)(kd:IntKind)(w:World):∀(l l':List A0) (a:Int) (v:A0),M7 f l l'→AI6 mx l kd a=some v →
 ((l'.foldlM (if mx then Builtin.max2 else Builtin.min2) (.int kd a)).run P w=.ok v w)∧j9 v=true:=by
 intro l;induction l with
 | nil =>
  intro l' a v hl hv;have:=hl.zZ;subst this;have hv':GA kd a=some v:=hv;have:=Bo hv';subst this;exact⟨by simp,rfl⟩
 | cons x l ih =>
  intro l' a v hl hv;obtain⟨x',r,rfl,hx,hr⟩:=hl.Qe;have hv':Bi x (fun _ b=>AI6 mx l kd (bif (Bool.rec (PG b a) (PG a b) mx) then b else a)) none=some v:=hv;rcases Bh x (fun _ b=>AI6 mx l kd (bif (Bool.rec (motive:=fun _=>Bool) (PG b a) (PG a b) mx) then b else a)) none with⟨k,n,rfl,h⟩|h
  · rw[h] at hv';have:=hx.Y8;subst this;obtain⟨h1,h2⟩:=ih r _ v hr hv';refine⟨?_,h2⟩;rw[List.foldlM_cons];cases mx with
    | true =>
     have e:(bif PG a n then n else a)=if n>a then n else a:=by rw[dV];by_cases h:a<n<;>simp[h]
     have h1':(r.foldlM Builtin.max2 (.int kd (bif PG a n then n else a))).run P w=.ok v w:=h1;rw[e] at h1';simpa[Builtin.max2] using h1'
    | false =>
     have e:(bif PG n a then n else a)=if n<a then n else a:=by rw[dV];by_cases h:n<a<;>simp[h]
     have h1':(r.foldlM Builtin.min2 (.int kd (bif PG n a then n else a))).run P w=.ok v w:=h1;rw[e] at h1';simpa[Builtin.min2] using h1'
  ·rw[h] at hv';cases hv'
theorem A0s{mx:Bool}(ho:o.op=.call { callee:=.builtin (if mx then .max else .min),args:=args,argTypes:=ats }):
 Q9 P gs ds o (Re mx (args.toList.map (C3 gs ds))):=by
 intro lo tm v hv f a w hG hE;have hl:=Jl hG hE args.toList;obtain⟨cs,hr⟩:=AI (P:=P) a.eval w ho;rw[hr];unfold Re at hv;generalize XW (args.toList.map (C3 gs ds)) lo tm=l at *;have e4:(args.map a.eval).toList=args.toList.map a.eval:=by simp
 generalize args.toList.map a.eval=l' at *;cases l with
 | nil=>cases hv
 | cons x l =>
  obtain⟨x',r,rfl,hx,hr⟩:=hl.Qe;have hv':Bi x (fun kd a=>AI6 mx l kd a) none=some v:=hv;rcases Bh x (fun kd a=>AI6 mx l kd a) none with⟨k,n,rfl,h⟩|h
  · rw[h] at hv';have:=hx.Y8;subst this;obtain⟨h1,h2⟩:=APu (P:=P) mx k w l r n v hr hv';refine⟨v,?_,F5.plain h2⟩;cases mx with
    | true =>
     have h1':(r.foldlM Builtin.max2 (.int k n)).run P w=.ok v w:=h1;have e5:args.toList.map a.eval=.int k n::r:=by simpa using e4
     simp[builtin,Builtin.max_,e5,h1']
    | false =>
     have h1':(r.foldlM Builtin.min2 (.int k n)).run P w=.ok v w:=h1;have e5:args.toList.map a.eval=.int k n::r:=by simpa using e4
     simp[builtin,Builtin.min_,e5,h1']
  ·rw[h] at hv';cases hv'
theorem pb(z:List A0)(off:Nat)(l:List A0):(over z off l).length=z.length:=by
 induction off generalizing z with
 | zero =>
  induction l generalizing z with
  | nil=>rfl
  | cons v l ih =>
   cases z with
   | nil=>rfl
   | cons x r =>
    have:over (x::r) 0 (v::l)=v::over r 0 l:=rfl;rw[this];simp[ih]
 | succ off ih =>
  cases z with
  | nil=>rfl
  | cons x r =>
   have:over (x::r) (off+1) l=x::over r off l:=rfl;rw[this];simp[ih]
theorem mU(z:List A0)(off:Nat)(l:List A0)(i:Nat)(h:off+l.length≤z.length):(over z off l)[i]?=if off≤i∧i<off+l.length then l[i-off]? else z[i]?:=by
 induction off generalizing z i with
 | zero =>
  induction l generalizing z i with
  | nil=>rfl
  | cons v l ih =>
   cases z with
   | nil=>simp at h
   | cons x r =>
    have:over (x::r) 0 (v::l)=v::over r 0 l:=rfl;rw[this];cases i with
    | zero=>simp
    | succ i =>
     grind
 | succ off ih =>
  cases z with
  | nil=>simp at h
  | cons x r =>
   have:over (x::r) (off+1) l=x::over r off l:=rfl;rw[this];cases i with
   | zero=>simp
   | succ i =>
    grind
theorem AMv(v:Array A0)(cs:Array A0)(off:Nat)(h:off+v.size≤cs.size):
 (v.zipIdx.foldl (fun cs (c,j)=>cs.setIfInBounds (off+j) c) cs).toList=over cs.toList off v.toList:=by
 have main:∀(l:List A0) (k:Nat) (cs:Array A0),off+k+l.length≤cs.size →
  ((l.zipIdx k).foldl (fun cs (c,j)=>cs.setIfInBounds (off+j) c) cs).size=cs.size ∧
  ∀i,((l.zipIdx k).foldl (fun cs (c,j)=>cs.setIfInBounds (off+j) c) cs)[i]?=if off+k≤i∧i<off+k+l.length then l[i-(off+k)]? else cs[i]?:=by
  intro l;induction l with
  | nil=>simp;omega
  | cons x l ih =>
   intro k cs hk;rw[List.zipIdx_cons,List.foldl_cons];obtain⟨h1,h2⟩:=ih (k+1) (cs.setIfInBounds (off+k) x) (by simp at hk ⊢;omega);refine⟨by rw[h1];simp,fun i=>?_⟩;rw[h2];by_cases hi:off+(k+1)≤i∧i<off+(k+1)+l.length
   ·grind
   · rw[if_neg hi];by_cases he:i=off+k
     ·grind
     grind
 have e:v.zipIdx.foldl (fun cs (c,j)=>cs.setIfInBounds (off+j) c) cs=(v.toList.zipIdx 0).foldl (fun cs (c,j)=>cs.setIfInBounds (off+j) c) cs:=by rw[←Array.foldl_toList];simp
 rw[e];obtain⟨h1,h2⟩:=main v.toList 0 cs (by simpa using h);apply xw;intro i;rw[mU _ _ _ _ (by simpa using h)];have:=h2 i;simpa using this
theorem AMR{z:List A0}(hz:M7 f z z')(hl:M7 f l l')(h:off+l.length≤z.length):M7 f (over z off l) (over z' off l'):=by
 have h':off+l'.length≤z'.length:=by rw[←hl.1,←hz.1];exact h
 refine⟨by rw[pb,pb];exact hz.1,fun i v hv=>?_⟩;rw[mU _ _ _ _ h] at hv;rw[mU _ _ _ _ h',←hl.1];split at hv
 ·rename_i hi;rw[if_pos hi];exact hl.2 _ v hv
 ·rename_i hi;rw[if_neg hi];exact hz.2 _ v hv
inductive Yn (gs:List Nat) (ds:List (Option Tmp)) (place:Nat→Option (Nat×Nat)):List (Nat×Operand)→List (Nat×Nat×OD)→Prop where
 | nil:Yn gs ds place [] []
 | cons (i:Nat) (x:Operand) (o n:Nat) (r:List (Nat×Operand)) (l:List (Nat×Nat×OD)) (h:place i=some (o,n)) (hr:Yn gs ds place r l):Yn gs ds place ((i,x)::r) ((o,n,C3 gs ds x)::l)
theorem zr:∀(ps:List (Nat×Operand)) (l:List (Nat×Nat×OD)),Lm gs ds place ps=some l→Yn gs ds place ps l:=by
 intro ps;induction ps with
 | nil=>intro l h;cases h;exact .nil
 | cons p ps ih =>
  intro l h;obtain⟨i,x⟩:=p;unfold Lm at h;cases hp:place i with
  | none=>rw[hp] at h;cases h
  | some on =>
   obtain⟨o,n⟩:=on;rw[hp] at h;cases hc:Lm gs ds place ps with
   | none=>rw[hc] at h;cases h
   | some l'=>rw[hc] at h;cases h;constructor<;>grind
theorem A6q{a:Act}(hG:Dr gs f)(hE:Env f ds lo tm a.tmps)(k:List A0→R)(no:R){ps:List (Nat×Operand)}{l:List (Nat×Nat×OD)}(h:Yn gs ds place ps l):
 ∀(z:List A0) (cs:Array A0),M7 f z cs.toList→CT l lo tm z k no=no∨∃z' cs',CT l lo tm z k no=k z'∧Instr.fill place cs (ps.map fun(i,x)=>(i,a.eval x))=some cs'∧M7 f z' cs'.toList∧z'.length=z.length:=by
 induction h with
 | nil=>intro z cs hz;exact .inr ⟨z,cs,rfl,rfl,hz,rfl⟩
 | cons i x o n r l hp hr ih =>
  intro z cs hz;have hx:=F0 hG hE x;have e:CT ((o,n,C3 gs ds x)::l) lo tm z k no=WG o n (G4 (C3 gs ds x) lo tm) z (fun z=>CT l lo tm z k no) no:=rfl;rw[e];unfold WG;cases ht:TK (G4 (C3 gs ds x) lo tm) with
  | true=>exact .inl rfl
  | false =>
   have hc:=hx.cells ht;cases h1:Nat.beq (len (c7 (G4 (C3 gs ds x) lo tm))) n with
   | false=>exact .inl rfl
   | true =>
    cases h2:Nat.ble (Nat.add o n) (len z) with
    | false=>exact .inl rfl
    | true =>
     have h1:=T9 h1;have h2:=Nat.ble_eq.mp h2;rw[R4] at h1 h2;have h2':o+n≤z.length:=h2;have hsz:(a.eval x).cells.size=n:=by rw[←h1,hc.1];simp
     have hzc:z.length=cs.size:=by rw[hz.1];simp
     show CT l lo tm (over z o (c7 (G4 (C3 gs ds x) lo tm))) k no=no∨_;have hset:=AMv (a.eval x).cells cs o (by omega);generalize hcs:(a.eval x).cells.zipIdx.foldl (fun cs (c,j)=>cs.setIfInBounds (o+j) c) cs=cs1 at hset;have hrel:M7 f (over z o (c7 (G4 (C3 gs ds x) lo tm))) cs1.toList:=by rw[hset];exact AMR hz hc (by omega)
     rcases ih _ cs1 hrel with h|⟨z',cs',g1,g2,g3,g4⟩
     ·exact .inl h
     ·refine .inr ⟨z',cs',g1,?_,g3,by rw[g4,pb]⟩;simp only[AEB,Instr.fill,hp];grind
theorem M7.plain(h:l.all j9=true):M7 f l l:=by
 induction l with
 | nil=>exact M7.nil f
 | cons v l ih =>
  rw[List.all_cons,U8] at h;exact M7.cons (F5.plain h.1) (ih h.2)
theorem Be{t:TypeId}{z:List A0}(h:Hz P t=some z):∃ti v,P.info? t=some ti∧ti.zero=some v∧z=v.cells.toList∧(∀f,M7 f z z)∧z.length=ti.size∧sz P t=ti.size:=by
 unfold Hz at h;cases hi:P.info? t with
 | none=>rw[hi] at h;cases h
 | some ti =>
  rw[hi] at h;cases hz:ti.zero with
  | none=>simp[hz] at h
  | some v =>
   simp only[hz] at h;obtain⟨h1,h2⟩:=L7 h;cases h2;rw[U8] at h1;have h3:=T9 h1.2;rw[R4] at h3;exact⟨ti,v,rfl,hz,AIA v,fun f=>M7.plain h1.1,h3,by simp[sz,Program.cellsOf,hi]⟩
theorem np{t:TypeId}{parts:Array (Nat×Operand)}{z:List A0}{l:List (Nat×Nat×OD)}(ho:o.op=.build t parts)(hz:Hz P t=some z)(hp:(∃fs pl,P.underlying t=some (.struct fs)∧fs.toList.mapM (fun f=>(P.info? f.type).map fun i=>(f.offset,i.size))=some pl∧place=fun i=>pl[i]?) ∨
   ∃n e ie,P.underlying t=some (.array n e)∧P.info? e=some ie∧place=fun i=>some (i*ie.size,ie.size))(hl:Lm gs ds place parts.toList=some l):
 Q9 P gs ds o (T7 z l):=by
 intro lo tm v hv f a w hG hE;obtain⟨ti,vz,hi,hiz,rfl,hzz,_,_⟩:=Be hz;have hpo:=zr _ _ hl;unfold T7 at hv;have hL:=hzz f;rcases A6q hG hE (fun l=>some (Value.agg ⟨l⟩)) none hpo vz.cells.toList vz.cells hL with h|⟨z',cs',h1,h2,h3,_⟩
 ·rw[h] at hv;cases hv
 · rw[h1] at hv;cases hv;refine⟨.agg cs',?_,?_⟩
   · have hb:P.built t (parts.map fun(i,x)=>(i,a.eval x)).toList=some cs':=by
      unfold Program.built;rcases hp with⟨fs,pl,hu,hm,rfl⟩|⟨n,e,ie,hu,he,rfl⟩
      ·simp_all
      simp_all
     have:=run_build w t _ cs' hb;simp only[execOp,ho,z6,this];rfl
   ·have:=F5.aj h3;simpa using this
def Qp(fn:Func)(k:Nat)(e:Array A0→Sem A0):Prop:=match k with
 | 0=>e=Extern.AbiNoEscape.same
 | 1=>e=Extern.BytealgMakeNoZero.makeNoZero fn.params fn.resultTypes
 | 2=>e=Extern.BytealgCount.count
 | 3=>e=Extern.BytealgIndexByte.indexByte
 | 4=>e=Extern.BytealgCompare.compare
 | _=>True
def ANG(P:Program)(xs:List (Nat×Nat)):Prop:=∀g k,xk xs g=some k→∃fn e,P.funcs[g]?=some fn∧(fn.name == "runtime.NumGoroutine")=false∧fn.body.isNone=true∧Extern.findNext fn=none∧Extern.find fn=some e∧Qp fn k e
theorem gI(ρ:Operand→A0)(w:World)(ho:o.op=.call { callee:=.value (.func g),args:=args,argTypes:=ats })(hρ:ρ (.func g)=.func (.func g) #[] #[]):(execOp ρ o).run P w=(callFunc g (args.map ρ)).run P w:=by
 unfold execOp;rw[ho];simp only[resolve,hρ,Deferred.ofValue,z6];simp[invoke]
theorem Pj{ρ:Operand→A0}{k:Nat}(w:World)(ho:o.op=.call { callee:=.value (.func g),args:=args,argTypes:=ats })(hρ:ρ (.func g)=.func (.func g) #[] #[])(hX:ANG P xs)(hk:xk xs g=some k):
 ∃fn e,P.funcs[g]?=some fn∧Qp fn k e∧(execOp ρ o).run P w=((e (args.map ρ)).run P w).andThen fun v w'=>.ok (.value v) w':=by
 obtain⟨fn,e,h1,h2,h3,h4,h5,h6⟩:=hX g k hk;exact⟨fn,e,h1,h6,by rw[gI ρ w ho hρ,run_callFunc_extern h1 h2 h3 h4 h5]⟩
theorem AAu{x:Operand}(ho:o.op=.call { callee:=.value (.func g),args:=args,argTypes:=ats })(ha:args.toList=[x])(hX:ANG P xs)(hk:xk xs g=some 0):
 Q9 P gs ds o (R6 (C3 gs ds x)):=by
 intro lo tm v hv f a w hG hE;cases hv;have:=DN ha;subst this;obtain⟨fn,e,_,he,hr⟩:=Pj (ρ:=a.eval) w ho rfl hX hk;have he:e=Extern.AbiNoEscape.same:=he;subst he;refine⟨a.eval x,?_,F0 hG hE x⟩;rw[hr,show(#[x]:Array Operand).map a.eval=#[a.eval x] by simp,show Extern.AbiNoEscape.same #[a.eval x]=pure (a.eval x) from rfl];rfl
theorem AQg(x y:List UInt8):mb x y=match (List.range (min x.length y.length)).find? fun i=>x[i]! != y[i]! with
 | some i=>if x[i]! < y[i]! then -1 else 1
 | none=>if x.length<y.length then -1 else if x.length>y.length then 1 else 0:=by
 induction x generalizing y with
 | nil=>cases y<;>simp<;>rfl
 | cons a x ih =>
  cases y with
  | nil=>simp;rfl
  | cons b y =>
   have e:mb (a::x) (b::y)=bif Nat.blt a.toNat b.toNat then .negSucc 0 else bif AKv a b then mb x y else .ofNat 1:=rfl
   rw[e,A9X];have e2:Nat.blt a.toNat b.toNat=decide (a<b):=by rw[RJ,Nat.blt_eq];simp[UInt8.lt_iff_toNat_lt]
   rw[e2];have e3:min (a::x).length (b::y).length=min x.length y.length+1:=by simp
   rw[e3,List.range_succ_eq_map,List.find?_cons];by_cases hab:a=b
   · subst hab;have h1:¬a<a:=by simp
     simp only[h1,decide_false,beq_self_eq_true,cond_true,cond_false];rw[ih y];simp only[List.getElem!_cons_zero,bne_self_eq_false,List.find?_map,Function.comp_def,List.getElem!_cons_succ,Gn];cases (List.range (min x.length y.length)).find? fun i=>x[i]! != y[i]! with
     | none=>simp
     | some i=>simp
   grind
theorem cmp_eq(s s':ByteArray):Extern.BytealgCompare.cmp s s'=mb (bl s) (bl s'):=by
 rw[AQg];have e:∀(b:ByteArray) (i:Nat),b[i]! = (bl b)[i]! := fun b i=>by
  by_cases h:i<b.size
  ·rw[getElem!_pos b i h,getElem!_pos (bl b) i (by rw[Bm];exact h)];rfl
  ·rw[getElem!_neg b i h,getElem!_neg (bl b) i (by rw[Bm];exact h)]
 unfold Extern.BytealgCompare.cmp;simp only[e,Bm];rfl
theorem AIv{x:Operand}(ho:o.op=.call { callee:=.value (.func g),args:=args,argTypes:=ats })(ha:args.toList=[x,y])(hX:ANG P xs)(hk:xk xs g=some 4):
 Q9 P gs ds o (pV (C3 gs ds x) (C3 gs ds y)):=by
 intro lo tm v hv f a w hG hE;have hx:=F0 hG hE x;have hy:=F0 hG hE y;have:=QN ha;subst this;obtain⟨fn,e,_,he,hr⟩:=Pj (ρ:=a.eval) w ho rfl hX hk;have he:e=Extern.BytealgCompare.compare:=he;subst he;unfold pV at hv;rcases Ft (G4 (C3 gs ds x) lo tm) (fun a=>Hq (G4 (C3 gs ds y) lo tm) (fun b=>GA .i64 (mb (bl a) (bl b))) none) none with⟨s,e1,h1⟩|h1
 · rw[h1] at hv;rw[e1] at hx;rcases Ft (G4 (C3 gs ds y) lo tm) (fun b=>GA .i64 (mb (bl s) (bl b))) none with⟨s',e2,h2⟩|h2
   · rw[h2] at hv;rw[e2] at hy;have:=Bo hv;subst this;refine⟨_,?_,.int _ _⟩;rw[hr,show(#[x,y]:Array Operand).map a.eval=#[a.eval x,a.eval y] by simp,
      show Extern.BytealgCompare.compare #[a.eval x,a.eval y]=(do pure (goInt (Extern.BytealgCompare.cmp (← Extern.Bytes.bytesOf (a.eval x)) (← Extern.Bytes.bytesOf (a.eval y))))) from rfl,hx.Bn,hy.Bn]
     simp[Extern.Bytes.bytesOf,cmp_eq,goInt]
   ·rw[h2] at hv;cases hv
 ·rw[h1] at hv;cases hv
end
section
variable {P:Program} {gs:List Nat} {ds:List (Option Tmp)} {o:Oper}
def Mk(P:Program)(f:Map)(a:Act)(o:Oper)(w:World)(p:PR):Prop:=match p with
 | .none=>True
 | .val v=>∃v',(execOp a.eval o).run P w=.ok (.value v') w∧F5 f v v'
 | .read b g=>∃i,f b=some i∧∀ob v x,g ob=some v→w.heap[i.S6]?=some x→GI f i ob x→∃v',(execOp a.eval o).run P w=.ok (.value v') w∧F5 f v v'
def KS(P:Program)(gs:List Nat)(ds:List (Option Tmp))(o:Oper)(fn:DR):Prop:=∀lo tm f (a:Act) w,Dr gs f→Env f ds lo tm a.tmps→Mk P f a o w (fn lo tm)
theorem Yu(ob:N2)(k:T A0→Nat→TypeId→Bool→Bool→R)(z:R):(∃c n e cl ro,ob=.row c n e cl ro∧Jc ob k z=k c n e cl ro)∨Jc ob k z=z:=by
 cases ob with
 | row c n e cl ro=>exact .inl ⟨c,n,e,cl,ro,rfl,rfl⟩
 | iter s p=>exact .inr rfl
 | mp es=>exact .inr rfl
theorem GI.cell{c:T A0}{n:Nat}{e:TypeId}{cl:Bool}{x:Obj}{w:World}(h:GI f i (.row c n e cl ro) x)(hx:w.heap[i.S6]?=some x){k:Nat}(hk:k<n)(hv:c.get (path k)=some v):
 ∃v',w.cell? ⟨i.S6,i.o+k,none⟩=some v'∧F5 f v v':=by
 cases h with
 | row _ _ _ _ _ arr elem' fz he hs hn hcl hro hc =>
  obtain⟨v',h1,h2⟩:=hc k v hk hv;exact⟨v',by simp[World.cell?,hx,h1],h2⟩
theorem GI.shape{c:T A0}{n:Nat}{e:TypeId}{cl:Bool}{x:Obj}{w:World}(h:GI f i (.row c n e cl ro) x)(hx:w.heap[i.S6]?=some x):
 ∃e',w.shape? i.S6=some (e',i.n)∧(e=e'∨e=ANH)∧i.o+n≤i.n∧(cl=true→i.o=0∧n=i.n):=by
 cases h with
 | row _ _ _ _ _ arr elem' fz he hs hn hcl hro hc=>exact⟨elem',by simp[World.shape?,hx,hs],he,hn,hcl⟩
theorem ADZ{p:PR}(h:AE0 v=p):p=.none∨∃ad,v=.pointer (some ad)∧p=.read ad.block fun ob=>Jc ob (fun c n _ _ _=>bif Nat.blt ad.off n then c.get (path ad.off) else none) none:=by
 unfold AE0 at h;rcases Ha v (fun b o=>PR.read b fun ob=>Jc ob (fun c n _ _ _=>bif Nat.blt o n then c.get (path o) else none) none) .none with⟨ad,e,h1⟩|h1
 ·grind
 grind
theorem ADV{t:TypeId}{x:Operand}{d:TypeDesc}(ho:o.op=.load t x)(hd:P.underlying t=some d)(hagg:T3 P t=false):KS P gs ds o (Ul (C3 gs ds x)):=by
 intro lo tm f a w hG hE;have hx:=F0 hG hE x;show Mk P f a o w (AE0 (G4 (C3 gs ds x) lo tm));rcases ADZ (v:=G4 (C3 gs ds x) lo tm) rfl with h|⟨ad,e,h⟩
 ·rw[h];trivial
 · rw[h];rw[e] at hx;obtain⟨_,i,hi,hxe⟩:=hx.FK;refine⟨i,hi,fun ob v x' hv hx' hor=>?_⟩;rcases Yu ob (fun c n _ _ _=>bif Nat.blt ad.off n then c.get (path ad.off) else none) none with⟨c,n,e',cl,ro,rfl,h2⟩|h2
   ·dsimp only at hv;rw[h2] at hv;obtain⟨h3,h4⟩:=L7 hv;obtain⟨v',h5,h6⟩:=hor.cell hx' (Nat.blt_eq.mp h3) h4;refine⟨v',?_,h6⟩;simp[execOp,ho,Instr.loadAt,Instr.sureAddr,loadVar,hxe,FR hagg hd,h5]
   grind
theorem nW(c:T A0)(o:Nat):∀(n:Nat) (acc l:List A0),V6 c o n acc=some l→l.length=n+acc.length∧(∀j,j<n→∃v,c.get (path (o+j))=some v∧l[j]?=some v)∧l.drop n=acc:=by
 intro n;induction n with
 | zero=>intro acc l h;cases h;simp
 | succ n ih =>
  intro acc l h;have h':R5 (c.get (path (Nat.add o n))) (fun v=>V6 c o n (v::acc)) none=some l:=h;obtain⟨v,hv,h'⟩:=V8 _ _ h';obtain⟨h1,h2,h3⟩:=ih _ _ h';refine⟨by rw[h1];simp;omega,fun j hj=>?_,?_⟩
  · by_cases hjn:j=n
    ·subst hjn;refine⟨v,hv,?_⟩;have:=congrArg (fun l=>l[0]?) h3;simpa using this
    ·exact h2 j (by omega)
  ·have:=congrArg (fun l=>l.drop 1) h3;simp at this;simpa[ik] using this
theorem LH(b o k:Nat):(⟨b,o,none⟩:Addr).add k=⟨b,o+k,none⟩:=by simp[Addr.add]
theorem SR{c:T A0}{n:Nat}{e:TypeId}{cl:Bool}{x:Obj}{w:World}(h:GI f i (.row c n e cl ro) x)(hx:w.heap[i.S6]?=some x)(hm:ao+m≤n)(hl:V6 c ao m []=some l):
 l.length=m∧∃l':List A0,M7 f l l'∧(∀j v,l'[j]?=some v→w.cell? ((⟨i.S6,i.o+ao,none⟩:Addr).add j)=some v)∧(loadCells ⟨i.S6,i.o+ao,none⟩ m).run P w=.ok l'.toArray w:=by
 obtain⟨h1,h2,_⟩:=nW c ao m [] l hl;have h1:l.length=m:=by simpa using h1
 have main:∀j,j<m→∃v',w.cell? ⟨i.S6,i.o+(ao+j),none⟩=some v'∧∀v,l[j]?=some v→F5 f v v':=fun j hj=>by obtain⟨v,hv,hlj⟩:=h2 j hj;obtain⟨v',h3,h4⟩:=h.cell hx (by omega) hv;grind
 have hch:∃g:Nat→A0,∀j,j<m→w.cell? ⟨i.S6,i.o+(ao+j),none⟩=some (g j)∧∀v,l[j]?=some v→F5 f v (g j):=by refine⟨fun j=>(w.cell? ⟨i.S6,i.o+(ao+j),none⟩).getD undef,fun j hj=>?_⟩;grind
 obtain⟨g,hg⟩:=hch;refine⟨h1,(List.range m).map g,⟨by simp[h1],fun j v hv=>?_⟩,fun j v hv=>?_,?_⟩
 ·grind
 · have hj:j<m:=by grind
   rw[LH,Es,(hg j hj).1];grind
 ·rw[run_loadCells w _ m g fun j hj=>by rw[LH,Es];exact(hg j hj).1]
theorem ADe{p:PR}(h:AEf m v=p):p=.none∨∃ad,v=.pointer (some ad)∧p=.read ad.block fun ob=>Jc ob (fun c n _ _ _=>bif Nat.ble (Nat.add ad.off m) n then R5 (V6 c ad.off m []) (fun l=>some (.agg ⟨l⟩)) none else none) none:=by
 unfold AEf at h;rcases Ha v (fun b o=>PR.read b fun ob=>Jc ob (fun c n _ _ _=>bif Nat.ble (Nat.add o m) n then R5 (V6 c o m []) (fun l=>some (.agg ⟨l⟩)) none else none) none) .none with⟨ad,e,h1⟩|h1
 ·grind
 grind
theorem ADB{t:TypeId}{x:Operand}{d:TypeDesc}(ho:o.op=.load t x)(hd:P.underlying t=some d)(hagg:T3 P t=true):KS P gs ds o (KB (sz P t) (C3 gs ds x)):=by
 intro lo tm f a w hG hE;have hx:=F0 hG hE x;show Mk P f a o w (AEf (sz P t) (G4 (C3 gs ds x) lo tm));rcases ADe (m:=sz P t) (v:=G4 (C3 gs ds x) lo tm) rfl with h|⟨ad,e,h⟩
 ·rw[h];trivial
 · rw[h];rw[e] at hx;obtain⟨_,i,hi,hxe⟩:=hx.FK;refine⟨i,hi,fun ob v x' hv hx' hor=>?_⟩;rcases Yu ob (fun c n _ _ _=>bif Nat.ble (Nat.add ad.off (sz P t)) n then R5 (V6 c ad.off (sz P t) []) (fun l=>some (Value.agg ⟨l⟩)) none else none) none with⟨c,n,e',cl,ro,rfl,h2⟩|h2
   ·dsimp only at hv;rw[h2] at hv;obtain⟨h3,h4⟩:=L7 hv;obtain⟨l,hl,h4⟩:=V8 _ _ h4;cases h4;obtain⟨_,l',h5,_,h6⟩:=SR (P:=P) hor hx' (Nat.ble_eq.mp h3) hl;refine⟨.agg l'.toArray,?_,F5.aj h5⟩;simp[execOp,ho,Instr.loadAt,Instr.sureAddr,loadVar,hxe,Hm hagg,run_sizeOf hd,h6]
   grind
theorem AI1{e:TypeId}{x:Operand}(ho:o.op=.convert s d x)(hs:P.underlying s=some (.pointer e))(hd:P.underlying d=some .unsafePointer)(he:P.info? e=some j)(hj:j.size≠0):
 KS P gs ds o (A8a (C3 gs ds x)):=by
 intro lo tm f a w hG hE;have hx:=F0 hG hE x;show Mk P f a o w (AOg (G4 (C3 gs ds x) lo tm));generalize G4 (C3 gs ds x) lo tm=vx at *;generalize hxe:a.eval x=ux at *;cases hx<;>first|trivial|skip
 ·exact⟨.pointer none,by simp[execOp,ho,convert,run_underlying hs,run_underlying hd,hxe,Conv.unsafePointer],.nilPtr⟩
 · rename_i b ao i hi;refine⟨i,hi,fun ob v x' hv hx' hor=>?_⟩;rcases Yu ob (fun _ n _ _ _=>bif Nat.blt ao n then some (C2 b ao) else none) none with⟨c,n,e',cl,ro,rfl,h2⟩|h2
   ·have hv':Jc (.row c n e' cl ro) (fun _ n _ _ _=>bif Nat.blt ao n then some (C2 b ao) else none) none=some v:=hv;rw[h2] at hv';obtain⟨h3,h4⟩:=L7 hv';cases h4;have h3:=Nat.blt_eq.mp h3;obtain⟨e2,h5,_,h6,_⟩:=hor.shape hx';refine⟨_,?_,.ptr b ao i hi⟩;have:=Lib.run_to_unsafe (w:=w) ⟨i.S6,i.o+ao,none⟩ hs hd he hj h5 (by show i.o+ao<i.n;omega);simp[execOp,ho,hxe,this]
   grind
theorem ALM{e:TypeId}{cells:Nat}(hs:P.cellsOf e≠0)(h1:off%P.cellsOf e=0)(h2:off+P.cellsOf e≤cells):liesAt P P.depth e (cells/P.cellsOf e) off e 1=true:=by
 have hd:P.depth=(2*(P.types.size+Made.depth)+1)+1:=rfl;have hlt:off/P.cellsOf e+1≤cells/P.cellsOf e:=by have hpos:=Nat.pos_of_ne_zero hs;rw[Nat.le_div_iff_mul_le hpos,Mm];have:=Nat.div_add_mod off (P.cellsOf e);grind
 rw[hd];generalize 2*(P.types.size+Made.depth)+1=k at *;have hsl:sameLayout P P.depth e e=true:=by rw[hd];simp[sameLayout]
 have hrow:rowAt P (sameLayout P P.depth · e) (k+1) e (cells/P.cellsOf e) off 1=true:=by simp only[rowAt];grind
 simp only[liesAt];grind
theorem AGG{e:TypeId}{x:Operand}(ho:o.op=.convert s d x)(hs:P.underlying s=some .unsafePointer)(hd:P.underlying d=some (.pointer e))(he:P.info? e=some j)(hj:sz P e≠0)(hU:e≠ANH):
 KS P gs ds o (A64 e (sz P e) (C3 gs ds x)):=by
 intro lo tm f a w hG hE;have hx:=F0 hG hE x;show Mk P f a o w (ANO e (sz P e) (G4 (C3 gs ds x) lo tm));generalize G4 (C3 gs ds x) lo tm=vx at *;generalize hxe:a.eval x=ux at *;cases hx<;>first|trivial|skip
 ·exact⟨.pointer none,by simp[execOp,ho,convert,run_underlying hs,run_underlying hd,hxe,Conv.unsafePointer],.nilPtr⟩
 · rename_i b ao i hi;refine⟨i,hi,fun ob v x' hv hx' hor=>?_⟩;have hv':Jc ob (fun _ n e' cl _=>bif cl&&Nat.beq e' e&&Nat.blt ao n&&Nat.beq (Nat.mod ao (sz P e)) 0&&Nat.ble (Nat.add ao (sz P e)) n then some (C2 b ao) else none) none=some v:=hv;rcases Yu ob (fun _ n e' cl _=>bif cl&&Nat.beq e' e&&Nat.blt ao n&&Nat.beq (Nat.mod ao (sz P e)) 0&&Nat.ble (Nat.add ao (sz P e)) n then some (C2 b ao) else none) none with⟨c,n,e',cl,ro,rfl,h2⟩|h2
   · rw[h2] at hv';obtain⟨h3,h4⟩:=L7 hv';cases h4;simp only[U8] at h3;obtain⟨⟨⟨⟨c1,c2⟩,c3⟩,c4⟩,c5⟩:=h3;have c2:=T9 c2;have c4:ao%sz P e=0:=T9 c4;have c5:ao+sz P e≤n:=Nat.ble_eq.mp c5;obtain⟨e2,h5,h6,h7,h8⟩:=hor.shape hx';obtain⟨h9,h10⟩:=h8 c1;have hee:e2=e:=by
      grind
     subst hee;refine⟨_,?_,.ptr b ao i hi⟩;have:=Lib.run_from_unsafe (w:=w) ⟨i.S6,i.o+ao,none⟩ hs hd he h5 (ALM hj (by show(i.o+ao)%_=0;rw[h9,Ag];exact c4) (by show i.o+ao+_≤i.n;rw[h9,←h10,Ag];exact c5));simp[execOp,ho,hxe,this]
   ·rw[h2] at hv';cases hv'
theorem A2m:∀ {l:List A0} {bs:List UInt8},Abs.bytesOf l=some bs→l=bs.map Uk:=by
 intro l;induction l with
 | nil=>intro bs h;cases h;rfl
 | cons v l ih =>
  intro bs h;have h':Bi v (fun kd x=>bif Nat.beq (kN kd) 4 then Kh x (fun n=>bif Nat.blt n 256 then R5 (Abs.bytesOf l) (fun r=>some (UInt8.ofNat n::r)) none else none) none else none) none=some bs:=h;rcases Bh v (fun kd x=>bif Nat.beq (kN kd) 4 then Kh x (fun n=>bif Nat.blt n 256 then R5 (Abs.bytesOf l) (fun r=>some (UInt8.ofNat n::r)) none else none) none else none) none with⟨kd,x,rfl,e⟩|e
  · rw[e] at h';obtain⟨h1,h2⟩:=L7 h';have hk:kd=.u8:=by cases kd<;>first|rfl|cases h1
    subst hk;rcases Jp x (fun n=>bif Nat.blt n 256 then R5 (Abs.bytesOf l) (fun r=>some (UInt8.ofNat n::r)) none else none) none with⟨n,rfl,e'⟩|e'
    · rw[e'] at h2;obtain⟨h3,h4⟩:=L7 h2;obtain⟨r,hr,h4⟩:=V8 _ _ h4;cases h4;have:=ih hr;subst this;have hn:=Nat.blt_eq.mp h3;have:(UInt8.ofNat n).toNat=n:=by simp;omega
      rw[AEB];congr 1;unfold Uk;rw[this];rfl
    ·rw[e'] at h2;cases h2
  ·rw[e] at h';cases h'
theorem M7.bytes(h:M7 f (bs.map Uk) l'):l'=bs.map Uk:=by
 induction bs generalizing l' with
 | nil=>exact h.zZ
 | cons b bs ih =>
  obtain⟨v',r,rfl,hv,hr⟩:=h.Qe;rw[ih hr,hv.Y8];rfl
theorem au{ob:N2}(h:CV ob ao m=some cs):∃c n e cl ro,ob=.row c n e cl ro∧ao+m≤n∧V6 c ao m []=some cs:=by
 unfold CV at h;rcases Yu ob (fun c k _ _ _=>bif Nat.ble (Nat.add ao m) k then V6 c ao m [] else none) none with⟨c,n,e,cl,ro,rfl,h2⟩|h2
 ·rw[h2] at h;obtain⟨h3,h4⟩:=L7 h;exact⟨c,n,e,cl,ro,rfl,Nat.ble_eq.mp h3,h4⟩
 ·rw[h2] at h;cases h
theorem YL{ob:N2}{x:Obj}{w:World}(h:GI f i ob x)(hx:w.heap[i.S6]?=some x)(hc:CV ob ao m=some cs)(hb:Abs.bytesOf cs=some bs):
 bs.length=m∧(∀j (b:UInt8),bs[j]?=some b→w.cell? ((⟨i.S6,i.o+ao,none⟩:Addr).add j)=some (.int .u8 (b.toNat:Int)))∧(loadCells ⟨i.S6,i.o+ao,none⟩ m).run P w=.ok (bs.map Uk).toArray w:=by
 obtain⟨c,n,e,cl,ro,rfl,hm,hl⟩:=au hc;obtain⟨h1,l',h2,h3,h4⟩:=SR (P:=P) h hx hm hl;have:=A2m hb;subst this;have:=h2.bytes;subst this;refine⟨by simpa using h1,fun j b hj=>?_,h4⟩;exact h3 j (Uk b) (by simp[hj])
theorem sY(bs:List UInt8):(bs.map fun b:UInt8=>UInt8.ofNat ((b.toNat:Int)).toNat)=bs:=by simp
theorem AHj(ns:List Int):∀(s:ByteArray),ns.foldl (fun r n=>r.push (UInt8.ofNat n.toNat)) s=⟨s.data++(ns.map fun n=>UInt8.ofNat n.toNat).toArray⟩:=by
 induction ns with
 | nil=>intro s;simp
 | cons n ns ih =>
  simp_all
theorem ef(l:List UInt8):(⟨ByteArray.empty.data++l.toArray⟩:ByteArray)=O2 l:=by apply ByteArray.ext;show(#[]:Array UInt8)++l.toArray=l.toArray;simp
theorem F5.Ef{a:Addr}{l:Nat}(h:F5 f (.slice (some a) l c) v'):∃i A c',f a.block=some i∧v'=.slice (some A) l c'∧(0<l→A=⟨i.S6,i.o+a.off,none⟩):=by
 obtain⟨i,hi,h|⟨lb,o',c',_,_,h1,_,h2,_,h3⟩⟩:=h.DV
 ·grind
 grind
theorem wP{e:TypeId}{x:Operand}(ho:o.op=.convert s d x)(hs:P.underlying s=some (.slice e))(he:P.underlying e=some (.int .u8))(hd:P.underlying d=some .string):KS P gs ds o (Ov (C3 gs ds x)):=by
 intro lo tm f a w hG hE;have hx:=F0 hG hE x;have hr:∀p l c,a.eval x=.slice p l c→(execOp a.eval o).run P w=((Conv.bytesToString (.slice p l c)).run P w).andThen fun v w=>.ok (.value v) w:=fun p l c hxe=>by simp only[execOp,ho,hxe,z6,run_convert_bytes_string w s d e p l c hs he hd];rfl
 have h0:∀A c,(Conv.bytesToString (.slice (some A) 0 c)).run P w=.ok (.string (O2 [])) w:=fun A c=>run_bytesToString w A 0 c [] (by simp[loadCells,loadCellsFrom]);show Mk P f a o w (Kf (G4 (C3 gs ds x) lo tm));generalize G4 (C3 gs ds x) lo tm=vx at *;have hstr:∀s,F5 f (.string s) (.string s):=fun s=>.string _;cases vx with
 | slice p l c =>
  cases p with
  | none =>
   generalize hxe:a.eval x=ux at *;cases hx;exact⟨.string (O2 []),by rw[hr _ _ _ rfl];rfl,hstr _⟩
  | some ad =>
   obtain⟨i,A,c',hi,hxe,hA⟩:=hx.Ef;have e1:Kf (.slice (some ad) l c)=bif Nat.beq l 0 then .val (.string (O2 [])) else .read ad.block fun ob=>R5 (CV ob ad.off l) (fun cs=>R5 (Abs.bytesOf cs) Tm none) none:=rfl
   rw[e1];cases hl:Nat.beq l 0 with
   | true =>
    have:=T9 hl;subst this;exact⟨.string (O2 []),by rw[hr _ _ _ hxe,h0];rfl,hstr _⟩
   | false =>
    have hl0:0<l:=by
     rcases Br l with h|h
     ·subst h;cases hl
     ·exact h
    refine⟨i,hi,fun ob v x' hv hx' hor=>?_⟩;dsimp only at hv;obtain⟨cs,hcs,hv⟩:=V8 _ _ hv;obtain⟨bs,hbs,hv⟩:=V8 _ _ hv;cases hv;obtain⟨h1,h2,h3⟩:=YL (P:=P) hor hx' hcs hbs;refine⟨.string (O2 bs),?_,hstr _⟩;rw[hr _ _ _ hxe,hA hl0,run_bytesToString (P:=P) w _ l c' (bs.map fun b:UInt8=>(b.toNat:Int)) (by rw[h3];simp[Uk])];rw[AHj,List.map_map];have:(fun n:Int=>UInt8.ofNat n.toNat)∘(fun b:UInt8=>(b.toNat:Int))=fun b:UInt8=>UInt8.ofNat ((b.toNat:Int)).toNat:=rfl;rw[this,sY,ef];rfl
 | _=>trivial
theorem AO9{w:World}(k:List UInt8→Option A0)(hv:F5 f v v'):match ADR v k with
 | .none=>True
 | .val r=>∃bs,k bs=some r∧(Extern.Bytes.bytesOf v').run P w=.ok (O2 bs) w
 | .read b g=>∃i,f b=some i∧∀ob r x,g ob=some r→w.heap[i.S6]?=some x→GI f i ob x→∃bs,k bs=some r∧(Extern.Bytes.bytesOf v').run P w=.ok (O2 bs) w:=by
 have hto:∀(bs:List UInt8),(Extern.Bytes.bytesOf v').run P w=.ok (O2 bs) w→match A3k (k bs) with
  | .none=>True
  | .val r=>∃bs,k bs=some r∧(Extern.Bytes.bytesOf v').run P w=.ok (O2 bs) w
  | .read b g=>∃i,f b=some i∧∀ob r x,g ob=some r→w.heap[i.S6]?=some x→GI f i ob x→∃bs,k bs=some r∧(Extern.Bytes.bytesOf v').run P w=.ok (O2 bs) w:=fun bs h=>by
  cases hk:k bs with
  | none=>trivial
  | some r=>exact⟨bs,hk,h⟩
 cases v with
 | string s =>
  have:=hv.Bn;subst this;exact hto (bl s) (by rw[A3R];rfl)
 | slice p l c =>
  have e1:ADR (.slice p l c) k=bif Nat.beq l 0 then A3k (k []) else Option.rec .none (fun a=>.read a.block fun ob=>R5 (CV ob a.off l) (fun cs=>R5 (Abs.bytesOf cs) k none) none) p:=rfl
  rw[e1];cases hl:Nat.beq l 0 with
  | true =>
   have:=T9 hl;subst this;refine hto [] ?_;cases p with
   | none=>cases hv;rfl
   | some ad =>
    obtain⟨i,A,c',hi,hxe,hA⟩:=hv.Ef;subst hxe;rfl
  | false =>
   have hl0:0<l:=by
    rcases Br l with h|h
    ·subst h;cases hl
    ·exact h
   cases p with
   | none=>trivial
   | some ad =>
    obtain⟨i,A,c',hi,hxe,hA⟩:=hv.Ef;refine⟨i,hi,fun ob r x' hr hx' hor=>?_⟩;dsimp only at hr;obtain⟨cs,hcs,hr⟩:=V8 _ _ hr;obtain⟨bs,hbs,hr⟩:=V8 _ _ hr;obtain⟨h1,h2,h3⟩:=YL (P:=P) hor hx' hcs hbs;refine⟨bs,hr,?_⟩;subst hxe;rw[hA hl0];have:=Lib.run_loadBytesX (P:=P) w (bs.map fun b:UInt8=>(b.toNat:Int)) ⟨i.S6,i.o+ad.off,none⟩ .empty (fun j z hj=>by grind)
    have e2:Lib.bytesOf (bs.map fun b:UInt8=>(b.toNat:Int))=bs:=by unfold Lib.bytesOf;rw[List.map_map];exact sY bs
    rw[e2,ef,xP,h1] at this;exact this
 | _=>trivial
theorem AN6(v:A0)(k:Nat→R)(z:R):(∃c:Nat,c<256∧v=.int .u8 (c:Int)∧Vz v k z=k c)∨Vz v k z=z:=by
 unfold Vz;rcases Bh v (fun kd c=>bif Nat.beq (kN kd) 4 then Kh c (fun c=>bif Nat.blt c 256 then k c else z) z else z) z with⟨kd,x,rfl,e⟩|e
 · rw[e];cases hk:Nat.beq (kN kd) 4 with
   | false=>exact .inr rfl
   | true =>
    have hk':kd=.u8:=by cases kd<;>first|rfl|cases hk
    subst hk';rcases Jp x (fun c=>bif Nat.blt c 256 then k c else z) z with⟨n,rfl,e'⟩|e'
    · rw[e'];cases hb:Nat.blt n 256 with
      | false=>exact .inr rfl
      | true=>exact .inl ⟨n,Nat.blt_eq.mp hb,rfl,rfl⟩
    ·rw[e'];exact .inr rfl
 ·exact .inr e
theorem AQu(c:Nat)(hc:c<256)(l:List UInt8)(a:Nat):GQ c l a=a+Lib.countByte l (UInt8.ofNat c):=by
 induction l generalizing a with
 | nil=>simp[Lib.countByte];rfl
 | cons b l ih =>
  have e:GQ c (b::l) a=bif Nat.beq b.toNat c then C8 (Nat.succ a) (GQ c l) else GQ c l a:=rfl
  rw[e,C1,ih,ih];have h:Nat.beq b.toNat c=(b == UInt8.ofNat c):=by rw[RJ,zn,beq_iff_eq,←lX];simp[Hi hc]
  rw[h];unfold Lib.countByte;grind
theorem AMG(c:Nat)(hc:c<256)(l:List UInt8)(i:Nat):LA c l i=if Lib.indexByte l (UInt8.ofNat c)=-1 then -1 else Lib.indexByte l (UInt8.ofNat c)+i:=by
 induction l generalizing i with
 | nil=>rfl
 | cons b l ih =>
  have e:LA c (b::l) i=bif Nat.beq b.toNat c then .ofNat i else C8 (Nat.succ i) (LA c l):=rfl
  rw[e,C1,ih];have h:Nat.beq b.toNat c=(b == UInt8.ofNat c):=by rw[RJ,zn,beq_iff_eq,←lX];simp[Hi hc]
  rw[h];have hge:=Lib.indexByte_ge l (UInt8.ofNat c);have e2:Lib.indexByte (b::l) (UInt8.ofNat c)=if b == UInt8.ofNat c then 0 else if Lib.indexByte l (UInt8.ofNat c) == -1 then -1 else Lib.indexByte l (UInt8.ofNat c)+1:=rfl
  grind
theorem A94{k:Nat}{x:Operand}{fn:DR}{val:Nat→List UInt8→Option A0}{ent:Array A0→Sem A0}(ho:o.op=.call { callee:=.value (.func g),args:=args,argTypes:=ats })(ha:args.toList=[x,y])(hX:ANG P xs)(hk:xk xs g=some k)(hkind:∀fn e,Qp fn k e→e=ent)(hfn:fn=fun lo tm=>ADR (G4 (C3 gs ds x) lo tm) (fun l=>Vz (G4 (C3 gs ds y) lo tm) (fun c=>val c l) none))(hent:∀v s (c:Nat) w r,c<256→val c s=some r→(Extern.Bytes.bytesOf v).run P w=.ok (O2 s) w→(ent #[v,.int .u8 (c:Int)]).run P w=.ok r w∧j9 r=true):KS P gs ds o fn:=by
 intro lo tm f a w hG hE;have hx:=F0 hG hE x;have hy:=F0 hG hE y;have:=QN ha;subst this;obtain⟨fn',e,_,he,hr⟩:=Pj (ρ:=a.eval) w ho rfl hX hk;have he:=hkind _ _ he;subst he;subst hfn;have main:∀bs r,Vz (G4 (C3 gs ds y) lo tm) (fun c=>val c bs) none=some r→(Extern.Bytes.bytesOf (a.eval x)).run P w=.ok (O2 bs) w→∃v',(execOp a.eval o).run P w=.ok (.value v') w∧F5 f r v':=fun bs r h1 h2=>by
  rcases AN6 (G4 (C3 gs ds y) lo tm) (fun c=>val c bs) none with⟨c,hc,e1,e2⟩|e2
  ·rw[e2] at h1;rw[e1] at hy;obtain⟨h3,h4⟩:=hent _ _ c w r hc h1 h2;refine⟨r,?_,F5.plain h4⟩;rw[hr,show(#[x,y]:Array Operand).map a.eval=#[a.eval x,a.eval y] by simp,hy.Y8,h3];rfl
  ·rw[e2] at h1;cases h1
 have h:=AO9 (P:=P) (w:=w) (fun l=>Vz (G4 (C3 gs ds y) lo tm) (fun c=>val c l) none) hx;revert h;show _→Mk P f a o w (ADR (G4 (C3 gs ds x) lo tm) (fun l=>Vz (G4 (C3 gs ds y) lo tm) (fun c=>val c l) none));cases ADR (G4 (C3 gs ds x) lo tm) (fun l=>Vz (G4 (C3 gs ds y) lo tm) (fun c=>val c l) none) with
 | none=>exact fun _=>trivial
 | val r=>exact fun⟨bs,h1,h2⟩=>main bs r h1 h2
 | read b g=>exact fun⟨i,hi,h⟩=>⟨i,hi,fun ob r x' hv hx' hor=>let ⟨bs,h1,h2⟩:=h ob r x' hv hx' hor;main bs r h1 h2⟩
theorem AGF{x:Operand}(ho:o.op=.call { callee:=.value (.func g),args:=args,argTypes:=ats })(ha:args.toList=[x,y])(hX:ANG P xs)(hk:xk xs g=some 2):
 KS P gs ds o (A7k (C3 gs ds x) (C3 gs ds y)) :=
 A94 (val:=fun c l=>AD .i64 (GQ c l 0)) (ent:=Extern.BytealgCount.count) ho ha hX hk (fun fn e h=>h) rfl fun v s c w r hc hr hb=>by
  rw[Aa] at hr;cases hr;refine⟨?_,rfl⟩;have h:=Lib.run_countString (P:=P) (O2 s) c w;change Sem.run P (do
   let b ← Extern.Bytes.bytesOf (.string (O2 s))
   let c' ← Extern.Bytes.asByte (.int .u8 c)
   pure (goInt (b.foldl (fun n x=>if x == c' then n+1 else n) (0:Nat)))) w=_ at h
  change Sem.run P (do
   let b ← Extern.Bytes.bytesOf v
   let c' ← Extern.Bytes.asByte (.int .u8 c)
   pure (goInt (b.foldl (fun n x=>if x == c' then n+1 else n) (0:Nat)))) w=_
  rw[AQu c hc,Ag];simp only[z6,hb,CB];trivial
theorem AIb{x:Operand}(ho:o.op=.call { callee:=.value (.func g),args:=args,argTypes:=ats })(ha:args.toList=[x,y])(hX:ANG P xs)(hk:xk xs g=some 3):
 KS P gs ds o (AIg (C3 gs ds x) (C3 gs ds y)) :=
 A94 (val:=fun c l=>GA .i64 (LA c l 0)) (ent:=Extern.BytealgIndexByte.indexByte) ho ha hX hk (fun fn e h=>h) rfl fun v s c w r hc hr hb=>by
  have:=Bo hr;subst this;refine⟨?_,rfl⟩;have h:=Lib.run_indexByteString (P:=P) (O2 s) c w;change Sem.run P (do
   let b ← Extern.Bytes.bytesOf (.string (O2 s))
   let c' ← Extern.Bytes.asByte (.int .u8 c)
   match (List.range b.size).find? fun i=>b[i]! == c' with
   | some i=>pure (goInt i)
   | none=>pure (goInt (-1))) w=_ at h
  change Sem.run P (do
   let b ← Extern.Bytes.bytesOf v
   let c' ← Extern.Bytes.asByte (.int .u8 c)
   match (List.range b.size).find? fun i=>b[i]! == c' with
   | some i=>pure (goInt i)
   | none=>pure (goInt (-1))) w=_
  have e:LA c s 0=Lib.indexByte s (UInt8.ofNat c):=by rw[AMG c hc];omega
  rw[e];simp only[z6,hb,CB];trivial
end
def AZq(f:Map)(e e':PanicEntry):Prop:=F5 f e.v e'.v∧e.recovered=e'.recovered∧e.goexit=e'.goexit
inductive ER (f:Map):List PanicEntry→List PanicEntry→Prop where
 | nil:ER f [] []
 | cons {e e':PanicEntry} {c c':List PanicEntry} (h:AZq f e e') (hc:ER f c c'):ER f (e::c) (e'::c')
theorem ER.mono{g:Map}(hfg:f.le g){c:List PanicEntry}(h:ER f c c'):ER g c c':=by
 induction h with
 | nil=>exact .nil
 | cons h _ ih=>exact .cons ⟨h.1.mono hfg,h.2⟩ ih
section
variable {P:Program} {gs:List Nat} {ds:List (Option Tmp)} {o:Oper}
def Enters(P:Program)(g:FuncId):Prop:=∃fn,P.funcs[g]?=some fn∧(fn.name == "runtime.NumGoroutine")=false∧fn.body.isNone=false
def S9(P:Program)(gs:List Nat)(A7:Call):Prop:=∀(g:FuncId) (args args':List A0) (f:Map) (h:Hp) (w:World),Dr gs f→Z6 f h w→M7 f args args'→match A7 g args h with
 | .none=>True
 | .val v h'=>Enters P g∧Calls P g args'.toArray w fun | .returned v',w'=>∃f',L6 h h'∧L5 f h w f' h' w'∧F5 f' v v' | _,_=>False
 | .panic c h'=>Enters P g∧Calls P g args'.toArray w fun | .panicked c',w'=>∃f',L6 h h'∧L5 f h w f' h' w'∧ER f' c c' | _,_=>False
def J9(P:Program)(f:Map)(h:Hp)(w:World)(a:Act)(o:Oper)(r:N3):Prop:=match r with
 | .none=>True
 | .val v h'=>∀next Q,(∀f' v' w',L6 h h'→L5 f h w f' h' w'→F5 f' v v'→next (a.put o.dst v') w')→o.wp P a w next Q
 | .panic c h'=>∀next Q,(∀f' c' w',L6 h h'→L5 f h w f' h' w'→ER f' c c'→Q (.panic c') a w')→o.wp P a w next Q
def Dd(P:Program)(gs:List Nat)(ds:List (Option Tmp))(o:Oper)(fn:DO):Prop:=∀A7,S9 P gs A7→∀lo tm f h (a:Act) w,Dr gs f→Env f ds lo tm a.tmps→Z6 f h w→J9 P f h w a o (fn A7 lo tm h)
theorem J9.value{w:World}{a:Act}(hs:L6 h h')(hr:(execOp a.eval o).run P w=.ok (.value v') w')(hc:L5 f h w f' h' w')(hv:F5 f' v v'):J9 P f h w a o (.val v h'):=by
 intro next Q hk
 unfold Oper.wp;rw[hr];exact hk f' v' w' hs hc hv
theorem J9.skip{w:World}{a:Act}(hs:L6 h h')(hr:(execOp a.eval o).run P w=.ok .skip w')(hc:L5 f h w f' h' w'):J9 P f h w a o (.val undef h'):=by
 intro next Q hk
 unfold Oper.wp;rw[hr];exact hk f' undef w' hs hc (F5.undef f')
theorem AK:∀(l:List A0) (i:Nat) (c:T A0) (k:T A0→R),C7 l i c k=k (C7 l i c fun t=>t):=by
 intro l;induction l with
 | nil=>intro i c k;rfl
 | cons v l ih =>
  intro i c k;have e:∀ {S:Type} (k:T A0→S),C7 (v::l) i c k=T.Gy (path i) c (some v) fun c=>C7 l (Nat.succ i) c k:=fun _=>rfl;rw[e,e,T.X9,T.X9];exact ih _ _ k
theorem Eh:∀(l:List A0) (i:Nat) (c:T A0) (k:Nat),(C7 l i c fun t=>t).get (path k)=if i≤k∧k<i+l.length then l[k-i]? else c.get (path k):=by
 intro l;induction l with
 | nil=>intro i c k;rw[if_neg (by simp)];rfl
 | cons v l ih =>
  intro i c k;have e:(C7 (v::l) i c fun t=>t)=T.Gy (path i) c (some v) fun c=>C7 l (Nat.succ i) c fun t=>t:=rfl;rw[e,T.X9,ih,V9];grind
theorem W6(h:Hp)(e:TypeId)(l:List A0)(n:Nat)(cl:Bool)(k:Nat→Hp→R):AA h e l n cl k=k h.A6 (h.new (.row (C7 l 0 .nil fun t=>t) n e cl false)):=by unfold AA;rw[AK,Hp.DM]
theorem L5.newRow{w:World}{e:TypeId}{n:Nat}{cl:Bool}{s:Nat}{fz:Nat×Nat}(hr:Z6 f h w)(hl:∀k v,l[k]?=some v→k<n→∃v',arr[k]?=some v'∧F5 f v v')(hn:n≤arr.size)(hcl:cl=true→n=arr.size)(hfz:∀k,k<arr.size→¬(fz.1≤k∧k<fz.2))(hheap:w'.heap=w.heap.push (.cells arr e fz))(ht:w'.tape=w.tape)(hos:w'.os=w.os)(hout:w'.output=w.output):
 L5 f h w (f.ext h.A6 ⟨w.heap.size,0,arr.size,s⟩) (h.new (.row (C7 l 0 .nil fun t=>t) n e cl false)) w':=by
 refine L5.new hr rfl (.row _ _ _ _ _ arr e fz (.inl rfl) rfl (by simpa using hn) (fun hc=>⟨rfl,hcl hc⟩) (fun _=>hfz) fun k v hk hv=>?_) hheap ht hos hout;rw[Eh] at hv;split at hv
 ·rename_i h1;obtain⟨v',h2,h3⟩:=hl k v (by simpa using hv) hk;exact⟨v',by simpa using h2,h3.mono (Map.XT _ (Map.HF hr (M8 _)))⟩
 ·cases hv
theorem M7.cells(h:M7 f l arr.toList){n:Nat}:∀k v,l[k]?=some v→k<n→∃v',arr[k]?=some v'∧F5 f v v':=fun k v hk _=>by obtain⟨v',a,b⟩:=h.2 k v hk;grind
theorem Qa(n:Nat):∀k,k<n→¬((0,0).1≤k∧k<((0,0):Nat×Nat).2):=fun k _ h=>absurd h.2 (xM _)
theorem AII:∀(l:List A0),K9 l=true→∀v∈l,Bc v=false:=by
 intro l;induction l with
 | nil=>intro _ v hv;cases hv
 | cons x l ih =>
  intro h v hv;have e:K9 (x::l)=bif Bc x then false else K9 l:=rfl
  grind
theorem F5.one(h:F5 f v v')(ha:Bc v=false):v'.oneCell'=true∧(∀xs,v≠.agg xs)∧∀xs,v'≠.agg xs:=by cases h<;>first|(cases ha;done)|exact⟨rfl,fun _=>by simp,fun _=>by simp⟩
theorem M7.one(h:M7 f l l')(ha:K9 l=true):∀v∈l',v.oneCell'=true:=by
 intro v hv;obtain⟨i,hi,e⟩:=List.getElem_of_mem hv;have hi':i<l.length:=by rw[h.1];exact hi
 obtain⟨v',h1,h2⟩:=h.2 i l[i] (by simp[hi']);have h3:l'[i]?=some v:=by simp[hi,e]
 rw[h3] at h1;cases h1;exact(h2.one (AII _ ha _ (Dh hi'))).1
theorem UE(P:Program)(g:Nat)(t:TypeId)(fz:Nat×Nat):∀(vs:List A0) (o i:Nat) (cur:Array A0) (w:World),w.heap[g]?=some (.cells cur t fz)→o+i+vs.length≤cur.size→(∀v∈vs,v.oneCell'=true)→(∀k,k<cur.size→¬(fz.1≤k∧k<fz.2)) →
 ∃w' arr,(storeCells ⟨g,o,none⟩ vs i).run P w=.ok () w'∧w'.heap[g]?=some (.cells arr t fz)∧arr.size=cur.size∧(∀k,arr[k]?=if o+i≤k∧k<o+i+vs.length then vs[k-(o+i)]? else cur[k]?) ∧
  w'.heap.size=w.heap.size∧(∀c,c≠g→w'.heap[c]?=w.heap[c]?)∧w'.tape=w.tape∧w'.os=w.os∧w'.output=w.output:=by
 intro vs;induction vs with
 | nil=>intro o i cur w hg _ _ _;exact⟨w,cur,rfl,hg,rfl,fun k=>by rw[if_neg (by simp)],rfl,fun _ _=>rfl,rfl,rfl,rfl⟩
 | cons v vs ih =>
  intro o i cur w hg hl h1 hfz;have hi:o+i<cur.size:=by simp at hl;omega
  have hcell:w.cell? ⟨g,o+i,none⟩=some cur[o+i]:=by simp[World.cell?,hg,hi]
  have hfro:w.frozen? ⟨g,o+i,none⟩=false:=by have:=hfz (o+i) hi;simp only[World.frozen?,hg];grind
  have hgl:=(RY.1 hg).1;have hst:(store ((⟨g,o,none⟩:Addr).add i) v).run P w=.ok () (w.setCell ⟨g,o+i,none⟩ v):=by rw[LH,run_store P w _ v _ (h1 v (by simp)),hcell];simp[hfro]
  have hg':(w.setCell ⟨g,o+i,none⟩ v).heap[g]?=some (.cells (cur.setIfInBounds (o+i) v) t fz):=by simp only[World.setCell,Array.getElem?_modify,hg];simp
  obtain⟨w',arr,h2,h3,h4,h5,h6,h7,h8,h9,h10⟩:=ih o (i+1) (cur.setIfInBounds (o+i) v) (w.setCell ⟨g,o+i,none⟩ v) hg' (by simp at hl ⊢;omega) (fun x hx=>h1 x (by simp[hx])) (by simpa using hfz);refine⟨w',arr,?_,h3,by simpa using h4,fun k=>?_,?_,fun c hc=>?_,h8,h9,h10⟩
  ·simp only[storeCells,z6,hst,CB];exact h2
  · rw[h5];by_cases hk:o+(i+1)≤k∧k<o+(i+1)+vs.length
    ·rw[if_pos hk,if_pos (by simp;omega),show k-(o+i)=(k-(o+(i+1)))+1 by omega];rfl
    · rw[if_neg hk];by_cases hk2:k=o+i
      ·subst hk2;rw[if_pos (by simp)];simp[hi]
      ·rw[if_neg (by simp;omega),ALY,if_neg (by omega)]
  ·rw[h6];simp[World.setCell]
  ·rw[h7 c hc];simp only[World.setCell,Array.getElem?_modify];grind
theorem A1y(h:Hp)(b:Nat)(k:T A0→Nat→TypeId→Bool→Bool→R)(z:R):(∃c n e cl ro,h.at b=some (.row c n e cl ro)∧Is h b k z=k c n e cl ro)∨Is h b k z=z:=by
 unfold Is Hp.at;cases h.bl.get (path b) with
 | none=>exact .inr rfl
 | some ob =>
  cases ob with
  | row c n e cl ro=>exact .inl ⟨c,n,e,cl,ro,rfl,rfl⟩
  | iter s p=>exact .inr rfl
  | mp es=>exact .inr rfl
theorem ag{w:World}{b o:Nat}(hr:Z6 f h w)(hb:f b=some i)(hl:M7 f l l')(k:Hp→R)(z:R):Ar h b o l k z=z ∨
 ∃h' w',Ar h b o l k z=k h'∧L6 h h'∧L5 f h w f h' w'∧(storeCells ⟨i.S6,i.o+o,none⟩ l').run P w=.ok () w':=by
 unfold Ar;rcases A1y h b (fun c n e cl ro=>bif ro then z else bif K9 l then bif Nat.ble (Nat.add o (len l)) n then C7 l o c fun c=>h.Ei b (some (.row c n e cl false)) k else z else z) z with⟨c,n,e,cl,ro,hat,h1⟩|h1
 · rw[h1];cases ro with
   | true=>exact .inl rfl
   | false =>
    cases ha:K9 l with
    | false=>exact .inl rfl
    | true =>
     cases hb2:Nat.ble (Nat.add o (len l)) n with
     | false=>exact .inl rfl
     | true =>
      have hble:=Nat.ble_eq.mp hb2;rw[R4] at hble;have hble':o+l.length≤n:=hble;obtain⟨x,hx,hor⟩:=hr.obj b _ i hb hat;have hlive:(h.at b).isSome:=by rw[hat];rfl
      cases hor with
      | row _ _ _ _ _ arr e' fz he hs hn hcl hro hc =>
       obtain⟨w',arr',g1,g2,g3,g4,g5,g6,g7,g8,g9⟩:=UE P i.S6 e' fz l' (i.o+o) 0 arr w hx (by rw[hs,←hl.1];omega) (hl.one ha) (by rw[hs];exact hro rfl);refine .inr ⟨h.put b (some (.row (C7 l o c fun t=>t) n e cl false)),w',?_,L6.put _ hlive,?_,g1⟩
       ·show C7 l o c (fun c=>h.Ei b (some (.row c n e cl false)) k)=_;rw[AK,Hp.Hh]
       · refine L5.put hr hb hlive g2 (.row _ _ _ _ _ arr' e' fz he (by rw[g3];exact hs) hn hcl hro fun j v hj hv=>?_) g5 g6 g7 g8 g9;rw[Eh] at hv;split at hv
         ·rename_i hj2;obtain⟨v',h3,h4⟩:=hl.2 _ v hv;grind
         ·rename_i hj2;obtain⟨v',h3,h4⟩:=hc j v hj hv;refine⟨v',?_,h4⟩;rw[g4,if_neg (by rw[←hl.1];omega)];exact h3
 ·rw[h1];exact .inl rfl
end
section
variable {P:Program} {gs:List Nat} {ds:List (Option Tmp)} {o:Oper}
theorem AGD{e:TypeId}{z:List A0}(ho:o.op=.alloc e)(hz:Hz P e=some z):Dd P gs ds o (Ik e z z.length):=by intro A7 hcall lo tm f h a w hG hE hr;obtain⟨ti,v,hi,hiz,rfl,hzz,_,_⟩:=Be hz;unfold Ik;rw[W6];have hc:=L5.newRow (w':={ w with heap:=w.heap.push (.cells v.cells e) }) (s:=0) (cl:=true) (n:=v.cells.toList.length) hr (M7.cells (hzz f)) (by simp) (fun _=>by simp) (Qa _) rfl rfl rfl rfl;refine J9.value (L6.new _ hr.base) (v':=.pointer (some ⟨w.heap.size,0,none⟩)) ?_ hc (.ptr h.A6 0 _ (Map.R2 _ _ _));simp[execOp,ho,Instr.alloc,zeroValue,typeInfo,hi,hiz,newVar,newRow]
theorem APc{e:TypeId}{x:Operand}(ho:o.op=.box e x):Dd P gs ds o (eN e (C3 gs ds x)):=by
 intro A7 hcall lo tm f h a w hG hE hr;have hx:=F0 hG hE x;unfold eN AHT;cases ht:TK (G4 (C3 gs ds x) lo tm) with
 | true=>trivial
 | false =>
  show J9 P f h w a o (AA h e (c7 (G4 (C3 gs ds x) lo tm)) (len (c7 (G4 (C3 gs ds x) lo tm))) true fun b h=>.val (C2 b 0) h);rw[W6,R4];have hl:=hx.cells ht;have hlen:(c7 (G4 (C3 gs ds x) lo tm)).length=(a.eval x).cells.size:=by rw[hl.1];simp
  have hc:=L5.newRow (w':={ w with heap:=w.heap.push (.cells (a.eval x).cells e) }) (s:=0) (cl:=true) hr (M7.cells hl) (by omega) (fun _=>hlen) (Qa _) rfl rfl rfl rfl;refine J9.value (L6.new _ hr.base) (v':=.pointer (some ⟨w.heap.size,0,none⟩)) ?_ hc (.ptr h.A6 0 _ (Map.R2 _ _ _));simp[execOp,ho,Instr.box,newVar,newRow]
theorem ABU{t:TypeId}{x:Operand}{d:TypeDesc}(ho:o.op=.store t x y)(hd:P.underlying t=some d)(hs:sz P t=1):Dd P gs ds o (Ab (C3 gs ds x) (C3 gs ds y)):=by
 intro A7 hcall lo tm f h a w hG hE hr;have hx:=F0 hG hE x;have hy:=F0 hG hE y;unfold Ab;rcases Ha (G4 (C3 gs ds x) lo tm) (fun b o=>Ar h b o [G4 (C3 gs ds y) lo tm] (fun h=>N3.val undef h) .none) .none with⟨ad,e,h1⟩|h1
 · rw[h1];rw[e] at hx;obtain⟨_,i,hi,hxe⟩:=hx.FK;have hl:=M7.cons hy (M7.nil f);rcases ag (P:=P) (o:=ad.off) hr hi hl (fun h=>N3.val undef h) .none with h2|⟨h',w',h2,h3,h4,h5⟩
   ·rw[h2];trivial
   · rw[h2];have hna:(a.eval y).cells=#[a.eval y]:=by
      have hone:∀xs,a.eval y≠.agg xs:=by intro xs hxs;rw[hxs] at h5;trivial
      cases hv:a.eval y<;>first|rfl|exact absurd hv (hone _)
     refine J9.skip h3 ?_ h4;simp[execOp,ho,Instr.storeAt,Instr.sureAddr,storeVar,hxe,run_sizeOf hd,hs,hna,h5]
 ·rw[h1];trivial
theorem AC7{t:TypeId}{x:Operand}{d:TypeDesc}(ho:o.op=.store t x y)(hd:P.underlying t=some d):Dd P gs ds o (Y1 (sz P t) (C3 gs ds x) (C3 gs ds y)):=by
 intro A7 hcall lo tm f h a w hG hE hr;have hx:=F0 hG hE x;have hy:=F0 hG hE y;unfold Y1;rcases Ha (G4 (C3 gs ds x) lo tm) (fun b o=>Oh (G4 (C3 gs ds y) lo tm) (fun l=>bif Nat.beq (len l) (sz P t) then Ar h b o l (fun h=>N3.val undef h) .none else .none) .none) .none with⟨ad,e,h1⟩|h1
 · rw[h1];rw[e] at hx;obtain⟨_,i,hi,hxe⟩:=hx.FK;rcases Pz (G4 (C3 gs ds y) lo tm) (fun l=>bif Nat.beq (len l) (sz P t) then Ar h ad.block ad.off l (fun h=>N3.val undef h) .none else .none) .none with⟨cs,e2,h2⟩|h2
   · rw[h2];rw[e2] at hy;obtain⟨cs',hye,hl⟩:=hy.QC;cases hn:Nat.beq (len cs.toList) (sz P t) with
     | false=>trivial
     | true =>
      have hn:=T9 hn;rw[R4] at hn;show J9 P f h w a o (Ar h ad.block ad.off cs.toList (fun h=>N3.val undef h) .none);rcases ag (P:=P) (o:=ad.off) hr hi hl (fun h=>N3.val undef h) .none with h3|⟨h',w',h3,h4,h5,h6⟩
      ·rw[h3];trivial
      · rw[h3];refine J9.skip h4 ?_ h5;have hsz:cs'.size=sz P t:=by rw[←hn,hl.1];simp
        simp[execOp,ho,Instr.storeAt,Instr.sureAddr,storeVar,hxe,hye,run_sizeOf hd,Value.cells,hsz,h6]
   ·rw[h2];trivial
 ·rw[h1];trivial
theorem APY{x:Operand}(ho:o.op=.panic x):Dd P gs ds o (A5p (C3 gs ds x)):=by
 intro A7 hcall lo tm f h a w hG hE hr;have hx:=F0 hG hE x;unfold A5p;rcases fy (G4 (C3 gs ds x) lo tm) (fun t v=>N3.panic [{ v:=.iface t v,recovered:=false }] h) .none .none with⟨t,v,e,h1⟩|⟨e,h1⟩|h1
 · rw[h1];rw[e] at hx;obtain⟨v',hxe,hv⟩:=hx.dn;intro next Q hk
   have hrun:(execOp a.eval o).run P w=.halt (.panic (.iface t v')) w:=by simp[execOp,ho,Instr.panic,hxe]
   unfold Oper.wp;rw[hrun];exact hk f _ w (L6.refl h) (L5.refl hr) (.cons ⟨.iface t v v' hv,rfl,rfl⟩ .nil)
 ·rw[h1];trivial
 ·rw[h1];trivial
theorem J9.call{w:World}{a:Act}{args:List A0}{args':Array A0}(hcall:S9 P gs A7)(hG:Dr gs f)(hr:Z6 f h w)(hl:M7 f args args'.toList)(hrun:(execOp a.eval o).run P w=(callFunc g args').run P w):J9 P f h w a o (A7 g args h):=by
 have hc:=hcall g args args'.toList f h w hG hr hl;revert hc;have hin:Enters P g→(execOp a.eval o).run P w=.ok (.enter g args') w:=fun⟨fn,h1,h2,h3⟩=>by
  rw[hrun];have h4:fn.name ≠ "runtime.NumGoroutine" := by simpa using h2
  simp[callFunc,h1,h4];grind
 cases A7 g args h with
 | none=>exact fun _=>trivial
 | val v h' =>
  intro⟨he,hc⟩ next Q hk
  unfold Oper.wp;rw[hin he,Oper.upon_enter];refine Calls.mono (by rw[AAy] at hc;exact hc) fun e w' he=>?_;grind
 | panic c h' =>
  intro⟨he,hc⟩ next Q hk
  unfold Oper.wp;rw[hin he,Oper.upon_enter];refine Calls.mono (by rw[AAy] at hc;exact hc) fun e w' he=>?_;grind
theorem AGe(ho:o.op=.call { callee:=.value (.func g),args:=args,argTypes:=ats }):Dd P gs ds o (Dq g (args.toList.map (C3 gs ds))):=by intro A7 hcall lo tm f h a w hG hE hr;have hl:=Jl hG hE args.toList;exact J9.call hcall hG hr (by simpa using hl) (gI a.eval w ho rfl)
theorem AHH{x:Operand}(ho:o.op=.call { callee:=.value x,args:=args,argTypes:=ats }):Dd P gs ds o (eI (C3 gs ds x) (args.toList.map (C3 gs ds))):=by
 intro A7 hcall lo tm f h a w hG hE hr;have hx:=F0 hG hE x;have hl:=Jl hG hE args.toList;unfold eI;rcases ABu (G4 (C3 gs ds x) lo tm) (fun g first cap=>A7 g (first++(XW (args.toList.map (C3 gs ds)) lo tm++cap)) h) .none with⟨g,fi,cp,e,h1⟩|h1
 · rw[h1];rw[e] at hx;obtain⟨fi',cp',hxe,hf1,hc1⟩:=hx.ABO;refine J9.call hcall hG hr (args':=fi'++args.map a.eval++cp') ?_ ?_
   ·have:=hf1.append (hl.append hc1);simp_all
   ·unfold execOp;rw[ho];simp only[resolve,hxe,Deferred.ofValue,z6];simp[invoke]
 ·rw[h1];trivial
theorem AOv{t:TypeId}{x:Operand}(ho:o.op=.range t x)(ht:P.underlying t=some .string):Dd P gs ds o (AA6 (C3 gs ds x)):=by
 intro A7 hcall lo tm f h a w hG hE hr;have hx:=F0 hG hE x;unfold AA6;rcases Ft (G4 (C3 gs ds x) lo tm) (fun s=>h.SB (.iter s 0) fun b h=>N3.val (C2 b 0) h) .none with⟨s,e,h1⟩|h1
 ·rw[h1];rw[e] at hx;have hxe:=hx.Bn;rw[Hp.DM];have hc:=L5.new (w':={ w with heap:=w.heap.push (.stringIter s 0) }) (i:=⟨w.heap.size,0,0,0⟩) hr rfl (.iter s 0 rfl) rfl rfl rfl rfl;refine J9.value (L6.new _ hr.base) (v':=.pointer (some ⟨w.heap.size,0,none⟩)) ?_ hc (.ptr h.A6 0 _ (Map.R2 _ _ _));simp[execOp,ho,Instr.range,run_underlying ht,hxe]
 ·rw[h1];trivial
theorem AKW(h:Hp)(b:Nat)(k:ByteArray→Nat→R)(z:R):(∃s p,h.at b=some (.iter s p)∧A65 h b k z=k s p)∨A65 h b k z=z:=by
 unfold A65 Hp.at;cases h.bl.get (path b) with
 | none=>exact .inr rfl
 | some ob =>
  cases ob with
  | row c n e cl ro=>exact .inr rfl
  | iter s p=>exact .inl ⟨s,p,rfl,rfl⟩
  | mp es=>exact .inr rfl
theorem F5.ALR{a:Array A0}(h:a.toList.all j9=true):F5 f (.tuple a) (.tuple a):=by have:=F5.KJ (M7.plain (f:=f) h);simpa using this
theorem ABW(s:ByteArray)(pos:Nat)(h:pos<s.size)(ha:247<(s[pos]'h).toNat):Utf8.decode s pos=(65533,1):=by
 have e:s.get! (pos+0)=s[pos]'h:=by show s.get! pos=_;simp[ByteArray.get!,getElem!_pos,h];rfl
 have h1:=(s[pos]'h).toNat_lt;have e2:((s[pos]'h).toNat/32 == 6)=false:=by rw[beq_eq_false_iff_ne];omega
 have e3:((s[pos]'h).toNat/16 == 14)=false:=by rw[beq_eq_false_iff_ne];omega
 have e4:((s[pos]'h).toNat/8 == 30)=false:=by rw[beq_eq_false_iff_ne];omega
 have e1:¬(s[pos]'h).toNat<0x80:=by omega
 simp only[Utf8.decode,e,e1,if_false,e2,e3,e4,Bool.false_and];simp[Utf8.runeError]
theorem AMi(c:Nat)(k:Nat→R)(z:R):(∃r,Ua c k z=k r∧((c<128∧r=c)∨(247<c∧r=65533)))∨Ua c k z=z:=by
 unfold Ua;cases h1:Nat.blt c 128 with
 | true=>exact .inl ⟨c,rfl,.inl ⟨Nat.blt_eq.mp h1,rfl⟩⟩
 | false =>
  cases h2:Nat.blt 247 c with
  | true=>exact .inl ⟨65533,rfl,.inr ⟨Nat.blt_eq.mp h2,rfl⟩⟩
  | false=>exact .inr rfl
theorem AOl{x:Operand}(ho:o.op=.next x true):Dd P gs ds o (AAP (C3 gs ds x)):=by
 intro A7 hcall lo tm f h a w hG hE hr;have hx:=F0 hG hE x;unfold AAP;rcases Ha (G4 (C3 gs ds x) lo tm) (fun b o=>bif Nat.beq o 0 then A65 h b (fun s pos =>
  bif Nat.blt pos (len (bl s)) then R5 (YH (bl s) pos) (fun c=>Ua c.toNat (fun r=>C8 (Nat.succ pos) fun q=>h.Ei b (some (.iter s q)) fun h=>N3.val (.tuple #[.bool true,.int .i64 (.ofNat pos),.int .i32 (.ofNat r)]) h) .none) .none
  else .val (.tuple #[.bool false]) h) .none else .none) .none with⟨ad,e,h1⟩|h1
 · rw[h1];rw[e] at hx;obtain⟨_,i,hi,hxe⟩:=hx.FK;cases h0:Nat.beq ad.off 0 with
   | false=>trivial
   | true =>
    have h0:=T9 h0;dsimp only[cond_true];rcases AKW h ad.block (fun s pos =>
     bif Nat.blt pos (len (bl s)) then R5 (YH (bl s) pos) (fun c=>Ua c.toNat (fun r=>C8 (Nat.succ pos) fun q=>h.Ei ad.block (some (.iter s q)) fun h=>N3.val (.tuple #[.bool true,.int .i64 (.ofNat pos),.int .i32 (.ofNat r)]) h) .none) .none
     else .val (.tuple #[.bool false]) h) .none with⟨s,pos,hat,h2⟩|h2
    · rw[h2];obtain⟨ob,hob,hor⟩:=hr.obj ad.block _ i hi hat;have hlive:(h.at ad.block).isSome:=by rw[hat];rfl
      cases hor with
      | iter _ _ hio =>
      have hpt:a.eval x=.pointer (some ⟨i.S6,0,none⟩):=by rw[hxe,hio,h0]
      cases hlt:Nat.blt pos (len (bl s)) with
      | false =>
       have hge:¬pos<s.size:=by intro hh;have:Nat.blt pos (len (bl s))=true:=Nat.blt_eq.mpr (by rw[R4,Bm];exact hh);rw[hlt] at this;cases this
       refine J9.value (L6.refl h) ?_ (L5.refl hr) (F5.ALR rfl);simp[execOp,ho,hpt,Instr.next,getObj,Sem.run,hob,hge]
      | true =>
       have hlt:=Nat.blt_eq.mp hlt;rw[R4,Bm] at hlt;cases hc:YH (bl s) pos with
       | none=>trivial
       | some c =>
        rw[AE6] at hc;have hce:s[pos]'hlt=c:=by have h3:=(Fe.1 hc).2;rw[←h3];rfl
        rcases AMi c.toNat (fun r=>C8 (Nat.succ pos) fun q=>h.Ei ad.block (some (.iter s q)) fun h=>N3.val (.tuple #[.bool true,.int .i64 (.ofNat pos),.int .i32 (.ofNat r)]) h) .none with⟨r,hk,hr'⟩|hk
        · have hd:Utf8.decode s pos=(r,1):=by
           rcases hr' with⟨h1,rfl⟩|⟨h1,rfl⟩
           ·have:=decode_ascii s pos hlt (by rw[hce];exact h1);grind
           ·exact ABW s pos hlt (by rw[hce];exact h1)
          show J9 P f h w a o (Ua c.toNat (fun r=>C8 (Nat.succ pos) fun q=>h.Ei ad.block (some (.iter s q)) fun h=>N3.val (.tuple #[.bool true,.int .i64 (.ofNat pos),.int .i32 (.ofNat r)]) h) .none);rw[hk];show J9 P f h w a o (C8 (Nat.succ pos) fun q=>h.Ei ad.block (some (.iter s q)) fun h=>N3.val (.tuple #[.bool true,.int .i64 (.ofNat pos),.int .i32 (.ofNat r)]) h);rw[C1,Hp.Hh];have hbl:=(hr.fresh _ _ hi).2;have hc2:=L5.put (w':={ w with heap:=w.heap.setIfInBounds i.S6 (.stringIter s (pos+1)) }) (x:=.stringIter s (pos+1)) (o:=.iter s (pos+1)) hr hi hlive (by simp[hbl]) (.iter s (pos+1) hio) (by simp)
           (fun c hc=>by grind) rfl rfl rfl
          refine J9.value (L6.put _ hlive) ?_ hc2 (F5.ALR rfl);simp[execOp,ho,hpt,Instr.next,getObj,setObj,Sem.run,hob,hlt,hd,goInt]
        ·show J9 P f h w a o (Ua c.toNat (fun r=>C8 (Nat.succ pos) fun q=>h.Ei ad.block (some (.iter s q)) fun h=>N3.val (.tuple #[.bool true,.int .i64 (.ofNat pos),.int .i32 (.ofNat r)]) h) .none);rw[hk];trivial
    ·rw[h2];trivial
 ·rw[h1];trivial
theorem A0e(n:Nat)(z:List A0):U9 (n+1) z=z++U9 n z:=rfl
theorem Ez(n:Nat)(z:List A0):(U9 n z).length=n*z.length:=by
 induction n with
 | zero=>show([]:List A0).length=_;simp
 | succ n ih=>rw[A0e,Bz,ih,uI];omega
theorem ALd(n:Nat)(z:List A0)(k:Nat)(hk:k<n*z.length):(U9 n z)[k]?=z[k%z.length]?:=by
 induction n generalizing k with
 | zero=>simp at hk
 | succ n ih =>
  rw[A0e];rw[uI] at hk;by_cases h:k<z.length
  ·rw[OZ h,Hi h]
  ·rw[Gj (by omega),ih _ (by omega)];congr 1;rw[Nat.mod_eq_sub_mod (by omega:k≥z.length)]
theorem rE(zero:Array A0)(n s:Nat)(hs:zero.size=s):((Array.range (n*s)).map (zero[·%zero.size]!)).toList=U9 n zero.toList:=by
 apply xw;intro k;by_cases hk:k<n*s
 · rw[ALd _ _ _ (by simpa[hs] using hk)];have hs0:0<s:=by
    grind
   have hm:k%zero.size<zero.size:=ZI _ (by omega);simp[hk,hm]
 · have h1:(U9 n zero.toList).length≤k:=by rw[Ez];simp[hs];omega
   grind
theorem mH{z:List A0}(h:M7 f z z')(n:Nat):M7 f (U9 n z) (U9 n z'):=by
 induction n with
 | zero=>exact M7.nil f
 | succ n ih=>exact h.append ih
theorem LU:16777216<R8:=by unfold R8;decide
theorem AOM{t e:TypeId}{x:Operand}{z:List A0}(ho:o.op=.makeSlice t x y)(ht:P.underlying t=some (.slice e))(hz:Hz P e=some z):Dd P gs ds o (qw e z (P.bytesOf e) (C3 gs ds x) (C3 gs ds y)):=by
 intro A7 hcall lo tm f h a w hG hE hr;have hx:=F0 hG hE x;have hy:=F0 hG hE y;obtain⟨ti,v,hi,hiz,rfl,hzz,hzl,hsz⟩:=Be hz;unfold qw;rcases He (G4 (C3 gs ds x) lo tm) (fun n=>Hw (G4 (C3 gs ds y) lo tm) (fun c =>
  bif Nat.ble n c then bif Nat.ble (Nat.mul (P.bytesOf e) c) 16777216 then bif Nat.ble c 16777216 then AA h e (U9 c v.cells.toList) (len (U9 c v.cells.toList)) true fun b h=>C8 n fun n=>C8 c fun c=>N3.val (F8 b 0 n c) h else .none else .none else .none) .none) .none with⟨k1,n,e1,h1⟩|h1
 · rw[h1];rw[e1] at hx;rcases He (G4 (C3 gs ds y) lo tm) (fun c =>
    bif Nat.ble n c then bif Nat.ble (Nat.mul (P.bytesOf e) c) 16777216 then bif Nat.ble c 16777216 then AA h e (U9 c v.cells.toList) (len (U9 c v.cells.toList)) true fun b h=>C8 n fun n=>C8 c fun c=>N3.val (F8 b 0 n c) h else .none else .none else .none) .none with⟨k2,c,e2,h2⟩|h2
   · rw[h2];rw[e2] at hy;cases c1:Nat.ble n c with
     | false=>trivial
     | true =>
     cases c2:Nat.ble (Nat.mul (P.bytesOf e) c) 16777216 with
     | false=>trivial
     | true =>
     cases c3:Nat.ble c 16777216 with
     | false=>trivial
     | true =>
      have c1:=Nat.ble_eq.mp c1;have c2:P.bytesOf e*c≤16777216:=Nat.ble_eq.mp c2;have c3:=Nat.ble_eq.mp c3;show J9 P f h w a o (AA h e (U9 c v.cells.toList) (len (U9 c v.cells.toList)) true fun b h=>C8 n fun n=>C8 c fun c=>N3.val (F8 b 0 n c) h);rw[W6,C1,C1,R4];have hsize:v.cells.size=ti.size:=by rw[←hzl];simp
      have harr:(madeCells v.cells (c*ti.size)).toList=U9 c v.cells.toList:=rE v.cells c ti.size hsize;have hl:M7 f (U9 c v.cells.toList) (madeCells v.cells (c*ti.size)).toList:=by rw[harr];exact mH (hzz f) c
      have hlen:(U9 c v.cells.toList).length=(madeCells v.cells (c*ti.size)).size:=by rw[hl.1];simp
      have hc:=L5.newRow (w':=w.alloc (.cells (madeCells v.cells (c*ti.size)) e)) (s:=0) (cl:=true) hr (M7.cells hl) (by omega) (fun _=>hlen) (Qa _) rfl rfl rfl rfl;have hO:=LU;refine J9.value (L6.new _ hr.base) (v':=.slice (some ⟨w.heap.size,0,none⟩) n c) ?_ hc (.slice h.A6 0 n c _ (Map.R2 _ _ _) (by omega) c1);have hb:ti.bytes=P.bytesOf e:=by simp[Program.bytesOf,hi]
      have hbytes:(ti.bytes:Int)*(c:Int)≤281474976710656:=by grind
      have hrun:=run_make w t e ti v ht hi hiz k1 k2 (n:Int) (c:Int) (by omega) (by omega) hbytes (by omega);rw[Int.toNat_natCast,Int.toNat_natCast] at hrun;simp only[execOp,ho,hx.Y8,hy.Y8,z6,hrun];rfl
   ·rw[h2];trivial
 ·rw[h1];trivial
end
section
variable {P:Program} {gs:List Nat} {ds:List (Option Tmp)} {o:Oper}
theorem UQ(w:World)(need AM:Nat)(e:TypeId):need≤grownCap w need AM e:=by unfold grownCap Question.cut;exact Nat.le_add_right _ _
theorem VJ(l:List UInt8):Bg l=l.map Uk:=by
 induction l with
 | nil=>rfl
 | cons b l ih=>show Uk b::Bg l=_;rw[ih];rfl
theorem ADc{t e:TypeId}{n:Nat}{parts:Array (Nat×Operand)}{z:List A0}{l:List (Nat×Nat×OD)}(ho:o.op=.buildSlice t n parts)(ht:P.underlying t=some (.slice e))(hz:Hz P e=some z)(hp:Lm gs ds (fun i=>some (i*sz P e,sz P e)) parts.toList=some l)(hn:n*sz P e≤16777216)(hn2:n≤16777216):Dd P gs ds o (V2 e n (U9 n z) l):=by
 intro A7 hcall lo tm f h a w hG hE hr;obtain⟨ti,v,hi,hiz,rfl,hzz,hzl,hsz⟩:=Be hz;have hpo:=zr _ _ hp;unfold V2;have hsize:v.cells.size=ti.size:=by rw[←hzl];simp
 have harr:(madeCells v.cells (n*ti.size)).toList=U9 n v.cells.toList:=rE v.cells n ti.size hsize;have hL:M7 f (U9 n v.cells.toList) (madeCells v.cells (n*ti.size)).toList:=by rw[harr];exact mH (hzz f) n
 rcases A6q hG hE (fun l=>AA h e l (len l) true fun b h=>N3.val (F8 b 0 n n) h) .none hpo (U9 n v.cells.toList) _ hL with h1|⟨z',cs',h1,h2,h3,h4⟩
 ·rw[h1];trivial
 · rw[h1,W6,R4];have hlen:z'.length=cs'.size:=by rw[h3.1];simp
   have hc:=L5.newRow (w':=w.alloc (.cells cs' e)) (s:=0) (cl:=true) hr (M7.cells h3) (by omega) (fun _=>hlen) (Qa _) rfl rfl rfl rfl;have hO:=LU;refine J9.value (L6.new _ hr.base) (v':=.slice (some ⟨w.heap.size,0,none⟩) n n) ?_ hc (.slice h.A6 0 n n _ (Map.R2 _ _ _) (by omega) (M8 _));have hsz0:(sizeOf e).run P w=.ok ti.size w:=by simp[sizeOf,typeInfo,hi]
   have hz0:(zeroValue e).run P w=.ok v w:=by simp[zeroValue,typeInfo,hi,hiz]
   rw[hsz] at h2 hn;have hbig:¬n*ti.size>2^24:=by omega
   have hfill:Instr.fill (fun i=>some (i*ti.size,ti.size)) (madeCells v.cells (n*ti.size)) (parts.map fun(i,x)=>(i,a.eval x)).toList=some cs':=by rw[yW];exact h2
   simp only[execOp,ho,Instr.buildSlice,z6,run_underlying ht,CB,hsz0];rw[if_neg hbig];by_cases h0:n*ti.size=0
   · have e0:(Array.range (n*ti.size)).map (fun x=>(#[]:Array A0)[x%(#[]:Array A0).size]!)=madeCells v.cells (n*ti.size):=by
      rw[h0];simp[madeCells]
     simp only[if_pos h0,z6,Cw,CB];rw[e0,hfill];rfl
   ·simp only[Cw,CB,if_neg h0,z6,hz0];rw[show(Array.range (n*ti.size)).map (fun x=>v.cells[x%v.cells.size]!)=madeCells v.cells (n*ti.size) from rfl,hfill];rfl
theorem A3t{e:TypeId}{x:Operand}(ho:o.op=.convert s d x)(hs:P.underlying s=some .string)(hd:P.underlying d=some (.slice e))(he:P.underlying e=some (.int .u8)):Dd P gs ds o (HL e (C3 gs ds x)):=by
 intro A7 hcall lo tm f h a w hG hE hr;have hx:=F0 hG hE x;unfold HL;rcases Ft (G4 (C3 gs ds x) lo tm) (fun s=>C8 (len (bl s)) fun n=>bif Nat.blt n R8 then AA h e (Bg (bl s)) n false fun b h=>C8 (C4 1 n) fun c=>N3.val (F8 b 0 n c) h else .none) .none with⟨str,e1,h1⟩|h1
 · rw[h1,C1];rw[e1] at hx;have hxe:=hx.Bn;rw[R4,Bm];cases hlt:Nat.blt str.size R8 with
   | false=>trivial
   | true =>
    have hlt:=Nat.blt_eq.mp hlt;show J9 P f h w a o (AA h e (Bg (bl str)) str.size false fun b h=>C8 (C4 1 str.size) fun c=>N3.val (F8 b 0 str.size c) h);rw[W6,C1];have hge:=UQ w str.size 0 e;have hrun:=run_bytes_of_string w s d e str hs hd he;generalize grownCap w str.size 0 e=cap at *;have hrow:(bytesRow str cap).toList=Bg (bl str)++List.replicate (cap-str.size) (.int .u8 0):=by rw[VJ];simp[bytesRow,bl,Uk]
    have hsize:(bytesRow str cap).size=cap:=by have:=congrArg List.length hrow;rw[VJ] at this;simp[Bm] at this;omega
    have hc:=L5.newRow (w':=w.drew.alloc (.cells (bytesRow str cap) e ((bytesRow str cap).size,(bytesRow str cap).size+1))) (s:=1) (e:=e) (cl:=false) (n:=str.size) (l:=Bg (bl str)) hr (arr:=bytesRow str cap) (fun k v hk hkn=>by
     have hk2:(bytesRow str cap)[k]?=some v:=by
      have h3:(bytesRow str cap).toList[k]?=some v:=by grind
      simpa using h3
     refine⟨v,hk2,?_⟩;rw[VJ] at hk;have:=s6 hk;obtain⟨b,_,rfl⟩:=FY.1 this;exact .int _ _) (by omega) (fun h=>by cases h) (fun k hk h=>by omega) rfl rfl rfl rfl
    refine J9.value (L6.new _ hr.base) (v':=.slice (some ⟨w.heap.size,0,none⟩) str.size cap) ?_ hc ?_
    ·simp only[execOp,ho,hxe,z6,hrun];rfl
    · refine .Z9 h.A6 0 str.size _ str.size _ 0 cap (Map.R2 _ _ _) ?_ hlt (M8 _) hge (.inl rfl) ?_
      ·rfl
      grind
 ·rw[h1];trivial
end
section
variable {P:Program} {gs:List Nat} {ds:List (Option Tmp)} {o:Oper}
theorem Zk{b:Nat}(hc:cellsOf h b ao m=some cs):∃c n e cl ro,h.at b=some (.row c n e cl ro)∧ao+m≤n∧V6 c ao m []=some cs:=by unfold cellsOf at hc;obtain⟨ob,hob,hc⟩:=V8 _ _ hc;obtain⟨c,n,e,cl,ro,rfl,h1,h2⟩:=au hc;exact⟨c,n,e,cl,ro,hob,h1,h2⟩
theorem LN{w:World}{A:Addr}(h:∀j v,l'[j]?=some v→w.cell? (A.add j)=some v)(hm:m≤l'.length):(loadCells A m).run P w=.ok (l'.take m).toArray w:=by
 have:=run_loadCells_list (P:=P) w A (l'.take m) fun j v hj=>by grind
 grind
theorem AMD{w:World}{s:Nat}(hr:Z6 f h w)(hv:F5 f v v')(k:Nat→List A0→R)(z:R):wq h s v k z=z ∨
 ∃n new new',wq h s v k z=k n new∧M7 f new new'∧new.length=n*s∧(∀w:World,(Builtin.lenOf v').run P w=.ok n w)∧(∀w2:World,w2.heap=w.heap→∀m,m≤n→(Builtin.firstCells s m v').run P w2=.ok (new'.take (m*s)).toArray w2):=by
 cases v with
 | slice p l c =>
  have e1:wq h s (.slice p l c) k z=bif Nat.beq l 0 then k 0 [] else Option.rec z (fun a=>R5 (cellsOf h a.block a.off (Nat.mul l s)) (k l) z) p:=rfl
  rw[e1];cases hl:Nat.beq l 0 with
  | true =>
   have:=T9 hl;subst this;refine .inr ⟨0,[],[],rfl,M7.nil f,by simp,?_⟩;have hfin:∃q c',v'=.slice q 0 c':=by
    cases p with
    | none=>cases hv;exact⟨_,_,rfl⟩
    | some ad=>obtain⟨i,A,c',_,hx,_⟩:=hv.Ef;exact⟨_,_,hx⟩
   obtain⟨q,c',rfl⟩:=hfin;refine⟨fun w=>rfl,fun w2 _ m hm=>?_⟩;have:m=0:=by omega
   subst this;cases q with
   | none=>simp[Builtin.firstCells]
   | some A=>simp[Builtin.firstCells,loadCells,loadCellsFrom]
  | false =>
   have hl0:0<l:=by
    rcases Br l with h|h
    ·subst h;cases hl
    ·exact h
   cases p with
   | none=>exact .inl rfl
   | some ad =>
    show R5 (cellsOf h ad.block ad.off (Nat.mul l s)) (k l) z=z∨_;cases hcs:cellsOf h ad.block ad.off (Nat.mul l s) with
    | none=>exact .inl rfl
    | some cs =>
     obtain⟨i,A,c',hi,rfl,hA⟩:=hv.Ef;obtain⟨c2,n,e,cl,ro,hat,hm,hld⟩:=Zk hcs;obtain⟨x,hx,hor⟩:=hr.obj _ _ i hi hat;obtain⟨h1,l',h2,h3,h4⟩:=SR (P:=P) hor hx hm hld;refine .inr ⟨l,cs,l',(by show R5 (cellsOf h ad.block ad.off (Nat.mul l s)) (k l) z=_;rw[hcs];rfl),h2,h1,fun w=>rfl,fun w2 hw2 m hm2=>?_⟩;rw[hA hl0];have h5:∀j v,l'[j]?=some v→w2.cell? ((⟨i.S6,i.o+ad.off,none⟩:Addr).add j)=some v:=fun j v hj=>by have:=h3 j v hj;unfold World.cell? at this ⊢;rw[hw2];exact this
     exact LN h5 (by rw[←h2.1,h1];exact BY s hm2)
 | string str =>
  have:=hv.Bn;subst this;have e1:wq h s (.string str) k z=bif Nat.beq s 1 then k (len (bl str)) (Bg (bl str)) else z:=rfl
  rw[e1];cases hs:Nat.beq s 1 with
  | false=>exact .inl rfl
  | true =>
   have:=T9 hs;subst this;refine .inr ⟨str.size,Bg (bl str),Bg (bl str),by rw[R4,Bm];rfl,?_,by rw[VJ];simp[Bm],fun w=>rfl,fun w2 _ m hm=>?_⟩
   ·rw[VJ];exact M7.plain (by rw[List.all_map,Cc];intro b _;rfl)
   · rw[VJ,jH,←List.map_take];simp only[Builtin.firstCells,Cw];congr 1;apply nw.1;have e2:(str.extract 0 m).data.toList=(bl str).take m:=by
      simp[bl,ByteArray.data_extract]
     simp only[yW,e2];rfl
 | _=>exact .inl rfl
theorem F5.VX{a:Addr}{l:Nat}(h:F5 f (.slice (some a) l c) v')(hl:0<l):∃i c',f a.block=some i∧v'=.slice (some ⟨i.S6,i.o+a.off,none⟩) l c':=by obtain⟨i,A,c',hi,rfl,hA⟩:=h.Ef;grind
theorem A2Q(k:IntKind)(n:Nat)(h:Hp):YP (AD k n) h=.val (.int k (n:Int)) h:=by rw[Aa];rfl
theorem oP{dT sT ty e:TypeId}{ti:TypeInfo}{base:Option Addr}{dl dc n:Nat}{src:A0}{w:World}(hu:P.underlying dT=some (.slice e))(hi:P.info? e=some ti)(hlen:(Builtin.lenOf src).run P w=.ok n w)(hf:(Builtin.firstCells ti.size (Nat.min n dl) src).run P w=.ok cs.toArray w)(hst:match base with|some A=>(storeCells A cs).run P w=.ok () w'|none=>w'=w):
 (Builtin.copy_ #[dT,sT] ty #[.slice base dl dc,src]).run P w=.ok (goInt (Nat.min n dl)) w':=by
 have hs:(sizeOf e).run P w=.ok ti.size w:=by simp[sizeOf,typeInfo,hi]
 cases base with
 | none=>subst hst;simp[Builtin.copy_,run_underlying hu,hlen,hs,hf]
 | some A=>simp[Builtin.copy_,run_underlying hu,hlen,hs,hf,hst]
theorem AOi{x:Operand}{t u e:TypeId}{ti:TypeInfo}(ho:o.op=.call { callee:=.builtin .copy,args:=args,argTypes:=ats })(ha:args.toList=[x,y])(hat:ats.toList=[t,u])(ht:P.underlying t=some (.slice e))(hi:P.info? e=some ti):Dd P gs ds o (AHV ti.size (C3 gs ds x) (C3 gs ds y)):=by
 intro A7 hcall lo tm f h a w hG hE hr;have hx:=F0 hG hE x;have hy:=F0 hG hE y;have:=QN ha;subst this;have:=QN hat;subst this;obtain⟨cs,hrun⟩:=AI (P:=P) a.eval w ho;have e4:(#[x,y]:Array Operand).map a.eval=#[a.eval x,a.eval y]:=by simp
 rw[e4] at hrun;have hfin:∀(f':Map) (h':Hp) (w':World) (m:Nat),L6 h h'→L5 f h w f' h' w'→(Builtin.copy_ #[t,u] o.type #[a.eval x,a.eval y]).run P w=.ok (goInt m) w'→J9 P f h w a o (.val (.int .i64 (m:Int)) h'):=fun f' h' w' m h1 h2 h3=>by refine J9.value h1 ?_ h2 (.int _ _);rw[hrun];simp[builtin,h3,goInt]
 unfold AHV;rcases AMD (P:=P) hr hy (s:=ti.size) (fun n new=>Np (G4 (C3 gs ds x) lo tm)
  (fun b o l _=>C8 (Xx n l) fun m=>bif Nat.beq m 0 then YP (AD .i64 0) h else Ar h b o (KK (Nat.mul m ti.size) new) (fun h=>YP (AD .i64 m) h) .none) (fun l _=>bif Nat.beq l 0 then YP (AD .i64 0) h else .none) .none) .none with h1|⟨n,new,new',h1,h2,h3,h4,h5⟩
 ·rw[h1];trivial
 · rw[h1];rcases Wv (G4 (C3 gs ds x) lo tm) (fun b o l _=>C8 (Xx n l) fun m=>bif Nat.beq m 0 then YP (AD .i64 0) h else Ar h b o (KK (Nat.mul m ti.size) new) (fun h=>YP (AD .i64 m) h) .none) (fun l _=>bif Nat.beq l 0 then YP (AD .i64 0) h else .none) N3.none with⟨ad,l,c,e1,h6⟩|⟨l,c,e1,h6⟩|h6
   · rw[h6,C1,A35];rw[e1] at hx;have hmin:Nat.min n l=min n l:=rfl;have hf5:=h5 w rfl (Nat.min n l) (Nat.min_le_left _ _);cases hm:Nat.beq (min n l) 0 with
     | true =>
      have hm:=T9 hm;show J9 P f h w a o (YP (AD .i64 0) h);rw[A2Q];obtain⟨i,A,c',hi',hxe,hA⟩:=hx.Ef;refine hfin f h w 0 (L6.refl h) (L5.refl hr) ?_;rw[hxe];have:=oP (P:=P) (sT:=u) (ty:=o.type) (base:=some A) (dl:=l) (dc:=c') (cs:=new'.take (Nat.min n l*ti.size)) (w':=w) ht hi (h4 w) hf5 (by
       show(storeCells A (new'.take (Nat.min n l*ti.size))).run P w=_;rw[hmin,hm];simp[storeCells])
      grind
     | false =>
      have hm0:0<min n l:=by
       rcases Br (min n l) with h|h
       ·rw[h] at hm;cases hm
       ·exact h
      obtain⟨i,c',hi',hxe⟩:=hx.VX (by omega);show J9 P f h w a o (Ar h ad.block ad.off (KK (Nat.mul (min n l) ti.size) new) (fun h=>YP (AD .i64 (min n l)) h) .none);rw[OF];rcases ag (P:=P) (o:=ad.off) hr hi' (h2.take (Nat.mul (min n l) ti.size)) (fun h=>YP (AD .i64 (min n l)) h) .none with h7|⟨h',w',h7,h8,h9,h10⟩
      ·rw[h7];trivial
      ·rw[h7,A2Q];refine hfin f h' w' _ h8 h9 ?_;rw[hxe];exact oP ht hi (h4 w) hf5 h10
   · rw[h6];rw[e1] at hx;cases hl:Nat.beq l 0 with
     | false=>trivial
     | true =>
      have:=T9 hl;subst this;show J9 P f h w a o (YP (AD .i64 0) h);rw[A2Q];have hxe:a.eval x=.slice none 0 c:=by generalize a.eval x=ux at *;cases hx;rfl
      refine hfin f h w 0 (L6.refl h) (L5.refl hr) ?_;rw[hxe];have:=oP (sT:=u) (ty:=o.type) (base:=none) (dl:=0) (dc:=c) ht hi (h4 w) (h5 w rfl _ (Nat.min_le_left _ _)) rfl;grind
   ·rw[h6];trivial
theorem L5.drop{w:World}{b:Nat}(hr:Z6 f h w)(hb:f b=some i)(hl:(h.at b).isSome):L5 f h w f (h.put b none) w:=by
 have hat:=fun c=>Hp.Pt h b c none;refine⟨hr,Map.le_refl f,⟨?_,?_,hr.fresh,?_,hr.base⟩,M8 _,rfl,rfl,rfl,fun _ _ _=>rfl,fun c j e e'=>by rw[e] at e';cases e'⟩
 · intro c o' j hc ho';rw[hat] at ho';split at ho'
   ·cases ho'
   ·exact hr.obj c o' j hc ho'
 · intro c d j k hc hd hlc hld e;rw[hat] at hlc hld;refine hr.inj c d j k hc hd ?_ ?_ e
   ·grind
   grind
 · intro c hc;rw[hat];split
   ·rfl
   ·exact hr.dead c hc
theorem AIe(m:Nat):∀(r c:Nat),c<m→Builtin.growBy m r c≤m+(m+768)/4:=by
 intro r;induction r with
 | zero=>intro c hc;simp[Builtin.growBy];omega
 | succ r ih =>
  intro c hc;simp only[Builtin.growBy];rw[if_neg (by omega)];by_cases h:c+(c+768)/4<m
  ·exact ih _ h
  · cases r with
    | zero=>simp[Builtin.growBy];omega
    | succ r=>simp only[Builtin.growBy];rw[if_pos (by omega)];omega
theorem bj{sCap:Nat}(h:sCap<need)(hn:need≤16777216):Builtin.nextslicecap need sCap≤33554432:=by
 unfold Builtin.nextslicecap;split
 ·omega
 · split
   ·omega
   ·have:=AIe need 4 sCap h;omega
def AJQ(P:Program)(e:TypeId)(ti:TypeInfo)(zeros:Bool)(n:Nat)(x:A0)(news:List A0)(w:World):Prop :=
 (if zeros then ∃(k:IntKind) (z:A0),x=.int k (n:Int)∧n≤16777216∧ti.bytes≤8388608∧ti.zero=some z∧z.cells.size=ti.size∧news=U9 n z.cells.toList
   else(Builtin.lenOf x).run P w=.ok n w∧∀w2:World,w2.heap=w.heap→(Builtin.firstCells ti.size n x).run P w2=.ok news.toArray w2)
theorem Jf(zero:Array A0)(n s:Nat)(hs:zero.size=s):(Builtin.zeroCells zero n).toList=U9 n zero.toList:=by have:=rE zero n s hs;rw[←this];unfold Builtin.zeroCells;rw[hs]
section
variable {t u ty e:TypeId} {ti:TypeInfo} {zeros:Bool} {base:Option Addr} {sLen sCap n:Nat} {x:A0} {news:List A0} {w:World} {z:A0}
theorem Qb(ht:P.underlying t=some (.slice e))(hu:if zeros then ∃k,P.underlying u=some (.int k) else(∃e',P.underlying u=some (.slice e'))∨P.underlying u=some .string)(hi:P.info? e=some ti)(ha:AJQ P e ti zeros n x news w)(hfit:sLen+n≤sCap)(hst:match base with|some A=>(storeCells (A.add (sLen*ti.size)) news).run P w=.ok () w'|none=>w'=w):
 (Builtin.append_ #[t,u] ty #[.slice base sLen sCap,x]).run P w=.ok (.slice base (sLen+n) sCap) w':=by
 cases zeros with
 | true =>
  obtain⟨k,z,rfl,hn,hb,hz,hzs,rfl⟩:∃(k:IntKind) (z:A0),x=.int k (n:Int)∧n≤16777216∧ti.bytes≤8388608∧ti.zero=some z∧z.cells.size=ti.size∧news=U9 n z.cells.toList:=ha;obtain⟨k',hu⟩:∃k,P.underlying u=some (.int k):=hu;have hw:IntKind.i64.wrap (n:Int)=n:=by rw[IntKind.wrap_i64];omega
  have hneg:¬((n:Int)<0):=by omega
  have hmul:=AEn hn hb;have hbig:¬(281474976710656<(n:Int)*(ti.bytes:Int)):=by omega
  have hzc:=Jf z.cells n ti.size hzs;by_cases h0:n*ti.size=0
  · have hr0:U9 n z.cells.toList=[]:=by
     apply IU;rw[Ez];simpa[hzs] using h0
    rw[hr0] at hst;have hw':w'=w:=by
     cases base with
     | none=>exact hst
     | some A=>simp[storeCells] at hst;exact hst.symm
    subst hw';cases base<;>simp[Builtin.append_,run_underlying ht,run_underlying hu,sizeOf,typeInfo,hi,asInt,asIntOf,hw,hneg,hbig,hfit,h0,storeCells]
  · cases base with
    | none=>subst hst;simp[Builtin.append_,run_underlying ht,run_underlying hu,sizeOf,typeInfo,zeroValue,hz,hi,asInt,asIntOf,hw,hneg,hbig,hfit,h0]
    | some A =>
     have hst:(storeCells (A.add (sLen*ti.size)) (U9 n z.cells.toList)).run P w=.ok () w':=hst;simp[Builtin.append_,run_underlying ht,run_underlying hu,sizeOf,typeInfo,zeroValue,hz,hi,asInt,asIntOf,hw,hneg,hbig,hfit,h0,hzc,hst]
 | false =>
  obtain⟨h1,h2⟩:(Builtin.lenOf x).run P w=.ok n w∧∀w2:World,w2.heap=w.heap→(Builtin.firstCells ti.size n x).run P w2=.ok news.toArray w2:=ha;have h2':=h2 w rfl;rcases hu with⟨e',hu⟩|hu
  · cases base with
    | none=>subst hst;simp[Builtin.append_,run_underlying ht,run_underlying hu,sizeOf,typeInfo,hi,h1,hfit,h2']
    | some A =>
     have hst:(storeCells (A.add (sLen*ti.size)) news).run P w=.ok () w':=hst;simp[Builtin.append_,run_underlying ht,run_underlying hu,sizeOf,typeInfo,hi,h1,hfit,h2',hst]
  · cases base with
    | none=>subst hst;simp[Builtin.append_,run_underlying ht,run_underlying hu,sizeOf,typeInfo,hi,h1,hfit,h2']
    | some A =>
     have hst:(storeCells (A.add (sLen*ti.size)) news).run P w=.ok () w':=hst;simp[Builtin.append_,run_underlying ht,run_underlying hu,sizeOf,typeInfo,hi,h1,hfit,h2',hst]
theorem TV(ht:P.underlying t=some (.slice e))(hu:if zeros then ∃k,P.underlying u=some (.int k) else(∃e',P.underlying u=some (.slice e'))∨P.underlying u=some .string)(hi:P.info? e=some ti)(hz:ti.zero=some z)(ha:AJQ P e ti zeros n x news w)(hg:sCap<sLen+n)(hn:sLen+n≤16777216)(hb:ti.bytes≤8388608){olds:List A0}(hold:(Builtin.firstCells ti.size sLen (.slice base sLen sCap)).run P w.drew=.ok olds.toArray w.drew):
 ∃arr:Array A0,arr.toList=olds++news++(Builtin.zeroCells z.cells (grownCap w (sLen+n) sCap e-(sLen+n))).toList ∧
 (Builtin.append_ #[t,u] ty #[.slice base sLen sCap,x]).run P w=.ok (.slice (some ⟨w.heap.size,0,none⟩) (sLen+n) (grownCap w (sLen+n) sCap e)) (w.drew.alloc (.cells arr e)):=by
 have hnf:¬(sLen+n≤sCap):=by omega
 have h63:¬(9223372036854775807<((sLen:Int)+(n:Int))):=by omega
 have h48:¬(281474976710656<Builtin.nextslicecap (sLen+n) sCap*ti.bytes):=by have h1:=bj hg hn;have:=AEn h1 hb;omega
 cases zeros with
 | true =>
  obtain⟨k,z2,rfl,hn2,_,hz2,hzs,rfl⟩:∃(k:IntKind) (z:A0),x=.int k (n:Int)∧n≤16777216∧ti.bytes≤8388608∧ti.zero=some z∧z.cells.size=ti.size∧news=U9 n z.cells.toList:=ha;rw[hz] at hz2;cases hz2;have hneg:¬((n:Int)<0):=by omega
  obtain⟨k',hu⟩:∃k,P.underlying u=some (.int k):=hu;have hw:IntKind.i64.wrap (n:Int)=n:=by rw[IntKind.wrap_i64];omega
  have hmul:=AEn hn2 hb;have hbig:¬(281474976710656<(n:Int)*(ti.bytes:Int)):=by omega
  have hzc:=Jf z.cells n ti.size hzs;by_cases h0:n*ti.size=0
  · have hr0:U9 n z.cells.toList=[]:=by
     apply IU;rw[Ez];simpa[hzs] using h0
    refine⟨olds.toArray++#[]++Builtin.zeroCells z.cells (grownCap w (sLen+n) sCap e-(sLen+n)),by simp[hr0],?_⟩;simp[Builtin.append_,run_underlying ht,run_underlying hu,sizeOf,typeInfo,zeroValue,hz,hi,asInt,asIntOf,hw,hneg,hbig,hnf,h63,h48,h0,Question.forced,hold,newRow,grownCap]
  ·refine⟨olds.toArray++Builtin.zeroCells z.cells n++Builtin.zeroCells z.cells (grownCap w (sLen+n) sCap e-(sLen+n)),by simp[hzc],?_⟩;simp[Builtin.append_,run_underlying ht,run_underlying hu,sizeOf,typeInfo,zeroValue,hz,hi,asInt,asIntOf,hw,hneg,hbig,hnf,h63,h48,h0,Question.forced,hold,newRow,grownCap]
 | false =>
  obtain⟨h1,h2⟩:(Builtin.lenOf x).run P w=.ok n w∧∀w2:World,w2.heap=w.heap→(Builtin.firstCells ti.size n x).run P w2=.ok news.toArray w2:=ha;have h2':=h2 w.drew rfl;refine⟨olds.toArray++news.toArray++Builtin.zeroCells z.cells (grownCap w (sLen+n) sCap e-(sLen+n)),by simp,?_⟩;rcases hu with⟨e',hu⟩|hu
  ·simp[Builtin.append_,run_underlying ht,run_underlying hu,sizeOf,typeInfo,zeroValue,hz,hi,h1,hnf,h63,h48,Question.forced,hold,h2',newRow,grownCap];grind
  ·simp[Builtin.append_,run_underlying ht,run_underlying hu,sizeOf,typeInfo,zeroValue,hz,hi,h1,hnf,h63,h48,Question.forced,hold,h2',newRow,grownCap];grind
end
end
section
variable {P:Program} {gs:List Nat} {ds:List (Option Tmp)} {o:Oper}
theorem xc{w:World}{e:TypeId}{s:Nat}(hr:Z6 f h w)(hl:M7 f l l')(hlen:l.length=need*s)(hn:need≤16777216)(hcap:need≤cap)(harr:arr.toList=l'++rest)(hrest:rest.length=(cap-need)*s)(hheap:w'.heap=w.heap.push (.cells arr e))(ht:w'.tape=w.tape)(hos:w'.os=w.os)(hout:w'.output=w.output):
 ∃h' f' c,opened e s l need h=.val (F8 h.A6 0 need c) h'∧L6 h h'∧L5 f h w f' h' w'∧F5 f' (F8 h.A6 0 need c) (.slice (some ⟨w.heap.size,0,none⟩) need cap):=by
 have hsz:arr.size=cap*s:=by have:=congrArg List.length harr;simp[hrest,←hl.1,hlen] at this;rw[this,←Mm];congr 1;omega
 have hle:l.length≤arr.size:=by rw[hlen,hsz];exact BY s hcap
 have hc:=L5.newRow (f:=f) (h:=h) (w:=w) (w':=w') (l:=l) (arr:=arr) (e:=e) (n:=l.length) (cl:=false) (s:=s) (fz:=(0,0)) hr (fun k v hk hkn=>by
  obtain⟨v',h1,h2⟩:=hl.2 k v hk;refine⟨v',?_,h2⟩;have h3:arr.toList[k]?=some v':=by grind
  simpa using h3) hle (fun h=>by cases h) (Qa _) hheap ht hos hout
 refine⟨_,_,C4 s need,?_,L6.new _ hr.base,hc,?_⟩
 ·unfold opened;rw[W6,C1,R4]
 · have hO:=LU;refine .Z9 h.A6 0 need _ need _ 0 cap (Map.R2 _ _ _) ?_ (by omega) (M8 _) hcap (.inl rfl) ?_
   ·rfl
   grind
theorem AAF{w:World}{e:TypeId}{s N:Nat}{c0:T A0}(hr:Z6 f h w)(hl:M7 f l l')(hN:N=l.length)(hcc:∀k v,k<N→c0.get (path k)=some v→l[k]?=some v)(hlen:l.length=need*s)(hn:need≤16777216)(hcap:need≤cap)(harr:arr.toList=l'++rest)(hrest:rest.length=(cap-need)*s)(hheap:w'.heap=w.heap.push (.cells arr e))(ht:w'.tape=w.tape)(hos:w'.os=w.os)(hout:w'.output=w.output):
 ∃h' f' c,GJ e s c0 N need h=.val (F8 h.A6 0 need c) h'∧L6 h h'∧L5 f h w f' h' w'∧F5 f' (F8 h.A6 0 need c) (.slice (some ⟨w.heap.size,0,none⟩) need cap):=by
 have hsz:arr.size=cap*s:=by have:=congrArg List.length harr;simp[hrest,←hl.1,hlen] at this;rw[this,←Mm];congr 1;omega
 have hle:l.length≤arr.size:=by rw[hlen,hsz];exact BY s hcap
 have hc:L5 f h w (f.ext h.A6 ⟨w.heap.size,0,arr.size,s⟩) (h.new (.row c0 N e false false)) w':=by
  refine L5.new hr rfl (.row _ _ _ _ _ arr e (0,0) (.inl rfl) rfl (by rw[hN];simpa using hle) (fun hc=>by cases hc) (fun _=>Qa _) fun k v hk hv=>?_) hheap ht hos hout;obtain⟨v',h1,h2⟩:=hl.2 k v (hcc k v hk hv);refine⟨v',?_,h2.mono (Map.XT _ (Map.HF hr (M8 _)))⟩;have h3:arr.toList[k]?=some v':=by grind
  simpa using h3
 refine⟨_,_,C4 s need,?_,L6.new _ hr.base,hc,?_⟩
 ·unfold GJ;rw[C1,Hp.DM,C1]
 · have hO:=LU;refine .Z9 h.A6 0 need _ need _ 0 cap (Map.R2 _ _ _) ?_ (by omega) (M8 _) hcap (.inl rfl) ?_
   ·rfl
   grind
theorem AKh{c:T A0}{n:Nat}{e:TypeId}{cl:Bool}{x:Obj}{w:World}(h:GI f i (.row c n e cl ro) x)(hx:w.heap[i.S6]?=some x)(hm:m≤n):
 ∃l l':List A0,l.length=m∧(∀k v,k<m→c.get (path k)=some v→l[k]?=some v)∧M7 f l l'∧∀j v,l'[j]?=some v→w.cell? ((⟨i.S6,i.o,none⟩:Addr).add j)=some v:=by
 cases h with
 | row _ _ _ _ _ arr elem' fz he hs hn hcl hro hc =>
 have hcell:∀j,j<m→∃v',w.cell? ⟨i.S6,i.o+j,none⟩=some v'∧arr[i.o+j]?=some v':=fun j hj=>by
  have hlt:i.o+j<arr.size:=by omega
  exact⟨arr[i.o+j],by simp[World.cell?,hx,hlt],by simp[hlt]⟩
 refine⟨(List.range m).map fun k=>(c.get (path k)).getD top,(List.range m).map fun k=>(arr[i.o+k]?).getD undef,by simp,fun k v hk hv=>by simp[hk,hv],⟨by simp,fun k v hv=>?_⟩,fun j v hv=>?_⟩
 · have hk:k<m:=by grind
   obtain⟨v',h1,h2⟩:=hcell k hk;refine⟨v',by simp[hk,h2],?_⟩;have hv2:v=(c.get (path k)).getD top:=by simpa[hk] using hv.symm
   cases hg:c.get (path k) with
   | none=>rw[hg] at hv2;subst hv2;exact .top _
   | some u =>
    grind
 · have hk:j<m:=by grind
   obtain⟨v',h1,h2⟩:=hcell j hk;have:v=v':=by simpa[hk,h2] using hv.symm
   subst this;rw[LH];exact h1
theorem F5.ANU{p:Addr}{l:Nat}(h:F5 f (.slice (some p) l c) v')(hn:need≤sure c):∃A c',v'=.slice (some A) l c'∧need≤c'∧F5 f (.slice (some p) need c) (.slice (some A) need c'):=by
 cases h with
 | slice b o _ _ i h hc hl =>
  rw[(BV hc).2] at hn;exact⟨_,_,rfl,hn,.slice b o need c i h hc hn⟩
 | Z9 b o _ _ lb i o' c' h hc hlb hl hb ho hnn =>
  rw[(CE hc hlb).2.1] at hn;exact⟨_,_,rfl,by omega,.Z9 b o need c lb i o' c' h hc hlb hn hb ho hnn⟩
theorem AIY{w:World}{a:Act}{t u ty e:TypeId}{ti:TypeInfo}{z:A0}{zeros:Bool}{n l:Nat}{new:List A0}{p:Addr}(hr:Z6 f h w)(ht:P.underlying t=some (.slice e))(hu:if zeros then ∃k,P.underlying u=some (.int k) else(∃e',P.underlying u=some (.slice e'))∨P.underlying u=some .string)(hi:P.info? e=some ti)(hz:ti.zero=some z)(hzs:z.cells.size=ti.size)(hb:ti.bytes≤8388608)(ha:AJQ P e ti zeros n x' new' w)(hnew:M7 f new new')(hnl:new.length=n*ti.size)(hs:F5 f (.slice (some p) l c) s')(hrun:(execOp a.eval o).run P w=((Builtin.append_ #[t,u] ty #[s',x']).run P w).andThen fun v w=>.ok (.value v) w):J9 P f h w a o (HI e ti.size h n new p.block p.off l c):=by
 have hsp:p.spot=none:=by cases hs<;>rfl
 have hpe:(⟨p.block,p.off,none⟩:Addr)=p:=by cases p;cases hsp;rfl
 unfold HI;rw[C1];show J9 P f h w a o (bif Nat.ble (l+n) (sure c) then _ else _);cases hfit:Nat.ble (l+n) (sure c) with
 | true =>
  have hfit:=Nat.ble_eq.mp hfit;obtain⟨A,c',rfl,hc',hv'⟩:=hs.ANU hfit;cases hn0:Nat.beq n 0 with
  | true =>
   have:=T9 hn0;subst this;show J9 P f h w a o (.val (F8 p.block p.off l c) h);have hnil:new'=[]:=by apply IU;rw[←hnew.1,hnl];simp
   subst hnil;have hap:=Qb (ty:=ty) (base:=some A) (w':=w) ht hu hi ha hc' (by simp[storeCells]);refine J9.value (L6.refl h) (v':=.slice (some A) (l+0) c') ?_ (L5.refl hr) ?_
   ·rw[hrun,hap];rfl
   ·unfold F8;rw[hpe];exact hv'
  | false =>
   have hnpos:0<n:=by
    rcases Br n with h|h
    ·subst h;cases hn0
    ·exact h
   show J9 P f h w a o (Ar h p.block (Nat.add p.off (Nat.mul l ti.size)) new (fun h=>.val (F8 p.block p.off (l+n) c) h) .none);obtain⟨i,c2,hpi,hA⟩:=hv'.VX (by omega);cases hA;rcases ag (P:=P) (o:=p.off+l*ti.size) hr hpi hnew (fun h=>N3.val (F8 p.block p.off (l+n) c) h) N3.none with h7|⟨h',w',h7,h8,h9,h10⟩
   ·exact(by rw[show Nat.add p.off (Nat.mul l ti.size)=p.off+l*ti.size from rfl,h7];trivial)
   · rw[show Nat.add p.off (Nat.mul l ti.size)=p.off+l*ti.size from rfl,h7];have hap:=Qb (P:=P) (t:=t) (u:=u) (ty:=ty) (base:=some ⟨i.S6,i.o+p.off,none⟩) (w':=w') ht hu hi ha hc' (by
      show(storeCells ((⟨i.S6,i.o+p.off,none⟩:Addr).add (l*ti.size)) new').run P w=_;rw[LH,Es];exact h10)
     refine J9.value h8 (v':=.slice (some ⟨i.S6,i.o+p.off,none⟩) (l+n) c') ?_ h9 ?_
     ·rw[hrun,hap];rfl
     ·unfold F8;rw[hpe];exact hv'
 | false =>
  have hfit':sure c<l+n:=by
   rcases DX (sure c) (l+n) with h|h
   ·exact h
   ·rw[Nat.ble_eq.mpr h] at hfit;cases hfit
  show J9 P f h w a o (bif Nat.ble (l+n) 16777216 then _ else .none);cases hbig:Nat.ble (l+n) 16777216 with
  | false=>trivial
  | true =>
  have hbig:=Nat.ble_eq.mp hbig;have hrest:∀cap,(Builtin.zeroCells z.cells (cap-(l+n))).toList.length=(cap-(l+n))*ti.size:=fun cap=>by rw[Jf _ _ _ hzs,Ez];simp[hzs]
  have hgrow:∀(h1:Hp) (A:Addr) (c':Nat) (AM old':List A0),s'=.slice (some A) l c'→c'<l+n→M7 f AM old'→AM.length=l*ti.size→(Builtin.firstCells ti.size l (.slice (some A) l c')).run P w.drew=.ok old'.toArray w.drew →
   L6 h h1→L5 f h w f h1 w→h1.A6=h.A6→J9 P f h w a o (opened e ti.size (AM++new) (l+n) h1):=fun h1 A c' AM old' hs' hlt hold hol hload hst1 hcs1 hnx=>by
   subst hs';obtain⟨arr,harr,hap⟩:=TV (ty:=ty) ht hu hi hz ha hlt hbig hb hload;have hge:=UQ w (l+n) c' e;generalize grownCap w (l+n) c' e=cap at *;obtain⟨h',f',c2,g1,g2,g3,g4⟩:=xc (w':=w.drew.alloc (.cells arr e)) hcs1.rel (hold.append hnew) (by grind) hbig hge harr (hrest cap) rfl rfl rfl rfl;rw[g1];refine J9.value (hst1.trans g2) ?_ (hcs1.trans hst1 g2 g3) g4;rw[hrun,hap];rfl
  cases hl0:Nat.beq l 0 with
  | true =>
   have:=T9 hl0;subst this;show J9 P f h w a o (bif T6 c then .none else opened e ti.size new (0+n) h);cases hop:T6 c with
   | true=>trivial
   | false =>
    show J9 P f h w a o (opened e ti.size new (0+n) h);have hcl:∃A,s'=.slice (some A) 0 c∧c<0+n:=by
     obtain⟨i,hpi,⟨hc,_,hxe⟩|⟨lb,_,_,hc,hlb,_⟩⟩:=hs.DV
     ·exact⟨_,hxe,by rw[(BV hc).2] at hfit';exact hfit'⟩
     ·rw[(CE hc hlb).1] at hop;cases hop
    obtain⟨A,hs',hlt⟩:=hcl;have:=hgrow h A c [] [] hs' hlt (M7.nil f) (by simp) (by simp[Builtin.firstCells,loadCells,loadCellsFrom]) (L6.refl h) (L5.refl hr) rfl;simpa using this
  | false =>
   have hlpos:0<l:=by
    rcases Br l with h|h
    ·subst h;cases hl0
    ·exact h
   show J9 P f h w a o (bif T6 c then _ else _);cases hop:T6 c with
   | false =>
    show J9 P f h w a o (R5 (cellsOf h p.block p.off (Nat.mul l ti.size)) (fun AM=>opened e ti.size (AM++new) (l+n) h) .none);cases hcs:cellsOf h p.block p.off (Nat.mul l ti.size) with
    | none=>trivial
    | some AM =>
     obtain⟨i,c',hpi,hs'⟩:=hs.VX hlpos;obtain⟨cc,m,e',cl,ro,hat,hm,hld⟩:=Zk hcs;obtain⟨ox,hox,hor⟩:=hr.obj _ _ i hpi hat;obtain⟨h1,old',h2,h3,h4⟩:=SR (P:=P) hor hox hm hld;have hold:(Builtin.firstCells ti.size l (.slice (some ⟨i.S6,i.o+p.off,none⟩) l c')).run P w.drew=.ok old'.toArray w.drew:=by have:=LN (P:=P) (w:=w.drew) (fun j v hj=>h3 j v hj) (m:=l*ti.size) (by rw[←h2.1,h1];exact M8 _);rw[TO (by rw[←h2.1,h1];exact M8 _)] at this;exact this
     have hlt:c'<l+n:=by
      obtain⟨i2,hpi2,⟨hc,_,hxe⟩|⟨lb,_,_,hc,hlb,_⟩⟩:=hs.DV
      ·rw[hpi] at hpi2;cases hpi2;rw[hs'] at hxe;cases hxe;rw[(BV hc).2] at hfit';exact hfit'
      ·rw[(CE hc hlb).1] at hop;cases hop
     exact hgrow h _ c' AM old' hs' hlt h2 h1 hold (L6.refl h) (L5.refl hr) rfl
   | true =>
    obtain⟨G,hG⟩:∃G:T A0→Nat→TypeId→Bool→Bool→N3,G=fun cc m e' _ ro=>bif ro then .none else bif Nat.beq e e'&&Nat.beq (ARM c) (Nat.succ ti.size)&&K9 new&&Nat.beq p.off 0&&Nat.ble (Nat.mul l ti.size) m then h.Ei p.block none fun h=>C7 new (Nat.mul l ti.size) cc fun cc=>GJ e ti.size cc (Nat.add (Nat.mul l ti.size) (len new)) (l+n) h else .none:=⟨_,rfl⟩
    show J9 P f h w a o (Is h p.block _ .none);have hg0:J9 P f h w a o (Is h p.block G .none):=by
     cases hat:h.at p.block with
     | none =>
      have:Is h p.block G .none=.none:=by unfold Is;unfold Hp.at at hat;rw[hat];rfl
      rw[this];trivial
     | some ob =>
     cases ob with
     | iter s' q =>
      have:Is h p.block G .none=.none:=by unfold Is;unfold Hp.at at hat;rw[hat];rfl
      rw[this];trivial
     | mp es =>
      have:Is h p.block G .none=.none:=by unfold Is;unfold Hp.at at hat;rw[hat];rfl
      rw[this];trivial
     | row cc m e' cl ro =>
      have hrk:Is h p.block G .none=G cc m e' cl ro:=by unfold Is;unfold Hp.at at hat;rw[hat];rfl
      rw[hrk,hG];cases ro with
      | true=>trivial
      | false =>
       show J9 P f h w a o (bif Nat.beq e e'&&Nat.beq (ARM c) (Nat.succ ti.size)&&K9 new&&Nat.beq p.off 0&&Nat.ble (Nat.mul l ti.size) m then _ else .none);cases hcond:(Nat.beq e e'&&Nat.beq (ARM c) (Nat.succ ti.size)&&K9 new&&Nat.beq p.off 0&&Nat.ble (Nat.mul l ti.size) m) with
       | false=>trivial
       | true =>
        rw[U8,U8,U8,U8] at hcond;obtain⟨⟨⟨⟨c1,c2⟩,c3⟩,c4⟩,c5⟩:=hcond;have c1:=T9 c1;have c2:=T9 c2;have c4:=T9 c4;have c5:l*ti.size≤m:=ADP c5;subst c1;obtain⟨i,c',hpi,hs'⟩:=hs.VX hlpos;rw[c4,A9i] at hs';obtain⟨ox,hox,hor⟩:=hr.obj _ _ i hpi hat;obtain⟨AM,old',h1,h5,h2,h3⟩:=AKh hor hox c5;have hold:(Builtin.firstCells ti.size l (.slice (some ⟨i.S6,i.o,none⟩) l c')).run P w.drew=.ok old'.toArray w.drew:=by have:=LN (P:=P) (w:=w.drew) (fun j v hj=>h3 j v hj) (by rw[←h2.1,h1];exact M8 _);rw[TO (by rw[←h2.1,h1];exact M8 _)] at this;exact this
        have hlive:(h.at p.block).isSome:=by rw[hat];rfl
        show J9 P f h w a o (h.Ei p.block none fun h=>C7 new (l*ti.size) cc fun cc=>GJ e ti.size cc (Nat.add (l*ti.size) (len new)) (l+n) h);rw[Hp.Hh,AK,R4];have hN:Nat.add (l*ti.size) new.length=(AM++new).length:=by grind
        rw[hN];have htree:∀k v,k<(AM++new).length→(C7 new (l*ti.size) cc fun t=>t).get (path k)=some v→(AM++new)[k]?=some v:=fun k v hk hv=>by rw[Eh] at hv;grind
        generalize (C7 new (l*ti.size) cc fun t=>t)=ct at htree;by_cases hcc:c'<l+n
        ·subst hs';obtain⟨arr,harr,hap⟩:=TV (ty:=ty) ht hu hi hz ha hcc hbig hb hold;have hge:=UQ w (l+n) c' e;generalize grownCap w (l+n) c' e=cap at *;have hst1:=L6.put none hlive;have hcs1:=L5.drop hr hpi hlive;obtain⟨h',f',c2',g1,g2,g3,g4⟩:=AAF (w':=w.drew.alloc (.cells arr e)) hcs1.rel (h2.append hnew) rfl htree (by grind) hbig hge harr (hrest cap) rfl rfl rfl rfl;rw[g1];refine J9.value (hst1.trans g2) ?_ (hcs1.trans hst1 g2 g3) g4;rw[hrun,hap];rfl
        · have hcc:l+n≤c':=by omega
          have hopen:i.s=ti.size∧i.o+c'*ti.size≤i.n:=by
           obtain⟨i2,hpi2,⟨hc,_,hxe⟩|⟨lb,o',c2',hc,hlb,hll,hlc,hoo,hnn,hxe⟩⟩:=hs.DV
           ·rw[(BV hc).1] at hop;cases hop
           ·rw[hpi] at hpi2;cases hpi2;rw[hs'] at hxe;cases hxe;have he:=(CE hc hlb).2.2;grind
          obtain⟨his,hfitn⟩:=hopen;have hmul:(l+n)*ti.size≤c'*ti.size:=BY _ hcc;rw[Mm] at hmul;have hnl':new'.length=n*ti.size:=by rw[←hnew.1];exact hnl
          cases hor with
          | row _ _ _ _ _ arr e2 fz he hsz hn hcl hro hc =>
          obtain⟨w',arr',g1,g2,g3,g4,g5,g6,g7,g8,g9⟩:=UE P i.S6 e2 fz new' (i.o+l*ti.size) 0 arr w hox (by rw[hsz,hnl'];omega) (hnew.one c3) (by rw[hsz];exact hro rfl);have hap:=Qb (P:=P) (t:=t) (u:=u) (ty:=ty) (base:=some ⟨i.S6,i.o,none⟩) (sLen:=l) (sCap:=c') (w':=w') ht hu hi ha hcc (by
           show(storeCells ((⟨i.S6,i.o,none⟩:Addr).add (l*ti.size)) new').run P w=_;rw[LH];exact g1)
          have hnone:=Map.HF hr (M8 _);have hlen:(AM++new).length=l*ti.size+n*ti.size:=by grind
          have hcons:=L5.consume (w':=w') (j:=⟨i.S6,i.o,i.n,ti.size⟩) (x:=.cells arr' e2 fz) (o:=.row ct (AM++new).length e false false) hr hpi hlive rfl g2
           (.row _ _ _ _ _ arr' e2 fz he (by rw[g3];exact hsz) (by grind) (fun h=>by cases h) (fun _=>hro rfl) fun k v hk hv=>by
             have hv:=htree k v hk hv;show ∃v',arr'[i.o+k]?=some v'∧_;rw[g4];by_cases hkl:k<l*ti.size
             ·rw[if_neg (by omega)];rw[OZ (by rw[h1];exact hkl)] at hv;obtain⟨v',q1,q2⟩:=h2.2 k v hv;refine⟨v',?_,q2.mono (Map.XT _ hnone)⟩;have:=h3 k v' q1;rw[LH] at this;simpa[World.cell?,hox] using this
             ·rw[if_pos (by rw[hnl'];omega)];rw[Gj (by omega),h1] at hv;obtain⟨v',q1,q2⟩:=hnew.2 _ v hv;refine⟨v',?_,q2.mono (Map.XT _ hnone)⟩;rw[←q1];congr 1;omega) g5 g6 g7 g8 g9
          have hope:GJ e ti.size ct (AM++new).length (l+n) (h.put p.block none)=.val (F8 h.A6 0 (l+n) (C4 ti.size (l+n))) ((h.put p.block none).new (.row ct (AM++new).length e false false)):=by unfold GJ;rw[C1,Hp.DM,C1];rfl
          rw[hope];refine J9.value (L6.consume _ hlive hr.base) (v':=.slice (some ⟨i.S6,i.o,none⟩) (l+n) c') ?_ hcons ?_
          ·rw[hrun,hs',hap];rfl
          · have hO:=LU;refine .Z9 h.A6 0 (l+n) _ (l+n) ⟨i.S6,i.o,i.n,ti.size⟩ i.o c' (Map.R2 _ _ _) ?_ (by omega) (M8 _) hcc (.inl rfl) ?_
            ·rfl
            ·exact hfitn
    simp_all
theorem AJC{w:World}{a:Act}{t u ty e:TypeId}{ti:TypeInfo}{z:A0}{zeros:Bool}{n l:Nat}{new:List A0}(hr:Z6 f h w)(ht:P.underlying t=some (.slice e))(hu:if zeros then ∃k,P.underlying u=some (.int k) else(∃e',P.underlying u=some (.slice e'))∨P.underlying u=some .string)(hi:P.info? e=some ti)(hz:ti.zero=some z)(hzs:z.cells.size=ti.size)(hb:ti.bytes≤8388608)(ha:AJQ P e ti zeros n x' new' w)(hnew:M7 f new new')(hnl:new.length=n*ti.size)(hrun:(execOp a.eval o).run P w=((Builtin.append_ #[t,u] ty #[.slice none l c,x']).run P w).andThen fun v w=>.ok (.value v) w):J9 P f h w a o (Nu e ti.size h n new l c):=by
 unfold Nu;cases hl:Nat.beq l 0 with
 | false=>trivial
 | true =>
 cases hc:Nat.beq c 0 with
 | false=>trivial
 | true =>
 have:=T9 hl;subst this;have:=T9 hc;subst this;cases hn:Nat.beq n 0 with
 | true =>
  have:=T9 hn;subst this;show J9 P f h w a o (.val (.slice none 0 0) h);have hap:=Qb (ty:=ty) (base:=none) (sCap:=0) ht hu hi ha (M8 _) rfl;refine J9.value (L6.refl h) (v':=.slice none (0+0) 0) ?_ (L5.refl hr) (.AW 0 0);rw[hrun,hap];rfl
 | false =>
  have hnpos:0<n:=by grind
  show J9 P f h w a o (bif Nat.ble n 16777216 then opened e ti.size new n h else .none);cases hbig:Nat.ble n 16777216 with
  | false=>trivial
  | true =>
   have hbig:=Nat.ble_eq.mp hbig;obtain⟨arr,harr,hap⟩:=TV (ty:=ty) (base:=none) (sLen:=0) (sCap:=0) (olds:=[]) ht hu hi hz ha (by omega) (by omega) hb (by simp[Builtin.firstCells]);have hge:=UQ w (0+n) 0 e;generalize grownCap w (0+n) 0 e=cap at *;rw[Ag] at *;obtain⟨h',f',c2,g1,g2,g3,g4⟩:=xc (w':=w.drew.alloc (.cells arr e)) hr hnew hnl hbig hge harr (by rw[Jf _ _ _ hzs,Ez];simp[hzs]) rfl rfl rfl rfl;show J9 P f h w a o (opened e ti.size new n h);rw[g1];refine J9.value g2 ?_ g3 g4;rw[hrun,hap];rfl
theorem rz{w:World}{a:Act}{t u ty e:TypeId}{ti:TypeInfo}{z:A0}{zeros:Bool}{n:Nat}{new:List A0}{x:A0}(hr:Z6 f h w)(ht:P.underlying t=some (.slice e))(hu:if zeros then ∃k,P.underlying u=some (.int k) else(∃e',P.underlying u=some (.slice e'))∨P.underlying u=some .string)(hi:P.info? e=some ti)(hz:ti.zero=some z)(hzs:z.cells.size=ti.size)(hb:ti.bytes≤8388608)(ha:AJQ P e ti zeros n x' new' w)(hnew:M7 f new new')(hnl:new.length=n*ti.size)(hs:F5 f x s')(hrun:(execOp a.eval o).run P w=((Builtin.append_ #[t,u] ty #[s',x']).run P w).andThen fun v w=>.ok (.value v) w):J9 P f h w a o (Np x (HI e ti.size h n new) (Nu e ti.size h n new) .none):=by
 rcases Wv x (HI e ti.size h n new) (Nu e ti.size h n new) .none with⟨p,l,c,rfl,h1⟩|⟨l,c,rfl,h1⟩|h1
 ·rw[h1];exact AIY hr ht hu hi hz hzs hb ha hnew hnl hs hrun
 · rw[h1];have:s'=.slice none l c:=by cases hs;rfl
   subst this;exact AJC hr ht hu hi hz hzs hb ha hnew hnl hrun
 ·rw[h1];trivial
theorem AEX{x:Operand}{t u:TypeId}(a:Act)(w:World)(ho:o.op=.call { callee:=.builtin .append,args:=args,argTypes:=ats })(ha:args.toList=[x,y])(hat:ats.toList=[t,u]):
 (execOp a.eval o).run P w=((Builtin.append_ #[t,u] o.type #[a.eval x,a.eval y]).run P w).andThen fun v w=>.ok (.value v) w:=by
 have:=QN ha;subst this;have:=QN hat;subst this;obtain⟨cs,hrun⟩:=AI (P:=P) a.eval w ho;rw[hrun,show(#[x,y]:Array Operand).map a.eval=#[a.eval x,a.eval y] by simp];simp[builtin]
theorem AFz{x:Operand}{t u e:TypeId}{ti:TypeInfo}{z:List A0}(ho:o.op=.call { callee:=.builtin .append,args:=args,argTypes:=ats })(ha:args.toList=[x,y])(hat:ats.toList=[t,u])(ht:P.underlying t=some (.slice e))(hu:(∃e',P.underlying u=some (.slice e'))∨P.underlying u=some .string)(hi:P.info? e=some ti)(hz:Hz P e=some z)(hb:ti.bytes≤8388608):Dd P gs ds o (A3Z e ti.size (C3 gs ds x) (C3 gs ds y)):=by
 intro A7 hcall lo tm f h a w hG hE hr;have hx:=F0 hG hE x;have hy:=F0 hG hE y;obtain⟨ti',v,hi',hiz,rfl,hzz,hzl,hsz⟩:=Be hz;rw[hi] at hi';cases hi';unfold A3Z;rcases AMD (P:=P) hr hy (s:=ti.size) (fun n new=>Np (G4 (C3 gs ds x) lo tm) (HI e ti.size h n new) (Nu e ti.size h n new) .none) .none with h1|⟨n,new,new',h1,h2,h3,h4,h5⟩
 ·rw[h1];trivial
 ·rw[h1];refine rz (zeros:=false) hr ht hu hi hiz (by rw[←hzl];simp) hb ⟨h4 w,fun w2 hw2=>?_⟩ h2 h3 hx (AEX a w ho ha hat);have:=h5 w2 hw2 n (M8 _);rwa[TO (by rw[←h2.1,h3];exact M8 _)] at this
theorem AKB{x:Operand}{t u e:TypeId}{ti:TypeInfo}{k:IntKind}{z:List A0}(ho:o.op=.call { callee:=.builtin .append,args:=args,argTypes:=ats })(ha:args.toList=[x,y])(hat:ats.toList=[t,u])(ht:P.underlying t=some (.slice e))(hu:P.underlying u=some (.int k))(hi:P.info? e=some ti)(hz:Hz P e=some z)(hb:ti.bytes≤8388608):Dd P gs ds o (oJ e ti.size z (C3 gs ds x) (C3 gs ds y)):=by
 intro A7 hcall lo tm f h a w hG hE hr;have hx:=F0 hG hE x;have hy:=F0 hG hE y;obtain⟨ti',v,hi',hiz,rfl,hzz,hzl,hsz⟩:=Be hz;rw[hi] at hi';cases hi';have hvs:v.cells.size=ti.size:=by rw[←hzl];simp
 unfold oJ;rcases He (G4 (C3 gs ds y) lo tm) (fun n=>bif Nat.ble n 16777216 then Np (G4 (C3 gs ds x) lo tm) (HI e ti.size h n (U9 n v.cells.toList)) (Nu e ti.size h n (U9 n v.cells.toList)) .none else .none) .none with⟨k1,n,e1,h1⟩|h1
 · rw[h1];rw[e1] at hy;cases hn:Nat.ble n 16777216 with
   | false=>trivial
   | true =>
    have hn:=Nat.ble_eq.mp hn;show J9 P f h w a o (Np (G4 (C3 gs ds x) lo tm) (HI e ti.size h n (U9 n v.cells.toList)) (Nu e ti.size h n (U9 n v.cells.toList)) .none);exact rz (zeros:=true) hr ht ⟨k,hu⟩ hi hiz hvs hb ⟨k1,v,hy.Y8,hn,hb,hiz,hvs,rfl⟩ (mH (hzz f) n) (by rw[Ez];simp[hvs]) hx (AEX a w ho ha hat)
 ·rw[h1];trivial
end
section
variable {P:Program} {gs:List Nat} {ds:List (Option Tmp)} {o:Oper}
theorem AC2{e:TypeId}(hc:P.cellsOf e=1)(count off n:Nat)(hn:off+n≤count):liesAt P P.depth e (count/P.cellsOf e) off e n=true:=by have hd:P.depth=(2*(P.types.size+Made.depth)+1)+1:=rfl;rw[hd];simp only[liesAt,ABd];left;rw[hd];simp[rowAt,hc,hn,sameLayout,Nat.mod_one]
theorem AJn{x:Operand}{t e:TypeId}{rest:List TypeId}(ho:o.op=.call { callee:=.builtin .unsafeString,args:=args,argTypes:=ats })(ha:args.toList=[x,y])(hat:ats.toList=t::rest)(ht:P.underlying t=some (.pointer e))(hc1:P.cellsOf e=1)(hU:e≠ANH):Dd P gs ds o (nT e (C3 gs ds x) (C3 gs ds y)):=by
 intro A7 hcall lo tm f h a w hG hE hr;have hx:=F0 hG hE x;have hy:=F0 hG hE y;have:=QN ha;subst this;have hat0:ats[0]?=some t:=by rw[←AN5,hat];rfl
 obtain⟨csx,hrun⟩:=AI (P:=P) a.eval w ho;rw[show(#[x,y]:Array Operand).map a.eval=#[a.eval x,a.eval y] by simp] at hrun;unfold nT;rcases He (G4 (C3 gs ds y) lo tm) (fun n=>bif Nat.beq n 0||Nat.blt 16777216 n then N3.none else FE (G4 (C3 gs ds x) lo tm) (fun b o =>
  Is h b (fun c m e' cl _=>bif Nat.beq e e' then bif Nat.ble (Nat.add o n) m then R5 (V6 c o n []) (fun cs=>R5 (Abs.bytesOf cs) (fun bs=>h.Ei b (some (.row c m e' cl true)) fun h=>YP (Tm bs) h) .none) .none else .none else .none) .none) .none) .none with⟨k1,n,e1,h1⟩|h1
 · rw[h1];rw[e1] at hy;cases hn:(Nat.beq n 0||Nat.blt 16777216 n) with
   | true=>trivial
   | false =>
   rw[A6r] at hn;have hn0:n≠0:=by intro h;subst h;cases hn.1
   have hnb:n≤16777216:=by
    rcases DX 16777216 n with h|h
    ·rw[Nat.blt_eq.mpr h] at hn;cases hn.2
    ·exact h
   show J9 P f h w a o (FE (G4 (C3 gs ds x) lo tm) (fun b o =>
    Is h b (fun c m e' cl _=>bif Nat.beq e e' then bif Nat.ble (Nat.add o n) m then R5 (V6 c o n []) (fun cs=>R5 (Abs.bytesOf cs) (fun bs=>h.Ei b (some (.row c m e' cl true)) fun h=>YP (Tm bs) h) .none) .none else .none else .none) .none) .none)
   rcases Ha (G4 (C3 gs ds x) lo tm) (fun b o =>
    Is h b (fun c m e' cl _=>bif Nat.beq e e' then bif Nat.ble (Nat.add o n) m then R5 (V6 c o n []) (fun cs=>R5 (Abs.bytesOf cs) (fun bs=>h.Ei b (some (.row c m e' cl true)) fun h=>YP (Tm bs) h) .none) .none else .none else .none) .none) N3.none with⟨ad,e2,h2⟩|h2
   · rw[h2];rw[e2] at hx;obtain⟨_,i,hi,hxe⟩:=hx.FK;rcases A1y h ad.block (fun c m e' cl _=>bif Nat.beq e e' then bif Nat.ble (Nat.add ad.off n) m then R5 (V6 c ad.off n []) (fun cs=>R5 (Abs.bytesOf cs) (fun bs=>h.Ei ad.block (some (.row c m e' cl true)) fun h=>YP (Tm bs) h) .none) .none else .none else .none) N3.none with⟨c,m,e',cl,ro,hrow,h3⟩|h3
     · rw[h3];cases hee:Nat.beq e e' with
       | false=>trivial
       | true =>
       cases hble:Nat.ble (Nat.add ad.off n) m with
       | false=>trivial
       | true =>
       have hee:=T9 hee;subst hee;have hble:ad.off+n≤m:=Nat.ble_eq.mp hble;show J9 P f h w a o (R5 (V6 c ad.off n []) (fun cs=>R5 (Abs.bytesOf cs) (fun bs=>h.Ei ad.block (some (.row c m e cl true)) fun h=>YP (Tm bs) h) .none) .none);cases hld:V6 c ad.off n [] with
       | none=>trivial
       | some cs =>
       show J9 P f h w a o (R5 (Abs.bytesOf cs) (fun bs=>h.Ei ad.block (some (.row c m e cl true)) fun h=>YP (Tm bs) h) .none);cases hbs:Abs.bytesOf cs with
       | none=>trivial
       | some bs =>
       show J9 P f h w a o (h.Ei ad.block (some (.row c m e cl true)) fun h=>YP (Tm bs) h);rw[Hp.Hh];obtain⟨ob,hob,hor⟩:=hr.obj _ _ i hi hrow;obtain⟨q1,q2,_⟩:=YL (P:=P) hor hob (ao:=ad.off) (m:=n) (cs:=cs) (bs:=bs) (by unfold CV Jc;grind) hbs;have hlive:(h.at ad.block).isSome:=by rw[hrow];rfl
       cases hor with
       | row _ _ _ _ _ arr e2 fz he hsz hnn hcl hro hc =>
       have hee:e2=e:=by grind
       subst hee;have hbl:i.S6<w.heap.size:=(hr.fresh _ _ hi).2;have hheap:∃fz',(w.freeze ⟨i.S6,i.o+ad.off,none⟩ n).heap[i.S6]?=some (.cells arr e2 fz'):=by unfold World.freeze;grind
       obtain⟨fz',hheap⟩:=hheap;have hcs:=L5.put (w':=w.freeze ⟨i.S6,i.o+ad.off,none⟩ n) (x:=.cells arr e2 fz') (o:=.row c m e2 cl true) hr hi hlive hheap (.row _ _ _ _ _ arr e2 fz' (.inl rfl) hsz hnn hcl (fun h=>by cases h) hc)
        (by unfold World.freeze;rw[if_neg hn0];simp) (fun c hc=>by unfold World.freeze;grind)
        (by unfold World.freeze;rw[if_neg hn0]) (by unfold World.freeze;rw[if_neg hn0]) (by unfold World.freeze;rw[if_neg hn0])
       refine J9.value (L6.put _ hlive) (v':=.string (O2 bs)) ?_ hcs (.string _);have hlb:=Lib.run_loadBytes (P:=P) w bs ⟨i.S6,i.o+ad.off,none⟩ .empty q2;rw[q1,ef] at hlb;have hsh:w.shape? i.S6=some (e2,i.n):=by simp[World.shape?,hob,hsz]
       have hlies:=AC2 (P:=P) hc1 i.n (i.o+ad.off) n (by omega);have hdef:∀(A:Addr) (v:A0),Builtin.unsafeString_ ats o.type #[.pointer (some A),v]=(do
        let n ← asInt v
        let some pt:=ats[0]?|stuck _
        if n<0 then runtimePanic (.error _)
        if n>IntKind.i64.max then unsupported (.unsafePointer _)
        if n=0 then pure (.string .empty)
        else if ← variablesAt A (← elemOf pt) n.toNat then do
         let s ← loadBytes A .empty n.toNat
         freeze A n.toNat
         pure (.string s)
        else unsupported (.unsafePointer _)):=fun _ _=>rfl
       have hmax:IntKind.i64.max=9223372036854775807:=rfl;have hneg:¬(n:Int)<0:=by omega
       have h63:¬(9223372036854775807:Int)<(n:Int):=by omega
       have hb:(Builtin.unsafeString_ ats o.type #[a.eval x,a.eval y]).run P w=.ok (.string (O2 bs)) (w.freeze ⟨i.S6,i.o+ad.off,none⟩ n):=by rw[hxe,hy.Y8,hdef];simp[asInt,asIntOf,hmax,h63,hneg,hn0,hat0,variablesAt,hsh,elemOf,run_underlying ht,hlies,hlb]
       rw[hrun];simp[builtin,hb]
     ·rw[h3];trivial
   ·rw[h2];trivial
 ·rw[h1];trivial
theorem A5m:∀(n t:Nat) (acc:Array A0),(Extern.BytealgMakeNoZero.digits n t acc).size=acc.size+n:=by
 intro n;induction n with
 | zero=>intro t acc;rfl
 | succ n ih=>intro t acc;rw[Extern.BytealgMakeNoZero.digits,ih];simp;omega
theorem AMP{x:Operand}{e rt:TypeId}(ho:o.op=.call { callee:=.value (.func g),args:=args,argTypes:=ats })(ha:args.toList=[x])(hX:ANG P xs)(hk:xk xs g=some 1)(hfn:P.funcs[g]?=some fn)(hrt:fn.resultTypes[0]?=some rt)(hre:P.underlying rt=some (.slice e)):Dd P gs ds o (tJ e (C3 gs ds x)):=by
 intro A7 hcall lo tm f h a w hG hE hr;have hx:=F0 hG hE x;have:=DN ha;subst this;obtain⟨fn',ent,hfn',he,hrun⟩:=Pj (P:=P) (ρ:=a.eval) w ho rfl hX hk;rw[hfn] at hfn';cases hfn';have he:ent=Extern.BytealgMakeNoZero.makeNoZero fn.params fn.resultTypes:=he;subst he;unfold tJ;rcases Bh (G4 (C3 gs ds x) lo tm) (fun kd n=>bif Nat.beq (kN kd) 3 then Kh n (fun n=>bif Nat.ble n 16777216 then h.SB (.row .nil n e false false) fun b h=>C8 n fun n=>C8 (C4 1 n) fun c=>N3.val (F8 b 0 n c) h else .none) .none else .none) .none with⟨kd,nn,e1,h1⟩|h1
 · rw[h1];rw[e1] at hx;cases hkd:Nat.beq (kN kd) 3 with
   | false=>trivial
   | true =>
   have hkd:kd=.i64:=by cases kd<;>first|rfl|cases hkd
   subst hkd;show J9 P f h w a o (Kh nn (fun n=>bif Nat.ble n 16777216 then h.SB (.row .nil n e false false) fun b h=>C8 n fun n=>C8 (C4 1 n) fun c=>N3.val (F8 b 0 n c) h else .none) .none);rcases Jp nn (fun n=>bif Nat.ble n 16777216 then h.SB (.row .nil n e false false) fun b h=>C8 n fun n=>C8 (C4 1 n) fun c=>N3.val (F8 b 0 n c) h else .none) N3.none with⟨n,rfl,h2⟩|h2
   · rw[h2];cases hn:Nat.ble n 16777216 with
     | false=>trivial
     | true =>
     have hn:=Nat.ble_eq.mp hn;show J9 P f h w a o (h.SB (.row .nil n e false false) fun b h=>C8 n fun n=>C8 (C4 1 n) fun c=>N3.val (F8 b 0 n c) h);rw[Hp.DM,C1,C1];have hge:=UQ w n 0 e;have hrun2:∃arr:Array A0,arr.size=grownCap w n 0 e∧(Extern.BytealgMakeNoZero.makeNoZero fn.params fn.resultTypes #[.int .i64 (n:Int)]).run P w=.ok (.slice (some ⟨w.heap.size,0,none⟩) n (grownCap w n 0 e)) (w.drew.drew.alloc (.cells arr e)):=by
      obtain⟨q,hdef,hq⟩:∃q:Question,(∀m:Int,Extern.BytealgMakeNoZero.makeNoZero fn.params fn.resultTypes #[.int .i64 m]=(do
       let some t:=fn.resultTypes[0]?|stuck _
       let .slice elem ← underlying t|stuck _
       if m<0||m>2^48 then runtimePanic (.error _)
       let cap ← choose (.appendCap m.toNat 0 elem)
       askRoom cap
       let bytes ← choose q
       let a ← newRow elem (Extern.BytealgMakeNoZero.digits cap bytes #[])
       pure (.slice (some a) m.toNat cap)))∧q.forced=false:=⟨_,fun _=>rfl,rfl⟩
      refine⟨Extern.BytealgMakeNoZero.digits (grownCap w n 0 e) (q.cut (w.drew.tape w.drew.drawn q)) #[],by rw[A5m];simp,?_⟩;have h1:¬((n:Int)<0):=by omega
      have h2:¬(281474976710656<(n:Int)):=by omega
      rw[hdef];simp[hrt,run_underlying hre,h1,h2,hq,show ∀a b c,(Question.appendCap a b c).forced=false from fun _ _ _=>rfl,newRow,grownCap]
     obtain⟨arr,harr,hrun2⟩:=hrun2;generalize grownCap w n 0 e=cap at *;have hc:=L5.newRow (w':=w.drew.drew.alloc (.cells arr e)) (l:=[]) (s:=1) (e:=e) (cl:=false) (n:=n) hr (fun k v hk _=>by simp at hk) (by omega) (fun h=>by cases h) (Qa _) rfl rfl rfl rfl;refine J9.value (L6.new _ hr.base) (v':=.slice (some ⟨w.heap.size,0,none⟩) n cap) ?_ hc ?_
     ·rw[hrun,show(#[x]:Array Operand).map a.eval=#[a.eval x] by simp,hx.Y8,hrun2];rfl
     · have hO:=LU;refine .Z9 h.A6 0 n _ n _ 0 cap (Map.R2 _ _ _) ?_ (by omega) (M8 _) hge (.inl rfl) ?_
       ·rfl
       grind
   ·rw[h2];trivial
 ·rw[h1];trivial
end
section
variable {P:Program} {gs:List Nat} {ds:List (Option Tmp)} {o:Oper}
theorem A2i(v:A0)(k:Nat→R)(kn z:R):(∃b,v=.map (some b)∧AHX v k kn z=k b)∨(v=.map none∧AHX v k kn z=kn)∨AHX v k kn z=z:=by
 cases v with
 | map a=>cases a with
  | none=>exact .inr (.inl ⟨rfl,rfl⟩)
  | some b=>exact .inl ⟨b,rfl,rfl⟩
 | _=>exact .inr (.inr rfl)
theorem A1f(ob:N2)(k:List (A0×A0)→R)(z:R):(∃es,ob=.mp es∧A0E ob k z=k es)∨A0E ob k z=z:=by
 cases ob with
 | mp es=>exact .inl ⟨es,rfl,rfl⟩
 | _=>exact .inr rfl
theorem F5.Po{b:Nat}(h:F5 f (.map (some b)) v'):∃i,f b=some i∧v'=.map (some i.S6):=by
 cases h with
 | map _ i h=>exact⟨i,h,rfl⟩
theorem F5.sW(h:F5 f (.map none) v'):v'=.map none:=by cases h;rfl
def A7a(td:TypeDesc):Prop:=td=.bool∨(∃k,td=.int k)∨td=.string
theorem AFt{t:TypeId}(h:ADs P t=true):∃td,P.underlying t=some td∧A7a td:=by
 unfold ADs R7 at h;cases hu:P.underlying t with
 | none=>rw[hu] at h;cases h
 | some td =>
  rw[hu] at h;cases td<;>first|exact⟨_,rfl,.inl rfl⟩|exact⟨_,rfl,.inr (.inl ⟨_,rfl⟩)⟩|exact⟨_,rfl,.inr (.inr rfl)⟩|cases h
theorem Ji(hu:P.underlying kt=some td)(hk:A7a td)(e:Bool)(v:A0)(w:World):(Instr.checkKey e 10000 kt v).run P w=.ok () w:=by rw[show(10000:Nat)=9999+1 from rfl,Instr.checkKey];simp only[z6,run_underlying hu,CB];rcases hk with rfl|⟨k,rfl⟩|rfl<;>rfl
theorem mK{t:TypeId}(hu:P.underlying t=some td)(hk:A7a td){x y:A0}(hx:F5 f x x')(h:MA (R7 P t) x y=some b):
 x'=x∧Instr.sameNow td x y=some b∧(b=true→Instr.sameBits 10000 y x=true):=by
 obtain⟨ht,h⟩:=Js h;have hy:∃y',F5 f y y':=by cases x<;>cases y<;>first|exact⟨_,.int _ _⟩|exact⟨_,.bool _⟩|exact⟨_,.string _⟩|(cases h)
 obtain⟨y',hy⟩:=hy;obtain⟨rfl,rfl,h⟩:=A2b hx hy h;refine⟨rfl,?_⟩;rcases h with⟨k,m,n,rfl,rfl,rfl⟩|⟨p,q,rfl,rfl,rfl⟩|⟨p,q,rfl,rfl,rfl⟩
 ·obtain⟨k',hk'⟩:=cP.2.1 ht.symm;rw[hu] at hk';cases hk';refine⟨by simp[Instr.sameNow],fun hb=>?_⟩;have:=eq_of_beq hb;subst this;simp[Instr.sameBits]
 ·have:=cP.1 ht.symm;rw[hu] at this;cases this;refine⟨by simp[Instr.sameNow],fun hb=>?_⟩;have:=eq_of_beq hb;subst this;simp[Instr.sameBits]
 ·have:=cP.2.2 ht.symm;rw[hu] at this;cases this;refine⟨by simp[Instr.sameNow,beq_toListBytes],fun hb=>?_⟩;have:=eq_of_beq hb;simp[Instr.sameBits,beq_toListBytes,this]
def ja(f:Map)(es:List (A0×A0))(en:List MapEntry):Prop:=en.length=es.length∧∀(j:Nat) (e:A0×A0),es[j]?=some e→∃x,en[j]?=some x∧x.key=e.1∧F5 f e.2 x.val
theorem ja.tail{e:A0×A0}{x:MapEntry}{en:List MapEntry}(h:ja f (e::es) (x::en)):x.key=e.1∧F5 f e.2 x.val∧ja f es en:=by obtain⟨y,hy,a,b⟩:=h.2 0 e rfl;cases hy;refine⟨a,b,by simpa using h.1,fun j e' he=>?_⟩;obtain⟨z,hz,c⟩:=h.2 (j+1) e' (by simpa using he);grind
theorem AKO{t:TypeId}(hu:P.underlying t=some td)(hk:A7a td){k:A0}(hx:F5 f k k')(y:A0→R)(n z:R):
 ∀(es:List (A0×A0)) (en:List MapEntry) (i:Nat),ja f es en→Ym (R7 P t) k es y n z=z ∨
  (∃j v x,Ym (R7 P t) k es y n z=y v∧Instr.findNow td k' en i=some (some (j,x))∧F5 f v x) ∨
  (Ym (R7 P t) k es y n z=n∧Instr.findNow td k' en i=some none):=by
 intro es;induction es with
 | nil =>
  intro en i h;have:en=[]:=List.length_eq_zero_iff.1 h.1;subst this;exact .inr (.inr ⟨rfl,rfl⟩)
 | cons e es ih =>
  intro en i h;cases en with
  | nil=>simp[ja] at h
  | cons x en =>
   obtain⟨h1,h2,h3⟩:=h.tail;have hu1:Ym (R7 P t) k (e::es) y n z=R5 (MA (R7 P t) k e.1) (fun t'=>Bool.rec (motive:=fun _=>R) (Ym (R7 P t) k es y n z) (y e.2) t') z:=rfl;rw[hu1];cases hs:MA (R7 P t) k e.1 with
   | none=>exact .inl rfl
   | some b =>
    obtain⟨rfl,hn,_⟩:=mK hu hk hx hs;cases b with
    | true =>
     refine .inr (.inl ⟨i,e.2,x.val,rfl,?_,h2⟩);rw[Instr.findNow,h1,hn]
    | false =>
     show Ym (R7 P t) k' es y n z=z∨_;have hf:Instr.findNow td k' (x::en) i=Instr.findNow td k' en (i+1):=by rw[Instr.findNow,h1,hn]
     rw[hf];exact ih en (i+1) h3
theorem yA{t:TypeId}{z:A0}(hz:(P.info? t).bind (·.zero)=some z)(w:World):(zeroValue t).run P w=.ok z w:=by
 cases hi:P.info? t with
 | none=>rw[hi] at hz;cases hz
 | some i =>
  rw[hi] at hz;have hz':i.zero=some z:=hz;simp[zeroValue,typeInfo,hi,hz']
theorem cV{z:A0}(hp:(c7 z).all j9=true):F5 f z z:=by
 cases z with
 | agg c =>
  refine .agg _ _ rfl fun i hi=>?_;have hm:c.getD i undef∈c.toList:=by rw[gS,AFo hi];simp
  exact F5.plain (Cc.1 hp _ hm)
 | _=>exact F5.plain (Cc.1 hp _ (LZ.2 rfl))
theorem xV{u:A0}(hv:F5 f v v')(h:Uj ok v b=some u):F5 f u (if ok then .tuple #[v',.bool b] else v'):=by
 cases ok with
 | true=>cases h;exact F5.KJ (M7.cons hv (M7.cons (.bool b) (M7.nil f)))
 | false=>cases h;exact hv
theorem GI.Po{x:Obj}(h:GI f i (.mp es) x):∃en ck,x=.map en ck∧ck=en.size∧ja f es en.toList ∧
 ∀(j:Nat) (e:A0×A0),es[j]?=some e→(0<fp e.1∧fp e.1<4)∧∃x,en[j]?=some x∧x.key=e.1∧F5 f e.2 x.val∧x.born=j:=by
 cases h with
 | mp _ en ck hl hck he =>
  refine⟨en,ck,rfl,hck,⟨by simpa using hl,fun j e hj=>?_⟩,he⟩;grind
theorem Mc(hu:P.underlying kt=some td){k:A0}{es:List MapEntry}{r:Option (Nat×A0)}(h:Instr.findNow td k es 0=some r)(w:World):(Instr.findKey kt k es).run P w=.ok r w:=by simp only[Instr.findKey,z6,run_underlying hu,CB,h];rfl
theorem AGL{t:TypeId}{x k:Operand}{z:A0}(ho:o.op=.lookup t x k ok)(ht:P.underlying t=some (.map kt et))(hz:(P.info? et).bind (·.zero)=some z)(hp:(c7 z).all j9=true)(hkt:ADs P kt=true):
 KS P gs ds o (AFg (R7 P kt) z ok (C3 gs ds x) (C3 gs ds k)):=by
 intro lo tm f a w hG hE;have hx:=F0 hG hE x;have hkr:=F0 hG hE k;obtain⟨td,htd,hkd⟩:=AFt hkt;unfold AFg;rcases A2i (G4 (C3 gs ds x) lo tm) (fun b=>PR.read b fun ob=>A0E ob (fun es=>Ym (R7 P kt) (G4 (C3 gs ds k) lo tm) es (fun v=>Uj ok v true) (Uj ok z false) none) none) (A3k (Uj ok z false)) .none with⟨b,e,h⟩|⟨e,h⟩|h
 · rw[h];rw[e] at hx;obtain⟨i,hi,hxe⟩:=hx.Po;refine⟨i,hi,fun ob v x' hv hx' hor=>?_⟩;dsimp only at hv;rcases A1f ob (fun es=>Ym (R7 P kt) (G4 (C3 gs ds k) lo tm) es (fun v=>Uj ok v true) (Uj ok z false) none) none with⟨es,rfl,h2⟩|h2
   · rw[h2] at hv;obtain⟨en,ck,rfl,hck,her,_⟩:=hor.Po;have hrun:∀ {r:Option (Nat×A0)} (u:A0),Instr.findNow td (a.eval k) en.toList 0=some r→(match r with|some (_,v)=>(v,true)|none=>(z,false))=(u,r.isSome)→(execOp a.eval o).run P w=.ok (.value (if ok then .tuple #[u,.bool r.isSome] else u)) w:=by
      intro r u hr hu;simp only[execOp,ho,Instr.lookup,z6,run_underlying ht,CB,hxe];rw[show(getObj i.S6).run P w=.ok (.map en ck) w by simp[getObj,Sem.run,hx']];simp only[CB,z6,Cw,Ji htd hkd,Mc htd hr];cases r with
      | none =>
       cases hu;simp[yA hz]
      | some p =>
       simp_all
     rcases AKO htd hkd hkr (fun v=>Uj ok v true) (Uj ok z false) none es en.toList 0 her with h3|⟨j,pv,px,h3,h4,h5⟩|⟨h3,h4⟩
     ·rw[h3] at hv;cases hv
     ·rw[h3] at hv;exact⟨_,hrun px h4 rfl,xV h5 hv⟩
     ·rw[h3] at hv;exact⟨_,hrun z h4 rfl,xV (cV hp) hv⟩
   ·rw[h2] at hv;cases hv
 · rw[h];rw[e] at hx;have hxe:=hx.sW;have hrun:(execOp a.eval o).run P w=.ok (.value (if ok then .tuple #[z,.bool false] else z)) w:=by
    simp only[execOp,ho,Instr.lookup,z6,run_underlying ht,CB,hxe,Cw,Ji htd hkd];rw[Mc htd (r:=none) rfl];simp[yA hz]
   cases ok with
   | true=>exact⟨_,hrun,F5.KJ (M7.cons (cV hp) (M7.cons (.bool false) (M7.nil f)))⟩
   | false=>exact⟨_,hrun,cV hp⟩
 ·rw[h];trivial
theorem AGd{x:Operand}{t k e:TypeId}(ho:o.op=.call { callee:=.builtin .len,args:=args,argTypes:=ats })(ha:args.toList=[x])(hat:ats.toList=[t])(ht:P.underlying t=some (.map k e)):
 KS P gs ds o (AEb (C3 gs ds x)):=by
 intro lo tm f a w hG hE;have hx:=F0 hG hE x;have:=DN ha;subst this;have:=DN hat;subst this;unfold AEb;rcases A2i (G4 (C3 gs ds x) lo tm) (fun b=>PR.read b fun ob=>A0E ob (fun es=>AD .i64 (len es)) none) (.val (.int .i64 (.ofNat 0))) .none with⟨b,e,h⟩|⟨e,h⟩|h
 · rw[h];rw[e] at hx;obtain⟨i,hi,hxe⟩:=hx.Po;refine⟨i,hi,fun ob v x' hv hx' hor=>?_⟩;dsimp only at hv;rcases A1f ob (fun es=>AD .i64 (len es)) none with⟨es,rfl,h2⟩|h2
   · rw[h2] at hv;obtain⟨en,ck,rfl,hck,her,_⟩:=hor.Po;unfold AD at hv;rw[C1,R4] at hv;cases hv;refine⟨.int .i64 (es.length:Nat),?_,.int _ _⟩;have hsz:en.size=es.length:=by simpa using her.1
     simp[execOp,ho,resolve,invoke,builtin,Builtin.len_,run_underlying ht,hxe,getObj,Sem.run,hx',hsz,goInt]
   ·rw[h2] at hv;cases hv
 ·rw[h];rw[e] at hx;have hxe:=hx.sW;refine⟨.int .i64 0,?_,.int _ _⟩;simp[execOp,ho,resolve,invoke,builtin,Builtin.len_,run_underlying ht,hxe,goInt]
 ·rw[h];trivial
theorem AFW{w:World}(hr:Z6 f h w):L5 f h w (f.ext h.A6 ⟨w.heap.size,0,0,0⟩) (h.new (.mp [])) { w with heap:=w.heap.push (.map #[] 0) }:=L5.new (i:=⟨w.heap.size,0,0,0⟩) (o:=.mp []) hr rfl (.mp [] #[] 0 rfl rfl fun j e h=>by simp at h) rfl rfl rfl rfl
theorem AOz{t:TypeId}(ho:o.op=.makeMap t none):Dd P gs ds o ASM:=by intro A7 hcall lo tm f h a w hG hE hr;unfold ASM;rw[Hp.DM];refine J9.value (L6.new _ hr.base) (v':=.map (some w.heap.size)) ?_ (AFW hr) (.map h.A6 _ (Map.R2 _ _ _));simp[execOp,ho,Instr.makeMap,newObj,Sem.run]
theorem AMn{t k e:TypeId}{x:Operand}(ho:o.op=.makeMap t (some x))(ht:P.underlying t=some (.map k e)):Dd P gs ds o (AJw (C3 gs ds x)):=by
 intro A7 hcall lo tm f h a w hG hE hr;have hx:=F0 hG hE x;unfold AJw;rcases Bh (G4 (C3 gs ds x) lo tm) (fun _ _=>h.SB (.mp []) fun b h=>N3.val (.map (some b)) h) .none with⟨kd,m,e,h1⟩|h1
 ·rw[h1];rw[e] at hx;have hxe:=hx.Y8;rw[Hp.DM];refine J9.value (L6.new _ hr.base) (v':=.map (some w.heap.size)) ?_ (AFW hr) (.map h.A6 _ (Map.R2 _ _ _));simp[execOp,ho,Instr.makeMap,newObj,Sem.run,run_underlying ht,hxe,asInt,asIntOf]
 ·rw[h1];trivial
theorem AOw{t:TypeId}(hu:P.underlying t=some td)(hk:A7a td){k:A0}(hx:F5 f k k')(ht:fp k=R7 P t):
 ∀(es:List (A0×A0)) (en:List MapEntry) (i:Nat) (r:List (A0×A0)),ja f es en→A2F (R7 P t) k v es=some r →
  (∃j e x,es[j]?=some e∧en[j]?=some x∧r=es.set j (e.1,v)∧Instr.findNow td k' en i=some (some (i+j,x.val))∧Instr.sameBits 10000 x.key k'=true∧k'=x.key) ∨
  (r=es++[(k,v)]∧Instr.findNow td k' en i=some none):=by
 intro es;induction es with
 | nil =>
  intro en i r h hr;have:en=[]:=List.length_eq_zero_iff.1 h.1;subst this;cases hr;exact .inr ⟨rfl,rfl⟩
 | cons e es ih =>
  intro en i r h hr;cases en with
  | nil=>simp[ja] at h
  | cons x en =>
   obtain⟨h1,h2,h3⟩:=h.tail;have hu1:A2F (R7 P t) k v (e::es)=R5 (MA (R7 P t) k e.1) (fun t'=>Bool.rec (motive:=fun _=>Option (List (A0×A0))) (R5 (A2F (R7 P t) k v es) (fun l=>some (e::l)) none) (some ((e.1,v)::es)) t') none:=rfl;rw[hu1] at hr;cases hs:MA (R7 P t) k e.1 with
   | none=>rw[hs] at hr;cases hr
   | some b =>
    rw[hs] at hr;obtain⟨hkk,hn,hb⟩:=mK hu hk hx hs;cases b with
    | true =>
     cases hr;have hsb:=hb rfl;refine .inl ⟨0,e,x,rfl,rfl,rfl,by rw[hkk,Instr.findNow,h1,hn];rfl,by rw[h1,hkk];exact hsb,?_⟩;rw[hkk,h1];have h4:=(Js hs).2;have hy:∃y',F5 f e.1 y':=by cases k<;>cases he:e.1<;>first|exact⟨_,.int _ _⟩|exact⟨_,.bool _⟩|exact⟨_,.string _⟩|(rw[he] at h4;cases h4)
     obtain⟨y',hy⟩:=hy;obtain⟨_,_,h5⟩:=A2b hx hy h4;rcases h5 with⟨k1,m,n,e1,e2,e3⟩|⟨p,q,e1,e2,e3⟩|⟨p,q,e1,e2,e3⟩
     ·grind
     ·grind
     ·rw[e1,e2];have h6:p.toList=q.toList:=eq_of_beq e3.symm;rw[PD,PD] at h6;obtain⟨⟨p⟩⟩:=p;obtain⟨⟨q⟩⟩:=q;have h7:p=q:=h6;rw[h7]
    | false =>
     have hr:R5 (A2F (R7 P t) k v es) (fun l=>some (e::l)) none=some r:=hr;obtain⟨l,hl,hr⟩:=V8 _ _ hr;cases hr;have hf:Instr.findNow td k' (x::en) i=Instr.findNow td k' en (i+1):=by rw[Instr.findNow,h1,hkk,hn]
     rw[hf];rcases ih en (i+1) l h3 hl with⟨j,e',x',a,b,c,d,g⟩|⟨a,b⟩
     ·refine .inl ⟨j+1,e',x',by simpa using a,by simpa using b,by simp[c],?_,g⟩;rw[d,Nat.add_right_comm];rfl
     grind
theorem AOs{w:World}{a:Act}{s:Sem Unit}(hs:L6 h h')(he:execOp a.eval o=(do s;pure .skip))(hr:s.run P w=.ok () w')(hc:L5 f h w f' h' w'):J9 P f h w a o (.val undef h'):=J9.skip hs (by rw[he];simp[hr]) hc
theorem A6Z{t:TypeId}{m k v:Operand}(ho:o.op=.mapUpdate t m k v∨o.op=.insert t m k v)(ht:P.underlying t=some (.map kt et))(hkt:ADs P kt=true):Dd P gs ds o (A5R (R7 P kt) (C3 gs ds m) (C3 gs ds k) (C3 gs ds v)):=by
 intro A7 hcall lo tm f h a w hG hE hr;have hm:=F0 hG hE m;have hkr:=F0 hG hE k;have hv:=F0 hG hE v;obtain⟨td,htd,hkd⟩:=AFt hkt;have hex:execOp a.eval o=(do Instr.mapUpdate t (a.eval m) (a.eval k) (a.eval v);pure .skip):=by rcases ho with ho|ho<;>simp only[execOp,ho]
 unfold A5R;rcases A2i (G4 (C3 gs ds m) lo tm) (fun b=>R5 (h.bl.get (path b)) (fun ob=>A0E ob (fun es =>
  bif Nat.beq (fp (G4 (C3 gs ds k) lo tm)) (R7 P kt) then R5 (A2F (R7 P kt) (G4 (C3 gs ds k) lo tm) (G4 (C3 gs ds v) lo tm) es) (fun es=>h.Ei b (some (.mp es)) fun h=>N3.val undef h) .none else .none) .none) .none) .none .none with⟨b,e,h1⟩|⟨_,h1⟩|h1
 · rw[h1];rw[e] at hm;obtain⟨i,hi,hme⟩:=hm.Po;generalize G4 (C3 gs ds k) lo tm=ka at hkr;generalize G4 (C3 gs ds v) lo tm=va at hv;cases hat:h.at b with
   | none=>rw[show h.bl.get (path b)=none from hat];trivial
   | some ob =>
    rw[show h.bl.get (path b)=some ob from hat];show J9 P f h w a o (A0E ob (fun es=>bif Nat.beq (fp ka) (R7 P kt) then R5 (A2F (R7 P kt) ka va es) (fun es=>h.Ei b (some (.mp es)) fun h=>N3.val undef h) .none else .none) .none);rcases A1f ob (fun es=>bif Nat.beq (fp ka) (R7 P kt) then R5 (A2F (R7 P kt) ka va es) (fun es=>h.Ei b (some (.mp es)) fun h=>N3.val undef h) .none else .none) N3.none with⟨es,rfl,h2⟩|h2
    · rw[h2];cases htg:Nat.beq (fp ka) (R7 P kt) with
      | false=>trivial
      | true =>
       have htg:=T9 htg;rw[cond_true];cases hp:A2F (R7 P kt) ka va es with
       | none=>trivial
       | some es' =>
        show J9 P f h w a o (h.Ei b (some (.mp es')) fun h=>N3.val undef h);rw[Hp.Hh];obtain⟨x,hx,hor⟩:=hr.obj b _ i hi hat;obtain⟨en,ck,rfl,hck,her,hall⟩:=hor.Po;have hlive:(h.at b).isSome:=by rw[hat];rfl
        have hbl:i.S6<w.heap.size:=(hr.fresh _ _ hi).2;have hsz:en.size=es.length:=by simpa using her.1
        have hi0:0<R7 P kt∧R7 P kt<4:=by refine⟨?_,Nat.blt_eq.mp hkt⟩;unfold R7;split<;>decide
        have fin:∀en' ck',(Instr.mapUpdate t (a.eval m) (a.eval k) (a.eval v)).run P w=.ok () { w with heap:=w.heap.setIfInBounds i.S6 (.map en' ck') }→GI f i (.mp es') (.map en' ck')→J9 P f h w a o (.val undef (h.put b (some (.mp es')))):=by intro en' ck' hrun hor';refine AOs (f':=f) (L6.put _ hlive) hex hrun ?_;exact L5.put (o:=.mp es') (x:=.map en' ck') hr hi hlive (by simp[hbl]) hor' (by simp) (fun c hc=>by grind) rfl rfl rfl
        have hget:(getObj i.S6).run P w=.ok (.map en ck) w:=by simp[getObj,Sem.run,hx]
        have hset:∀x',(setObj i.S6 x').run P w=.ok () { w with heap:=w.heap.setIfInBounds i.S6 x' }:=fun x'=>by simp only[setObj,Sem.run,hx]
        rcases AOw htd hkd hkr htg es en.toList 0 es' her hp with⟨j,ej,xj,a1,a2,a3,a4,a5,a6⟩|⟨a3,a4⟩
        · have a2':en[j]?=some xj:=by simpa using a2
          refine fin (en.modify j fun e=>{ e with key:=a.eval k,val:=a.eval v }) ck ?_ ?_
          ·simp only[Instr.mapUpdate,z6,run_underlying ht,CB,hme,hget,Ji htd hkd,Mc htd a4,Ag,a2',A08,Option.getD_some,Instr.keyThatStays,a5,if_true,Cw,hset]
          ·subst a3;refine .mp _ _ _ (by simp[hsz]) (by simp[hck]) fun n e' hn=>?_;rw[A7o] at hn;grind
        · refine fin (en.push { key:=a.eval k,val:=a.eval v,born:=ck }) (ck+1) ?_ ?_
          ·simp only[Instr.mapUpdate,z6,run_underlying ht,CB,hme,hget,Ji htd hkd,Mc htd a4,hset]
          · subst a3;have hkk:a.eval k=ka:=by
             cases hka:ka<;>rw[hka] at htg hkr<;>first|exact hkr.Y8|exact hkr.Bn|exact hkr.Mo|(exfalso;have:(0:Nat)=R7 P kt:=htg;omega)
            refine .mp _ _ _ (by simp[hsz]) (by simp[hck]) fun n e' hn=>?_;rw[List.getElem?_append] at hn;by_cases hnl:n<es.length
            ·grind
            · rw[if_neg hnl] at hn;have hn0:n=es.length:=by
               grind
              subst hn0;rw[Wj] at hn;cases hn;exact⟨by rw[htg];exact hi0,_,by rw[Array.getElem?_push,if_pos hsz.symm],hkk,hv,by rw[hck,hsz]⟩
    ·rw[h2];trivial
 ·rw[h1];trivial
 ·rw[h1];trivial
def AVn(P:Program)(ms:List (String×Nat×Nat)):Prop:=∀e,e∈ms→∃info m d ptr,P.info? e.2.1=some info∧info.methods.find? (·.name == e.1)=some m∧m.path=#[]∧m.func=some (e.2.2,ptr) ∧
 P.underlying e.2.1=some d∧(match d with|.pointer _=>ptr=true|_=>ptr=false)
def SW(P:Program)(cx:Cx):Prop:=ANG P cx.xs∧AVn P cx.ms
theorem ANk{n:String}{x:Nat×Nat}(h:x∈A8L ms n):(n,x)∈ms:=by
 induction ms with
 | nil=>cases h
 | cons e r ih =>
  unfold A8L at h;grind
theorem AOZ{tb:List (Nat×Nat)}{t g:Nat}(h:AW1 tb t=some g):(t,g)∈tb:=by
 induction tb with
 | nil=>cases h
 | cons e r ih =>
  have h':(bif Nat.beq e.1 t then some e.2 else AW1 r t)=some g:=h;cases hb:Nat.beq e.1 t with
  | true =>
   rw[hb] at h';have:=T9 hb;grind
  | false=>grind
theorem ABz(hM:AVn P ms){n:String}{t g:Nat}(h:(n,t,g)∈ms)(D:Nat)(v:A0)(w:World):(method (D+1) t v n).run P w=.ok (g,v) w:=by
 obtain⟨info,m,d,ptr,hi,hm,hp,hf,hd,hptr⟩:=hM _ h;rw[method];have hti:(typeInfo t).run P w=.ok info w:=by simp[typeInfo,hi]
 simp only[z6,hti,CB,hm,hp,follow,Cw,hf];have hr:∀o,(receiverAt t (.val v) ptr o).run P w=.ok v w:=by intro o;simp only[receiverAt,z6,run_underlying hd,CB];cases d<;>(dsimp only at hptr;subst hptr;rfl)
 simp[hr]
theorem AOn(hM:AVn P ms){r:Operand}{n:String}(ho:o.op=.call { callee:=.invoke r n,args:=args,argTypes:=ats }):
 Dd P gs ds o (ASt (A8L ms n) (C3 gs ds r) (args.toList.map (C3 gs ds))):=by
 intro A7 hcall lo tm f h a w hG hE hr;have hl:=Jl hG hE args.toList;have hx:=F0 hG hE r;unfold ASt;rcases fy (G4 (C3 gs ds r) lo tm) (fun t v=>R5 (AW1 (A8L ms n) t) (fun g=>A7 g (v::XW (args.toList.map (C3 gs ds)) lo tm) h) N3.none) .none .none with⟨t,v,e,h1⟩|⟨e,h1⟩|h1
 · rw[h1];rw[e] at hx;obtain⟨v',hxe,hv⟩:=hx.dn;cases ha:AW1 (A8L ms n) t with
   | none=>trivial
   | some g =>
    have hmem:=ANk (AOZ ha);show J9 P f h w a o (A7 g (v::XW (args.toList.map (C3 gs ds)) lo tm) h);refine J9.call hcall hG hr (args':=#[v']++args.map a.eval) (by simpa using M7.cons hv hl) ?_;have hm:=ABz (P:=P) hM hmem (P.types.size+Made.depth-1) v' w;rw[show P.types.size+Made.depth-1+1=P.types.size+Made.depth from by simp[Made.depth]] at hm;have h0:(#[Value.iface t v']++args.map a.eval)[0]?=some (.iface t v'):=by grind
    have h1:(#[Value.iface t v']++args.map a.eval).extract 1 (#[Value.iface t v']++args.map a.eval).size=args.map a.eval:=by simp
    unfold execOp;rw[ho];simp only[resolve,hxe,z6,Cw,CB,invoke,h0,callMethod,h1];simp_all
 ·rw[h1];trivial
 ·rw[h1];trivial
end
section
variable {P:Program} {gs:List Nat} {ds:List (Option Tmp)} {o:Oper}
def A9D(P:Program)(gs:List Nat)(ds:List (Option Tmp))(o:Oper):CO→Prop
 | .p f=>Q9 P gs ds o f
 | .r f=>KS P gs ds o f
 | .g f=>Dd P gs ds o f
theorem I5:A9D P gs ds o bad:=AMY
theorem s9{c:CO}(h:b=true→A9D P gs ds o c):A9D P gs ds o (bif b then c else bad):=by
 cases b with
 | true=>exact h rfl
 | false=>exact I5
theorem aV{c:CO}(h:b=false→A9D P gs ds o c):A9D P gs ds o (bif b then bad else c):=by
 cases b with
 | true=>exact I5
 | false=>exact h rfl
theorem Qi{c d:CO}(h:b=true→A9D P gs ds o c)(h':b=false→A9D P gs ds o d):A9D P gs ds o (bif b then c else d):=by grind
theorem EN{t:TypeId}(h:AIM P t=true):∃d,P.underlying t=some d:=A0k.1 h
theorem MO{t:TypeId}(h:T3 P t=true):∃d,P.underlying t=some d:=by unfold T3 at h;grind
theorem AEM{t:TypeId}(h:sz P t≠0):∃j,P.info? t=some j∧j.size≠0:=by
 unfold sz Program.cellsOf at h;cases hi:P.info? t with
 | none=>simp[hi] at h
 | some j=>grind
theorem NF{a b:Nat}(h:Nat.beq a b=false):a≠b:=fun e=>by simp_all
theorem AQy{op:BinOp}{t:TypeId}{x:Operand}(ho:o.op=.binOp op t x y yt):A9D P gs ds o (AJI op (C3 gs ds x) (C3 gs ds y)):=by obtain⟨fn,h1,h2⟩:=AIQ (P:=P) (gs:=gs) (ds:=ds) ho;rw[h1];exact h2
theorem AQj{op:BinOp}{t:TypeId}{x:Operand}(ho:o.op=.binOp op t x y yt):A9D P gs ds o (AMO P (C3 gs ds) op t x y):=by
 unfold AMO;cases hu:P.underlying t with
 | none=>exact I5
 | some d =>
  cases d with
  | int k=>exact AQy ho
  | string=>exact ABl ho
  | bool=>cases op<;>first | exact I5 | exact jN (neg:=false) ho rfl hu | exact jN (neg:=true) ho rfl hu
  | struct fs =>
   refine s9 fun hg=>?_;cases hl:leaves P 100 t 0 with
   | none=>exact I5
   | some ls =>
    have ha:T3 P t=true:=by unfold T3;rw[hu]
    have hg':P.eqGuardType P.depth t=false:=by simpa using hg
    cases op<;>first|exact I5|exact ZY (neg:=false) ho rfl hg' hl ha|exact ZY (neg:=true) ho rfl hg' hl ha
  | array n e =>
   refine s9 fun hg=>?_;cases hl:leaves P 100 t 0 with
   | none=>exact I5
   | some ls =>
    have ha:T3 P t=true:=by unfold T3;rw[hu]
    have hg':P.eqGuardType P.depth t=false:=by simpa using hg
    cases op<;>first|exact I5|exact ZY (neg:=false) ho rfl hg' hl ha|exact ZY (neg:=true) ho rfl hg' hl ha
  | pointer e =>
   have hp:AP2 P t=true→P.cellsOf e≠0:=fun h=>by
    unfold AP2 at h;rw[hu] at h;have h':(!Nat.beq (sz P e) 0)=true:=h;have h'':Nat.beq (sz P e) 0=false:=by simpa using h'
    exact NF h''
   dsimp only;split
   ·exact Ao (neg:=false) ho rfl trivial (A4T hu)
   ·exact Ao (neg:=true) ho rfl trivial (A4T hu)
   ·exact s9 fun h=>A5s (neg:=false) ho rfl hu (hp h)
   ·exact s9 fun h=>A5s (neg:=true) ho rfl hu (hp h)
   ·exact I5
  | func a b c =>
   dsimp only;split
   ·exact Ao (neg:=false) ho rfl trivial (A8E hu)
   ·exact Ao (neg:=true) ho rfl trivial (A8E hu)
   ·exact I5
  | slice e =>
   dsimp only;split
   ·exact Ao (neg:=false) ho rfl trivial (A7R hu)
   ·exact Ao (neg:=true) ho rfl trivial (A7R hu)
   ·exact I5
  | map k e =>
   dsimp only;split
   ·exact Ao (neg:=false) ho rfl trivial (A6f hu)
   ·exact Ao (neg:=true) ho rfl trivial (A6f hu)
   ·exact I5
  | interface ms =>
   dsimp only;split
   ·exact Ao (neg:=false) ho rfl trivial (A6G hu)
   ·exact Ao (neg:=true) ho rfl trivial (A6G hu)
   ·exact A92 (neg:=false) ho rfl hu
   ·exact A92 (neg:=true) ho rfl hu
   ·exact I5
  | _=>exact I5
theorem AMC{x:Operand}(ho:o.op=.convert s d x):A9D P gs ds o (A9o P (C3 gs ds x) s d):=by
 unfold A9o;cases hs:P.underlying s with
 | none=>exact I5
 | some a =>
  cases hd:P.underlying d with
  | none=>cases a<;>exact I5
  | some b =>
   split
   ·rename_i h1 h2;cases h1;cases h2;exact AB5 ho hs hd
   · rename_i e h1 h2;cases h1;cases h2;split
     ·rename_i he;exact A3t ho hs hd he
     ·exact I5
   · rename_i e h1 h2;cases h1;cases h2;split
     ·rename_i he;exact wP ho hs he hd
     ·exact I5
   ·rename_i h1 h2;cases h1;cases h2;exact A3u ho hs hd
   ·rename_i e h1 h2;cases h1;cases h2;refine aV fun h=>?_;obtain⟨j,hj,hj0⟩:=AEM (P:=P) (NF h);exact AI1 ho hs hd hj hj0
   ·rename_i e h1 h2;cases h1;cases h2;refine aV fun h=>?_;rw[A6r] at h;obtain⟨j,hj,hj0⟩:=AEM (P:=P) (NF h.1);exact AGG ho hs hd hj (NF h.1) (NF h.2)
   ·exact I5
theorem A9z{b:Builtin}(ho:o.op=.call { callee:=.builtin b,args:=args,argTypes:=ats }):A9D P gs ds o (Sb P (C3 gs ds) b args.toList ats.toList):=by
 generalize ha:args.toList=as;generalize hat:ats.toList=ts;unfold Sb;split
 · rename_i x t;cases hu:P.underlying t with
   | none=>exact I5
   | some d =>
    split
    ·rename_i h;cases h;exact AH9 ho ha hat hu
    ·rename_i h;cases h;exact AGq ho ha hat hu
    ·rename_i h;cases h;exact ye ho ha hat (.inl ⟨_,hu⟩)
    ·rename_i h;cases h;exact AGd ho ha hat hu
    · rename_i h;cases h;split
      ·rename_i h;exact ye ho ha hat (.inr ⟨_,_,hu,h⟩)
      ·exact I5
    ·exact I5
 · rename_i x t;split
   ·rename_i h;exact AJZ ho ha hat h
   ·exact I5
 · rename_i x y t u;split
   · rename_i h1 h2;refine aV fun _=>?_;split
     ·rename_i z hz;refine s9 fun hb=>?_;obtain⟨ti,v,hi,_,_,_,_,hsz⟩:=Be hz;have hb:=Nat.ble_eq.mp hb;rw[hsz];exact AFz ho ha hat h1 (.inl ⟨_,h2⟩) hi hz (by simpa[Program.bytesOf,hi] using hb)
     ·exact I5
   · rename_i h1 h2;refine aV fun _=>?_;split
     ·rename_i z hz;refine s9 fun hb=>?_;obtain⟨ti,v,hi,_,_,_,_,hsz⟩:=Be hz;have hb:=Nat.ble_eq.mp hb;rw[hsz];exact AKB ho ha hat h1 h2 hi hz (by simpa[Program.bytesOf,hi] using hb)
     ·exact I5
   · rename_i h1 h2;refine s9 fun hs1=>?_;have hs1:=T9 hs1;split
     · rename_i z hz;refine s9 fun hb=>?_;obtain⟨ti,v,hi,_,_,_,_,hsz⟩:=Be hz;have hb:=Nat.ble_eq.mp hb;have h1':ti.size=1:=by omega
       rw[←h1'];exact AFz ho ha hat h1 (.inr h2) hi hz (by simpa[Program.bytesOf,hi] using hb)
     ·exact I5
   ·exact I5
 · rename_i x y t u;split
   · rename_i h1;split
     ·rename_i ti hi;exact AOi ho ha hat h1 hi
     ·exact I5
   ·exact I5
 ·rw[←ha];exact A0s (mx:=false) ho
 ·rw[←ha];exact A0s (mx:=true) ho
 · rename_i x n t r;split
   · rename_i e h1;split
     ·rename_i h2;refine s9 fun h=>?_;rw[U8] at h;exact AJn ho ha hat h1 (T9 h.1) (NF (by simpa using h.2))
     ·exact I5
   ·exact I5
 ·exact AB7 ho ha
 ·exact I5
theorem AGx(hX:ANG P cx.xs)(ho:o.op=.call { callee:=.value (.func g),args:=args,argTypes:=ats })(hfn:P.funcs[g]?=some fn):A9D P cx.gs ds o (A2W P cx ds fn args.toList g):=by
 unfold A2W;cases hk:xk cx.xs g with
 | none=>exact s9 fun _=>AGe ho
 | some k =>
  show A9D P cx.gs ds o (ALZ P k fn (args.toList.map (C3 cx.gs ds)));generalize ha:args.toList=as;unfold ALZ;split
  · rename_i q hq
    match as,ha,hq with
    | [x],ha,hq =>
     cases hq;refine Qi (fun h=>?_) (fun _=>s9 fun h=>?_)
     ·have:=T9 h;subst this;exact AAu ho ha hX hk
     · have:=T9 h;subst this;split
       · rename_i e hre;refine s9 fun _=>?_;cases hrt:fn.resultTypes[0]? with
         | none=>rw[hrt] at hre;cases hre
         | some rt=>rw[hrt] at hre;exact AMP ho ha hX hk hfn hrt hre
       ·exact I5
  · rename_i q r hq
    match as,ha,hq with
    | [x,y],ha,hq =>
     cases hq;refine Qi (fun h=>?_) (fun _=>Qi (fun h=>?_) fun _=>s9 fun h=>?_)
     ·have:=T9 h;subst this;exact AGF ho ha hX hk
     ·have:=T9 h;subst this;exact AIb ho ha hX hk
     ·have:=T9 h;subst this;exact AIv ho ha hX hk
  ·exact I5
theorem A0X(hX:SW P cx):A9D P cx.gs ds o (OS P cx ds o):=by
 unfold OS;cases ho:o.op<;>dsimp only<;>try exact I5
 case move x=>exact A0c (.inl ho)
 case assign x=>exact A0c (.inr ho)
 case pick a b c=>exact AGi ho
 case alloc e =>
  cases hz:Hz P e with
  | none=>exact I5
  | some z=>exact AGD ho hz
 case box e x=>exact APc ho
 case build t parts =>
  cases hz:Hz P t with
  | none=>exact I5
  | some z =>
   cases hu:P.underlying t with
   | none=>exact I5
   | some d =>
    cases d<;>try exact I5
    case array n e =>
     dsimp only;split
     · rename_i ie hie;split
       ·rename_i l hl;exact np ho hz (.inr ⟨n,e,ie,hu,hie,rfl⟩) hl
       ·exact I5
     ·exact I5
    case struct fs =>
     dsimp only;split
     · rename_i pl hpl;split
       ·rename_i l hl;exact np ho hz (.inl ⟨fs,pl,hu,hpl,rfl⟩) hl
       ·exact I5
     ·exact I5
 case buildSlice t n parts =>
  split
  · rename_i e hu;split
    ·rename_i z l hz hl;refine s9 fun h=>?_;rw[U8] at h;exact ADc ho hu hz hl (Nat.ble_eq.mp h.1) (Nat.ble_eq.mp h.2)
    ·exact I5
  ·exact I5
 case load t x =>
  refine Qi (fun h=>?_) (fun h=>s9 fun hk=>?_)
  ·obtain⟨d,hd⟩:=MO h;exact ADB ho hd h
  ·obtain⟨d,hd⟩:=EN hk;exact ADV ho hd h
 case store t x y =>
  refine Qi (fun h=>?_) (fun h=>s9 fun hk=>?_)
  ·obtain⟨d,hd⟩:=MO h;exact AC7 ho hd
  ·rw[U8] at hk;obtain⟨d,hd⟩:=EN hk.1;exact ABU ho hd (T9 hk.2)
 case nilCheck x=>exact A7n ho
 case binOp op t x y yt=>exact AQj ho
 case unOp op t x=>cases op<;>first|exact AL2 ho|exact AKN ho|exact AKs ho|exact I5
 case convert s d x=>exact AMC ho
 case makeInterface t x =>
  split
  ·exact I5
  ·rename_i d hne hd;exact AKD ho hd (fun ms h=>by subst h;exact hne _ rfl)
  ·exact I5
 case makeFunc g first cap =>
  cases g<;>first|exact AKd ho|exact AH7 ho|exact I5
 case makeSlice t n m =>
  split
  · rename_i e hu;split
    ·rename_i z hz;exact AOM ho hu hz
    ·exact I5
  ·exact I5
 case slice t x l h m =>
  split
  ·rename_i e hu;exact s9 fun hk=>by obtain⟨d,hd⟩:=EN hk;exact AK3 ho hu hd
  · rename_i hu;cases m with
    | none=>exact ACq ho hu
    | some m=>exact I5
  ·rename_i n e hu;refine s9 fun hk=>?_;rw[U8] at hk;obtain⟨d,hd⟩:=EN hk.1;have:=Nat.ble_eq.mp hk.2;have hO:=LU;exact AL8 ho hu (by omega) hd
  ·exact I5
 case fieldAddr s x i =>
  split
  · rename_i fs hu;split
    ·rename_i fd hf;refine aV fun h=>?_;rw[A6r] at h;obtain⟨d,hd⟩:=EN (P:=P) (t:=fd.type) (by simpa using h.1);exact AGV ho hu hf hd (NF h.2)
    ·exact I5
  ·exact I5
 case field s x i =>
  split
  · rename_i fs hu;split
    · rename_i fd hf;refine Qi (fun h=>?_) (fun h=>s9 fun hk=>?_)
      ·obtain⟨d,hd⟩:=MO h;exact AIq ho hu hf hd h
      ·obtain⟨d,hd⟩:=EN hk;exact AGt ho hu hf hd h
    ·exact I5
  ·exact I5
 case indexAddr t x i =>
  split
  ·rename_i n e hu;exact s9 fun hk=>by obtain⟨d,hd⟩:=EN hk;exact ACy ho hu hd
  ·rename_i e hu;exact s9 fun hk=>by obtain⟨d,hd⟩:=EN hk;exact AGO ho hu hd
  ·exact I5
 case index t x i =>
  split
  · rename_i n e hu;refine Qi (fun h=>?_) (fun h=>s9 fun hk=>?_)
    ·obtain⟨d,hd⟩:=MO h;exact AJs ho hu hd h
    ·rw[U8] at hk;obtain⟨d,hd⟩:=EN hk.1;exact AMM ho hu hd h (T9 hk.2)
  ·rename_i hu;exact AA2 ho hu
  ·exact I5
 case range t x =>
  split
  ·rename_i hu;exact AOv ho hu
  ·exact I5
 case next x s =>
  cases s with
  | true=>exact AOl ho
  | false=>exact I5
 case typeAssert x xt t ok =>
  split
  ·exact I5
  ·rename_i d z hne hd hz;exact s9 fun h=>AMF ho hd (fun ms h=>by subst h;exact hne _ rfl) hz h
  ·exact I5
 case extract x i=>exact AKb ho
 case panic x=>exact APY ho
 case call cl =>
  obtain⟨callee,args,ats⟩:=cl;dsimp only at ho ⊢;split
  · rename_i g;split
    ·rename_i fn hfn;exact AGx hX.1 ho hfn
    ·exact I5
  ·exact AHH ho
  ·exact A9z ho
  ·exact AOn hX.2 ho
 case makeMap t r =>
  cases r with
  | none=>exact AOz ho
  | some x =>
   dsimp only;split
   ·rename_i hu;exact AMn ho hu
   ·exact I5
 case lookup t x k ok =>
  split
  · rename_i kt et hu;split
    ·rename_i z hz;refine s9 fun h=>?_;rw[U8] at h;exact AGL ho hu hz h.1 h.2
    ·exact I5
  ·exact I5
 case mapUpdate t m k v =>
  split
  ·rename_i hu;exact s9 fun h=>A6Z (.inl ho) hu h
  ·exact I5
 case insert t m k v =>
  split
  ·rename_i hu;exact s9 fun h=>A6Z (.inr ho) hu h
  ·exact I5
end
section
variable {P:Program}
structure Inv(live nt:Nat)(f:Map)(tm:T A0)(tmps:Array A0):Prop where
 env:Env f [] [] tm tmps
 dead:∀t,bit live t=false→tm.get (path t)=none
 size:tmps.size=nt
inductive SA (f:Map):Df→List Deferred→Prop where
 | nil:SA f [] []
 | cons {g:FuncId} {args:List A0} {d:Deferred} {df:Df} {ds:List Deferred} (cap:Array A0) (ht:d.target=.fn (.func g) cap) (ha:M7 f args (d.args++cap).toList) (hr:SA f df ds):SA f ((g,args)::df) (d::ds)
theorem SA.mono{g:Map}(hfg:f.le g){ds:List Deferred}(h:SA f df ds):SA g df ds:=by
 induction h with
 | nil=>exact .nil
 | cons cap ht ha _ ih=>exact .cons cap ht (ha.mono hfg) ih
theorem Inv.mono{g:Map}{tmps:Array A0}(hfg:f.le g)(h:Inv live nt f tm tmps):Inv live nt g tm tmps:=⟨h.env.mono hfg,h.dead,h.size⟩
inductive ADN (f:Map):Ex→Exit→Prop where
 | normal:ADN f .normal .normal
 | exit (id:Nat):ADN f (.exit id) (.exit id)
 | ret:ADN f .ret .ret
 | panic {c c':List PanicEntry} (h:ER f c c'):ADN f (.panic c) (.panic c')
def SG(live nt:Nat)(f:Map)(h:Hp)(w:World)(r:N7)(wp:(Exit→Act→World→Prop)→Prop):Prop:=match r with
 | .none=>True
 | .ok e tm df h'=>∀Q:Exit→Act→World→Prop,(∀f' e' a' w',L6 h h'→L5 f h w f' h' w'→Inv live nt f' tm a'.tmps→SA f' df a'.defers→ADN f' e e'→Q e' a' w')→wp Q
theorem Env.cons{ds:List (Option Tmp)}{a:Act}{d:Option Tmp}(h:Env f ds lo tm a.tmps)(hv:F5 f v v')(hd:∀t,d=some t→t<a.tmps.size):
 Env f (d::ds) (v::lo) tm (a.put d v').tmps:=by
 intro t;cases d with
 | none =>
  refine⟨fun i hi=>?_,fun hi u hu=>?_⟩
  · have hi':(idx ds t).map (·+1)=some i:=hi;cases hj:idx ds t with
    | none=>rw[hj] at hi';cases hi'
    | some j=>rw[hj] at hi';cases hi';exact(h t).1 j hj
  · have hi':(idx ds t).map (·+1)=none:=hi;cases hj:idx ds t with
    | none=>exact(h t).2 hj u hu
    | some j=>rw[hj] at hi';cases hi'
 | some e =>
  have he:=hd e rfl;have hput:(a.put (some e) v').tmps=a.tmps.setIfInBounds e v':=rfl;rw[hput];have hidx:idx (some e::ds) t=bif Nat.beq e t then some 0 else(idx ds t).map (·+1):=rfl
  by_cases het:e=t
  · subst het;refine⟨fun i hi=>?_,fun hi=>?_⟩
    ·rw[hidx,Dg] at hi;cases hi;show F5 f v _;simp_all
    simp_all
  · have hb:Nat.beq e t=false:=by
     cases hb:Nat.beq e t with
     | false=>rfl
     | true=>simp_all
    have hget:(a.tmps.setIfInBounds e v').getD t undef=a.tmps.getD t undef:=by simp_all
    rw[hget];refine⟨fun i hi=>?_,fun hi u hu=>?_⟩
    · rw[hidx,hb] at hi;have hi':(idx ds t).map (·+1)=some i:=hi;cases hj:idx ds t with
      | none=>rw[hj] at hi';cases hi'
      | some j=>rw[hj] at hi';cases hi';exact(h t).1 j hj
    · rw[hidx,hb] at hi;have hi':(idx ds t).map (·+1)=none:=hi;cases hj:idx ds t with
      | none=>exact(h t).2 hj u hu
      | some j=>rw[hj] at hi';cases hi'
theorem DB(a:Act)(d:Option Tmp)(v:A0):(a.put d v).tmps.size=a.tmps.size:=by cases d<;>simp[Act.put]
theorem put_defers(a:Act)(d:Option Tmp)(v:A0):(a.put d v).defers=a.defers:=by cases d<;>rfl
theorem VG{ds:List (Option Tmp)}{t:Tmp}:∀ {j:Nat},idx ds t=some j→ds[j]?=some (some t):=by
 induction ds with
 | nil=>intro j h;cases h
 | cons d ds ih =>
  intro j h;have step:(idx ds t).map (·+1)=some j→(d::ds)[j]?=some (some t):=fun h'=>by
   cases hk:idx ds t with
   | none=>rw[hk] at h';cases h'
   | some k=>grind
  cases d with
  | none=>exact step h
  | some e =>
   have h':(bif Nat.beq e t then some 0 else(idx ds t).map (·+1))=some j:=h;cases he:Nat.beq e t with
   | true=>rw[he] at h';cases h';simp_all
   | false=>rw[he] at h';exact step h'
theorem iZ{ds:List (Option Tmp)}{t:Tmp}{i:Nat}:Bf ds t i=true↔idx ds t=some i:=by
 unfold Bf;cases h:idx ds t with
 | none=>simp
 | some j =>
  simp;omega
def CW(live:Nat)(ds:List (Option Tmp))(lo:List A0)(i:Nat)(t:Tmp)(AM:Option A0):Option A0:=match idx ds t with
 | some j=>if bit live t=true∧i≤j then some (nth lo j) else AM
 | none=>AM
theorem Yt{ds:List (Option Tmp)}{i:Nat}{t:Tmp}(h:bit live t=true→idx ds t≠some i):CW live ds lo (i+1) t AM=CW live ds lo i t AM:=by unfold CW;grind
theorem ADA{ds:List (Option Tmp)}{i:Nat}{e t:Tmp}(hf:(CZ live e&&Bf ds e i)=true):
 CW live ds lo (i+1) t ((T.set (path e) tm (some (nth lo i))).get (path t))=CW live ds lo i t (tm.get (path t)):=by
 rw[U8] at hf;have hi:=iZ.1 hf.2;rw[V9];by_cases h:e=t
 ·subst h;rw[if_pos rfl];unfold CW;rw[hi];dsimp only;rw[if_neg (fun q=>absurd q.2 (by omega)),if_pos ⟨hf.1,M8 _⟩]
 ·rw[if_neg h];refine Yt fun _ hj=>?_;have h1:=VG hj;have h2:=VG hi;grind
theorem uP{ds:List (Option Tmp)}{i:Nat}{d:Option Tmp}{t:Tmp}(hd:ds[i]?=some d)(hf:∀e,d=some e→(CZ live e&&Bf ds e i)=false):
 CW live ds lo (i+1) t AM=CW live ds lo i t AM:=by
 refine Yt fun hl hj=>?_;have h1:=VG hj;rw[hd] at h1;cases h1;have:=hf t rfl;rw[iZ.2 hj,bm] at this;exact absurd hl (by unfold CZ at this;simp[this])
theorem A7K{ds:List (Option Tmp)}{i:Nat}{t:Tmp}(h:ds.length≤i):CW live ds lo i t AM=AM:=by
 unfold CW;cases hj:idx ds t with
 | none=>rfl
 | some j =>
  have:=(Fe.1 (VG hj)).1;grind
theorem ABI{ds:List (Option Tmp)}:∀(r:List (Option Tmp)) (i:Nat) (tm:T A0),ds.drop i=r→∀t,
 (CP live ds lo r i tm).get (path t)=CW live ds lo i t (tm.get (path t)):=by
 intro r;induction r with
 | nil =>
  intro i tm hr t;rw[A7K (by simp_all)];rfl
 | cons d r ih =>
  intro i tm hr t;have hd:ds[i]?=some d:=by have:=congrArg (fun l=>l[0]?) hr;simpa using this
  have hr':ds.drop (i+1)=r:=by have:=congrArg (List.drop 1) hr;simpa[A5l,ik] using this
  cases d with
  | none =>
   show(CP live ds lo r (i+1) tm).get (path t)=_;rw[ih (i+1) tm hr' t,uP hd (fun e he=>by cases he)]
  | some e =>
   show(bif CZ live e&&Bf ds e i then CP live ds lo r (i+1) (T.set (path e) tm (some (nth lo i))) else CP live ds lo r (i+1) tm).get (path t)=_;cases hf:(CZ live e&&Bf ds e i) with
   | true=>rw[cond_true,ih (i+1) _ hr' t];exact ADA hf
   | false=>rw[cond_false,ih (i+1) _ hr' t,uP hd (fun e' he=>by cases he;exact hf)]
theorem A5D{ds:List (Option Tmp)}{tm':T A0}{tmps:Array A0}(h:Env f ds lo tm tmps)(hd:∀t,bit live t=false→tm.get (path t)=none)(hs:tmps.size=nt)(ht:∀t,tm'.get (path t)=CW live ds lo 0 t (tm.get (path t))):Inv live nt f tm' tmps:=by
 refine⟨fun t=>⟨fun i hi=>(by cases hi),fun _ v hv=>?_⟩,fun t hl=>?_,hs⟩
 · rw[ht] at hv;unfold CW at hv;cases hj:idx ds t with
   | none=>rw[hj] at hv;exact(h t).2 hj v hv
   | some j =>
    rw[hj] at hv;dsimp only at hv;by_cases hl:bit live t=true
    ·rw[if_pos ⟨hl,BB _⟩] at hv;cases hv;exact(h t).1 j hj
    grind
 ·rw[ht];unfold CW;grind
theorem A2M{ds:List (Option Tmp)}{tmps:Array A0}(h:Env f ds lo tm tmps)(hd:∀t,bit live t=false→tm.get (path t)=none)(hs:tmps.size=nt):
 Inv live nt f (Fl.go (live,ds) lo tm) tmps:=A5D h hd hs fun t=>ABI ds 0 tm rfl t
theorem eU{ds:List (Option Tmp)}:∀(r:List (Option Tmp)) (i:Nat) (tm:T A0),Hb (Ed live ds r i) A7 lo tm df h=.ok .normal (CP live ds lo r i tm) df h:=by
 intro r;induction r with
 | nil=>intro i tm;rfl
 | cons d r ih =>
  intro i tm;cases d with
  | none=>exact ih (i+1) tm
  | some t =>
   show Hb (bif CZ live t&&Bf ds t i then .flush i (path t) (Ed live ds r (i+1)) else Ed live ds r (i+1)) A7 lo tm df h=.ok .normal (bif CZ live t&&Bf ds t i then CP live ds lo r (i+1) (T.set (path t) tm (some (nth lo i))) else CP live ds lo r (i+1) tm) df h;cases CZ live t&&Bf ds t i with
   | true =>
    show T.Gy (path t) tm (some (nth lo i)) (fun tm=>Hb (Ed live ds r (i+1)) A7 lo tm df h)=_;rw[T.X9,ih];rfl
   | false=>exact ih (i+1) tm
theorem AFp{gs:List Nat}{ds:List (Option Tmp)}{o:Oper}{co:CO}{a:Act}{w:World}{rest:CL}{K:(Exit→Act→World→Prop)→Act→World→Prop}(hcall:S9 P gs A7)(hc:A9D P gs ds o co)(hG:Dr gs f)(hE:Env f ds lo tm a.tmps)(hd:∀t,bit live t=false→tm.get (path t)=none)(hs:a.tmps.size=nt)(hr:Z6 f h w)(hD:SA f df a.defers)(hdst:∀t,o.dst=some t→t<nt)(ih:∀v v' h1 f1 w1,L5 f h w f1 h1 w1→L6 h h1→Env f1 (o.dst::ds) (v::lo) tm (a.put o.dst v').tmps→Z6 f1 h1 w1→SA f1 df (a.put o.dst v').defers→SG live nt f1 h1 w1 (Hb rest A7 (v::lo) tm df h1) (fun Q=>K Q (a.put o.dst v') w1)):
 SG live nt f h w (AUJ (live,ds) co (Hb rest) A7 lo tm df h) (fun Q=>o.wp P a w (K Q) Q):=by
 have hdst':∀t,o.dst=some t→t<a.tmps.size:=fun t ht=>by rw[hs];exact hdst t ht
 have key:∀v h1,(∀next Q,(∀f' v' w',L6 h h1→L5 f h w f' h1 w'→F5 f' v v'→next (a.put o.dst v') w')→o.wp P a w next Q)→SG live nt f h w (Hb rest A7 (v::lo) tm df h1) (fun Q=>o.wp P a w (K Q) Q):=fun v h1 hop=>by
  have hrest:∀f' v' w',L6 h h1→L5 f h w f' h1 w'→F5 f' v v'→SG live nt f' h1 w' (Hb rest A7 (v::lo) tm df h1) (fun Q=>K Q (a.put o.dst v') w'):=fun f' v' w' hA hC hV =>
   ih v v' h1 f' w' hC hA (Env.cons (hE.mono hC.le) hV hdst') hC.rel (by rw[put_defers];exact hD.mono hC.le)
  revert hrest;cases Hb rest A7 (v::lo) tm df h1 with
  | none=>intro _;trivial
  | ok e tm' df' h' =>
   intro hrest Q hQ;refine hop (K Q) Q fun f' v' w' hA hC hV=>hrest f' v' w' hA hC hV Q fun f2 e2 a2 w2 hA2 hC2 hI hDD hX=>?_;exact hQ f2 e2 a2 w2 (hA.trans hA2) (hC.trans hA hA2 hC2) hI hDD hX
 have pure:∀v,(∃v',(execOp a.eval o).run P w=.ok (.value v') w∧F5 f v v')→SG live nt f h w (Hb rest A7 (v::lo) tm df h) (fun Q=>o.wp P a w (K Q) Q):=fun v ⟨v',h1,h2⟩ =>
  key v h fun next Q hk=>by unfold Oper.wp;rw[h1];exact hk f v' w (L6.refl h) (L5.refl hr) h2
 cases co with
 | p fn =>
  show SG live nt f h w (R5 (fn lo tm) (fun v=>Hb rest A7 (v::lo) tm df h) .none) _;cases hv:fn lo tm with
  | none=>trivial
  | some v=>exact pure v (hc lo tm v hv f a w hG hE)
 | r fn =>
  have h1:Mk P f a o w (fn lo tm):=hc lo tm f a w hG hE;show SG live nt f h w (ANB h (fn lo tm) (fun v=>Hb rest A7 (v::lo) tm df h)) _;revert h1;cases fn lo tm with
  | none=>intro _;trivial
  | val v=>intro h1;exact pure v h1
  | read b g =>
   intro⟨i,hi,h1⟩;show SG live nt f h w (R5 (h.bl.get (path b)) (fun ob=>R5 (g ob) (fun v=>Hb rest A7 (v::lo) tm df h) .none) .none) _;cases hb:h.bl.get (path b) with
   | none=>trivial
   | some ob =>
    show SG live nt f h w (R5 (g ob) (fun v=>Hb rest A7 (v::lo) tm df h) .none) _;cases hg:g ob with
    | none=>trivial
    | some v =>
     obtain⟨x,hx,hor⟩:=hr.obj b ob i hi hb;exact pure v (h1 ob v x hg hx hor)
 | g fn =>
  have h1:J9 P f h w a o (fn A7 lo tm h):=hc A7 hcall lo tm f h a w hG hE hr;show SG live nt f h w (A5J (Fl.go (live,ds) lo tm) df (fun v h=>Hb rest A7 (v::lo) tm df h) (fn A7 lo tm h)) _;revert h1;cases fn A7 lo tm h with
  | none=>intro _;trivial
  | val v h1=>intro hg;exact key v h1 hg
  | panic c h1 =>
   intro hg Q hQ;exact hg (K Q) Q fun f' c' w' hA hC hch=>hQ f' _ a w' hA hC (A2M (hE.mono hC.le) hd hs) (hD.mono hC.le) (.panic hch)
end
section
variable {P:Program}
theorem zH(fl:Fl)(co:CO)(r:CL):Hb (A52 fl co r)=AUJ fl co (Hb r):=by cases co<;>rfl
theorem yL(h:F5 f v v')(y n z:R):(∃b,v'=.bool b∧AP v want y n z=if b=want then y else n)∨((∃xs,v'=.tuple xs)∧AP v want y n z=n)∨AP v want y n z=z:=by
 cases h with
 | bool b=>refine .inl ⟨b,rfl,?_⟩;cases b<;>cases want<;>rfl
 | tuple a a' hs h=>exact .inr (.inl ⟨⟨a',rfl⟩,rfl⟩)
 | _=>exact .inr (.inr rfl)
theorem ji{o:Oper}{a:Act}{j:Nat}{d:Tmp}(hg:o.guard=some (j,want))(hd:(ops[j]?).bind (·.dst)=some d)(hv:a.tmps.getD d undef=.bool b):Region.wanted o (yielded ops a.tmps)=(b == want):=by
 have ht:a.tmps[d]?=some (.bool b):=by
  rw[gS] at hv;cases h:a.tmps[d]? with
  | none=>rw[h] at hv;cases hv
  | some v=>rw[h] at hv;cases hv;rfl
 unfold Region.wanted yielded;grind
theorem aQ{o:Oper}{a:Act}{j:Nat}{d:Tmp}{xs:Array A0}(hg:o.guard=some (j,want))(hd:(ops[j]?).bind (·.dst)=some d)(hv:a.tmps.getD d undef=.tuple xs):Region.wanted o (yielded ops a.tmps)=false:=by
 have ht:a.tmps[d]?=none∨∃xs,a.tmps[d]?=some (.tuple xs):=by rw[gS] at hv;grind
 unfold Region.wanted yielded;grind
theorem SG.mono{w:World}{wp':(Exit→Act→World→Prop)→Prop}(hk:SG live nt f h w r wp)(hw:∀Q,wp Q→wp' Q):SG live nt f h w r wp':=by
 cases r with
 | none=>trivial
 | ok e tm df h'=>exact fun Q hQ=>hw Q (hk Q hQ)
theorem AUo(hX:SW P cx)(hcall:S9 P cx.gs A7):∀(l:List Oper) (k:Nat) (ds:List (Option Tmp)),ops.toList.drop k=l →
 ∀(lo:List A0) (tm:T A0) (df:Df) (h:Hp) (f:Map) (a:Act) (w:World),Dr cx.gs f→Env f ds lo tm a.tmps→(∀t,bit live t=false→tm.get (path t)=none)→a.tmps.size=nt→Z6 f h w→SA f df a.defers →
 SG live nt f h w (Hb (Lz P cx live nt ops l ds) A7 lo tm df h) (fun Q=>wpOps P ops Q (List.range' k l.length) a w):=by
 intro l;induction l with
 | nil =>
  intro k ds _ lo tm df h f a w hG hE hd hs hr hD;show SG live nt f h w (Hb (Ed live ds ds 0) A7 lo tm df h) _;rw[eU];intro Q hQ;exact hQ f .normal a w (L6.refl h) (L5.refl hr) (A2M hE hd hs) hD .normal
 | cons o l ih =>
  intro k ds hk lo tm df h f a w hG hE hd hs hr hD;have hok:ops[k]?=some o:=by have:=congrArg (fun l=>l[0]?) hk;simpa using this
  have hk':ops.toList.drop (k+1)=l:=by have:=congrArg (List.drop 1) hk;simpa[A5l,ik] using this
  have hwp:∀Q,wpOps P ops Q (List.range' k (o::l).length) a w=(if Region.wanted o (yielded ops a.tmps) then o.wp P a w (wpOps P ops Q (List.range' (k+1) l.length)) Q∨(o.asks P a w∧LetsOut Q) else wpOps P ops Q (List.range' (k+1) l.length) (a.put o.dst undef) w):=fun Q=>by rw[Gn,List.range'_succ];simp only[wpOps,hok]
  have hcons:Lz P cx live nt ops (o::l) ds=bif Gu nt o.dst then(match o.guard with
   | none=>(match o.op with
    | .defer cl=>(match cl.callee with
     | .value f=>.AR7 (C3 cx.gs ds f) (cl.args.toList.map (C3 cx.gs ds)) (Lz P cx live nt ops l (o.dst::ds))
     | _=>.bad)
    | _=>A52 (live,ds) (OS P cx ds o) (Lz P cx live nt ops l (o.dst::ds)))
   | some (j,want)=>match (ops[j]?).bind (·.dst) with
    | some d=>.guard (live,ds) (C3 cx.gs ds (.tmp d)) want (OS P cx ds o) (Lz P cx live nt ops l (o.dst::ds))
    | none=>.bad) else .bad:=rfl
  rw[hcons];cases hdst:Gu nt o.dst with
  | false=>trivial
  | true =>
  have hdst':∀t,o.dst=some t→t<nt:=fun t ht=>by unfold Gu at hdst;simp_all
  have hdst2:∀t,o.dst=some t→t<a.tmps.size:=fun t ht=>by rw[hs];exact hdst' t ht
  rw[cond_true];have hop:SG live nt f h w (AUJ (live,ds) (OS P cx ds o) (Hb (Lz P cx live nt ops l (o.dst::ds))) A7 lo tm df h) (fun Q=>o.wp P a w (wpOps P ops Q (List.range' (k+1) l.length)) Q) :=
   AFp (K:=fun Q=>wpOps P ops Q (List.range' (k+1) l.length)) hcall (A0X hX) hG hE hd hs hr hD hdst' fun v v' h1 f1 w1 hC hA hE1 hr1 hD1 =>
    ih (k+1) (o.dst::ds) hk' (v::lo) tm df h1 f1 (a.put o.dst v') w1 (hG.mono hC.le) hE1 hd (by rw[DB];exact hs) hr1 hD1
  cases hg:o.guard with
  | none =>
   have hwant:Region.wanted o (yielded ops a.tmps)=true:=by unfold Region.wanted;rw[hg]
   have hw2:∀Q,wpOps P ops Q (List.range' k (o::l).length) a w=(o.wp P a w (wpOps P ops Q (List.range' (k+1) l.length)) Q∨(o.asks P a w∧LetsOut Q)):=fun Q=>by rw[hwp,if_pos hwant]
   dsimp only;split
   · rename_i cl hcl;split
     · rename_i x hx;show SG live nt f h w (AFi (G4 (C3 cx.gs ds x) lo tm) (fun g first cap=>Hb (Lz P cx live nt ops l (o.dst::ds)) A7 (undef::lo) tm ((g,first++(XW (cl.args.toList.map (C3 cx.gs ds)) lo tm++cap))::df) h) .none) _;have hxr:=F0 hG hE x;have hlr:=Jl hG hE cl.args.toList;rcases ABu (G4 (C3 cx.gs ds x) lo tm) (fun g first cap=>Hb (Lz P cx live nt ops l (o.dst::ds)) A7 (undef::lo) tm ((g,first++(XW (cl.args.toList.map (C3 cx.gs ds)) lo tm++cap))::df) h) N7.none with⟨g,fi,cp,e,h1⟩|h1
       · rw[h1];rw[e] at hxr;obtain⟨fi',cp',hxe,hf1,hc1⟩:=hxr.ABO;have hrun:(execOp a.eval o).run P w=.ok (.defer { target:=.fn (.func g) cp',args:=fi'++cl.args.map a.eval }) w:=by
          obtain⟨callee,args,ats⟩:=cl;dsimp only at hx;subst hx;simp[execOp,hcl,resolve,hxe,Deferred.ofValue]
         have:=ih (k+1) (o.dst::ds) hk' (undef::lo) tm ((g,fi.toList++(XW (cl.args.toList.map (C3 cx.gs ds)) lo tm++cp.toList))::df) h f ({ a with defers:={ target:=.fn (.func g) cp',args:=fi'++cl.args.map a.eval }::a.defers }.put o.dst undef) w hG
          (Env.cons (a:={ a with defers:={ target:=.fn (.func g) cp',args:=fi'++cl.args.map a.eval }::a.defers }) hE (F5.undef f) hdst2) hd (by rw[DB];exact hs) hr (by
            rw[put_defers];refine .cons cp' rfl ?_ hD;have:=hf1.append (hlr.append hc1);simp_all)
         refine this.mono fun Q hQ=>?_;rw[hw2];refine .inl ?_;unfold Oper.wp;rw[hrun];exact hQ
       ·rw[h1];trivial
     ·trivial
   ·rw[zH];exact hop.mono fun Q hQ=>by rw[hw2];exact .inl hQ
  | some p =>
   obtain⟨j,want⟩:=p;dsimp only;cases hd2:(ops[j]?).bind (·.dst) with
   | none=>trivial
   | some d =>
    show SG live nt f h w (AP (G4 (C3 cx.gs ds (.tmp d)) lo tm) want (AUJ (live,ds) (OS P cx ds o) (Hb (Lz P cx live nt ops l (o.dst::ds))) A7 lo tm df h) (Hb (Lz P cx live nt ops l (o.dst::ds)) A7 (undef::lo) tm df h) .none) _;have hskip:SG live nt f h w (Hb (Lz P cx live nt ops l (o.dst::ds)) A7 (undef::lo) tm df h) (fun Q=>wpOps P ops Q (List.range' (k+1) l.length) (a.put o.dst undef) w):=ih (k+1) (o.dst::ds) hk' (undef::lo) tm df h f (a.put o.dst undef) w hG (Env.cons hE (F5.undef f) hdst2) hd (by rw[DB];exact hs) hr (by rw[put_defers];exact hD)
    have hgr:F5 f (G4 (C3 cx.gs ds (.tmp d)) lo tm) (a.tmps.getD d undef):=F0 hG hE (.tmp d);rcases yL (want:=want) hgr (AUJ (live,ds) (OS P cx ds o) (Hb (Lz P cx live nt ops l (o.dst::ds))) A7 lo tm df h) (Hb (Lz P cx live nt ops l (o.dst::ds)) A7 (undef::lo) tm df h) .none with⟨b,hb,h1⟩|⟨⟨ys,hb⟩,h1⟩|h1
    · rw[h1];have hwant:=ji (o:=o) (a:=a) hg hd2 hb;by_cases hbw:b=want
      ·rw[if_pos hbw];refine hop.mono fun Q hQ=>?_;grind
      grind
    ·rw[h1];have hwant:=aQ (o:=o) (a:=a) hg hd2 hb;grind
    ·rw[h1];trivial
theorem AGk{id:Nat}(hX:SW P cx)(hcall:S9 P cx.gs A7){a:Act}{w:World}(hG:Dr cx.gs f)(hI:Inv live nt f tm a.tmps)(hr:Z6 f h w)(hD:SA f df a.defers):
 SG live nt f h w (Hb (Lz P cx live nt ops ops.toList []) A7 [] tm df h) (fun Q=>(Code.region id ops false).wp P Q a w):=by
 refine(AUo (cx:=cx) (ops:=ops) hX hcall ops.toList 0 [] rfl [] tm df h f a w hG hI.env hI.dead hI.size hr hD).mono fun Q hQ=>?_;refine wp_region ?_;rw[List.range_eq_range'];simpa using hQ
end
section
variable {P:Program}
def QL(P:Program)(cx:Cx):Prop:=∀(live nt id:Nat) (ops:Array Oper) (A7:Call),S9 P cx.gs A7→∀(tm:T A0) (df:Df) (h:Hp) (f:Map) (a:Act) (w:World),Dr cx.gs f→Inv live nt f tm a.tmps→Z6 f h w→SA f df a.defers →
 SG live nt f h w (Dx (Cb P cx live nt (.region id ops true)) A7 tm df h) (fun Q=>(Code.region id ops true).wp P Q a w)
theorem SG.seq{w:World}{wp1:(Exit→Act→World→Prop)→Prop}{kn:T A0→Df→Hp→N7}{nx:(Exit→Act→World→Prop)→Act→World→Prop}(h1:SG live nt f h w r wp1)(hn:∀tm df h1 f1 a1 w1,L6 h h1→L5 f h w f1 h1 w1→Inv live nt f1 tm a1.tmps→SA f1 df a1.defers→SG live nt f1 h1 w1 (kn tm df h1) (fun Q=>nx Q a1 w1))(hw:∀Q,wp1 (Exit.then (nx Q) Q)→wp Q):SG live nt f h w (Lt r kn (fun i tm df h=>.ok (.exit i) tm df h)) wp:=by
 cases r with
 | none=>trivial
 | ok e tm df h' =>
  cases e with
  | normal =>
   show SG live nt f h w (kn tm df h') wp;have hn':=hn tm df h';revert hn';cases kn tm df h' with
   | none=>intro _;trivial
   | ok e2 tm2 df2 h2 =>
    intro hn' Q hQ;refine hw Q (h1 _ fun f' e' a' w' hA hC hI hD hX=>?_);cases hX;exact hn' f' a' w' hA hC hI hD Q fun f2 e2 a2 w2 hA2 hC2 hI2 hD2 hX2=>hQ f2 e2 a2 w2 (hA.trans hA2) (hC.trans hA hA2 hC2) hI2 hD2 hX2
  | exit i=>exact fun Q hQ=>hw Q (h1 _ fun f' e' a' w' hA hC hI hD hX=>by cases hX;exact hQ f' _ a' w' hA hC hI hD (.exit i))
  | ret=>exact fun Q hQ=>hw Q (h1 _ fun f' e' a' w' hA hC hI hD hX=>by cases hX;exact hQ f' _ a' w' hA hC hI hD .ret)
  | panic c=>exact fun Q hQ=>hw Q (h1 _ fun f' e' a' w' hA hC hI hD hX=>by cases hX with | panic hc=>exact hQ f' _ a' w' hA hC hI hD (.panic hc))
def rF(P:Program)(c:Code)(Q:Exit→Act→World→Prop)(a:Act)(w:World):Prop:=∀(b:Frame) (k:List Item) (cs:List Frame),∃e a' w',Q e a' w'∧Arrives P (lone (b.at a (.code c::.inLoop c::k)) cs w) b k cs e a' w'
theorem AA7{c:Code}{a:Act}{w:World}(h:c.wp P (Exit.then (rF P c Q) Q) a w):rF P c Q a w:=by
 intro b k cs;obtain⟨e,a₁,w₁,hq,harr⟩:=h b (.inLoop c::k) cs;cases e with
 | normal =>
  obtain⟨e₂,a₂,w₂,hq₂,harr₂⟩:=hq b k cs;exact⟨e₂,a₂,w₂,hq₂,.of_steps (Steps.trans harr (.one step_inLoop)) harr₂⟩
 | exit id=>exact⟨_,a₁,w₁,hq,.pass (x:=.inLoop c) rfl (fun _ _=>.inl (by simp)) harr⟩
 | goto l=>exact⟨_,a₁,w₁,hq,.pass (x:=.inLoop c) rfl (fun _ _=>.inl (by simp)) harr⟩
 | ret=>exact⟨_,a₁,w₁,hq,.pass (x:=.inLoop c) rfl (fun _ _=>.inl (by simp)) harr⟩
 | panic ch=>exact⟨_,a₁,w₁,hq,.pass (x:=.inLoop c) rfl (fun _ _=>.inl (by simp)) harr⟩
 | outgrown=>exact⟨_,a₁,w₁,hq,.pass (x:=.inLoop c) rfl (fun _ _=>.inl (by simp)) harr⟩
theorem APL{c:Code}{a:Act}{w:World}(h:rF P c Q a w):(Code.loop c).wp P Q a w:=fun b k cs =>
 let ⟨e,a',w',hq,harr⟩:=h b k cs;⟨e,a',w',hq,.of_steps (.one step_loop) harr⟩
theorem AEh(hX:SW P cx)(hdraw:QL P cx)(hcall:S9 P cx.gs A7):∀(c:Code) (tm:T A0) (df:Df) (h:Hp) (f:Map) (a:Act) (w:World),Dr cx.gs f→Inv live nt f tm a.tmps→Z6 f h w→SA f df a.defers →
 SG live nt f h w (Dx (Cb P cx live nt c) A7 tm df h) (fun Q=>c.wp P Q a w):=by
 intro c;induction c with
 | skip =>
  intro tm df h f a w hG hI hr hD;exact fun Q hQ=>wp_skip (hQ f .normal a w (L6.refl h) (L5.refl hr) hI hD .normal)
 | region id ops draw =>
  intro tm df h f a w hG hI hr hD;cases draw with
  | true=>exact hdraw live nt id ops A7 hcall tm df h f a w hG hI hr hD
  | false=>exact AGk hX hcall hG hI hr hD
 | seq x y ihx ihy =>
  intro tm df h f a w hG hI hr hD;exact SG.seq (nx:=fun Q a w=>y.wp P Q a w) (ihx tm df h f a w hG hI hr hD) (fun tm df h1 f1 a1 w1 hA hC hI1 hD1=>ihy tm df h1 f1 a1 w1 (hG.mono hC.le) hI1 hC.rel hD1) (fun Q h=>wp_seq h)
 | cond c x y ihx ihy =>
  intro tm df h f a w hG hI hr hD;have hc:=F0 hG hI.env c;show SG live nt f h w (Cq (G4 (C3 cx.gs [] c) [] tm) (fun b'=>Bool.rec (motive:=fun _=>N7) (Dx (Cb P cx live nt y) A7 tm df h) (Dx (Cb P cx live nt x) A7 tm df h) b') .none) _;rcases Lr (G4 (C3 cx.gs [] c) [] tm) (fun b'=>Bool.rec (motive:=fun _=>N7) (Dx (Cb P cx live nt y) A7 tm df h) (Dx (Cb P cx live nt x) A7 tm df h) b') .none with⟨b,e,h1⟩|h1
  · rw[h1];rw[e] at hc;have hb:=hc.Mo;cases b with
    | true=>exact(ihx tm df h f a w hG hI hr hD).mono fun Q hQ=>wp_cond hb hQ
    | false=>exact(ihy tm df h f a w hG hI hr hD).mono fun Q hQ=>wp_cond hb hQ
  ·rw[h1];trivial
 | block id b ih =>
  intro tm df h f a w hG hI hr hD;have h1:=ih tm df h f a w hG hI hr hD;show SG live nt f h w (Lt (Dx (Cb P cx live nt b) A7 tm df h) (fun tm df h=>.ok .normal tm df h) (fun i tm df h=>bif Nat.beq i id then .ok .normal tm df h else .ok (.exit i) tm df h)) _;revert h1;cases Dx (Cb P cx live nt b) A7 tm df h with
  | none=>intro _;trivial
  | ok e tm1 df1 h1 =>
   intro hk;cases e with
   | normal=>exact fun Q hQ=>wp_block (hk _ fun f' e' a' w' hA hC hI hD hX=>by cases hX;exact hQ f' .normal a' w' hA hC hI hD .normal)
   | ret=>exact fun Q hQ=>wp_block (hk _ fun f' e' a' w' hA hC hI hD hX=>by cases hX;exact hQ f' .ret a' w' hA hC hI hD .ret)
   | panic c=>exact fun Q hQ=>wp_block (hk _ fun f' e' a' w' hA hC hI hD hX=>by cases hX with | panic hc=>exact hQ f' _ a' w' hA hC hI hD (.panic hc))
   | exit i =>
    show SG live nt f h w (bif Nat.beq i id then .ok .normal tm1 df1 h1 else .ok (.exit i) tm1 df1 h1) _;cases hi:Nat.beq i id with
    | true =>
     have:=T9 hi;subst this;exact fun Q hQ=>wp_block (hk _ fun f' e' a' w' hA hC hI hD hX=>by
      cases hX;show(if i=i then Q .normal a' w' else Q (.exit i) a' w');rw[if_pos rfl];exact hQ f' .normal a' w' hA hC hI hD .normal)
    | false =>
     have hne:=NF hi;exact fun Q hQ=>wp_block (hk _ fun f' e' a' w' hA hC hI hD hX=>by
      cases hX;show(if i=id then Q .normal a' w' else Q (.exit i) a' w');rw[if_neg hne];exact hQ f' (.exit i) a' w' hA hC hI hD (.exit i))
 | loop b ih =>
  intro tm df h f a w hG hI hr hD;have main:∀(n:Nat) (tm:T A0) (df:Df) (h:Hp) (f:Map) (a:Act) (w:World),Dr cx.gs f→Inv live nt f tm a.tmps→Z6 f h w→SA f df a.defers→SG live nt f h w (pf (Dx (Cb P cx live nt b)) n A7 tm df h) (fun Q=>rF P b Q a w):=by
   intro n;induction n with
   | zero=>intros;trivial
   | succ n ihn =>
    intro tm df h f a w hG hI hr hD;exact SG.seq (nx:=fun Q a w=>rF P b Q a w) (ih tm df h f a w hG hI hr hD) (fun tm df h1 f1 a1 w1 hA hC hI1 hD1=>ihn tm df h1 f1 a1 w1 (hG.mono hC.le) hI1 hC.rel hD1) (fun Q h=>AA7 h)
  exact(main 1000000 tm df h f a w hG hI hr hD).mono fun Q hQ=>APL hQ
 | exit id =>
  intro tm df h f a w hG hI hr hD;exact fun Q hQ=>wp_exit (hQ f (.exit id) a w (L6.refl h) (L5.refl hr) hI hD (.exit id))
 | ret =>
  intro tm df h f a w hG hI hr hD;exact fun Q hQ=>wp_ret (hQ f .ret a w (L6.refl h) (L5.refl hr) hI hD .ret)
 | _=>intros;trivial
end
section
variable {P:Program}
theorem AF2{tmps:Array A0}(hE:Env f [] [] tm tmps)(t:Tmp):F5 f (Qd (tm.get (path t))) (tmps.getD t undef):=by
 cases h:tm.get (path t) with
 | none=>exact .AK7 _
 | some v=>exact(hE t).2 rfl v h
def A67(tmps:Array A0):ResultVar→Sem A0
 | .tmp t=>pure (tmps.getD t undef)
 | .cell a t=>do loadVar t (← asAddr (tmps.getD a undef))
theorem AO2{tmps:Array A0}{w:World}{r:ResultVar}(hE:Env f [] [] tm tmps)(hr:Z6 f h w)(hk:Tn P [r]=true){c:CR}(hc:Jm P [r]=[c])(hv:Jh c tm h=some v):
 ∃v',(A67 tmps r).run P w=.ok v' w∧F5 f v v':=by
 cases r with
 | tmp t =>
  cases hc;cases hv;exact⟨tmps.getD t undef,rfl,AF2 hE t⟩
 | cell x t =>
  cases hc;have hkt:AIM P t=true:=by simpa[Tn] using hk
  obtain⟨d,hd⟩:=EN hkt;have hx:=AF2 hE x;have hv':FE (Qd (tm.get (path x))) (fun b o=>Is h b (fun c n _ _ _=>Bool.rec (motive:=fun _=>Option A0) (bif Nat.blt o n then c.get (path o) else none) (bif Nat.ble (Nat.add o (sz P t)) n then R5 (V6 c o (sz P t) []) (fun l=>some (.agg ⟨l⟩)) none else none) (T3 P t)) none) none=some v:=hv;rcases Ha (Qd (tm.get (path x))) (fun b o=>Is h b (fun c n _ _ _=>Bool.rec (motive:=fun _=>Option A0) (bif Nat.blt o n then c.get (path o) else none) (bif Nat.ble (Nat.add o (sz P t)) n then R5 (V6 c o (sz P t) []) (fun l=>some (.agg ⟨l⟩)) none else none) (T3 P t)) none) none with⟨ad,e,h1⟩|h1
  · rw[h1] at hv';rw[e] at hx;obtain⟨_,i,hi,hxe⟩:=hx.FK;rcases A1y h ad.block (fun c n _ _ _=>Bool.rec (motive:=fun _=>Option A0) (bif Nat.blt ad.off n then c.get (path ad.off) else none) (bif Nat.ble (Nat.add ad.off (sz P t)) n then R5 (V6 c ad.off (sz P t) []) (fun l=>some (.agg ⟨l⟩)) none else none) (T3 P t)) none with⟨c,n,e',cl,ro,hat,h2⟩|h2
    · rw[h2] at hv';obtain⟨ob,hob,hor⟩:=hr.obj _ _ i hi hat;cases hagg:T3 P t with
      | false =>
       rw[hagg] at hv';obtain⟨h3,h4⟩:=L7 hv';obtain⟨v',h5,h6⟩:=hor.cell hob (Nat.blt_eq.mp h3) h4;exact⟨v',by simp[A67,hxe,asAddr,loadVar,FR hagg hd,h5],h6⟩
      | true =>
       rw[hagg] at hv';obtain⟨h3,h4⟩:=L7 hv';obtain⟨l,hl,h4⟩:=V8 _ _ h4;cases h4;obtain⟨_,l',h5,_,h6⟩:=SR (P:=P) hor hob (Nat.ble_eq.mp h3) hl;exact⟨.agg l'.toArray,by simp[A67,hxe,asAddr,loadVar,Hm hagg,run_sizeOf hd,h6],F5.aj h5⟩
    ·rw[h2] at hv';cases hv'
  ·rw[h1] at hv';cases hv'
theorem AIc(r:ResultVar)(l:List ResultVar):∃c,Jm P (r::l)=c::Jm P l∧Jm P [r]=[c]:=by cases r<;>exact⟨_,rfl,rfl⟩
theorem AQi{tmps:Array A0}{w:World}(hE:Env f [] [] tm tmps)(hr:Z6 f h w):∀(l:List ResultVar) (vs:List A0),Tn P l=true→AJX (Jm P l) tm h=some vs→∃vs',(l.mapM (A67 tmps)).run P w=.ok vs' w∧M7 f vs vs':=by
 intro l;induction l with
 | nil=>intro vs _ hv;cases hv;exact⟨[],by simp,M7.nil f⟩
 | cons r l ih =>
  intro vs hk hv;obtain⟨c,hc,hc1⟩:=AIc (P:=P) r l;rw[hc] at hv;have hv':R5 (Jh c tm h) (fun v=>R5 (AJX (Jm P l) tm h) (fun l=>some (v::l)) none) none=some vs:=hv;obtain⟨v,h1,hv'⟩:=V8 _ _ hv';obtain⟨us,h2,hv'⟩:=V8 _ _ hv';cases hv';have hk2:Tn P [r]=true∧Tn P l=true:=by unfold Tn at hk ⊢;grind
  obtain⟨v',h3,h4⟩:=AO2 hE hr hk2.1 hc1 h1;obtain⟨us',h5,h6⟩:=ih us hk2.2 h2;exact⟨v'::us',by simp[List.mapM_cons,h3,h5],M7.cons h4 h6⟩
theorem AU5{tmps:Array A0}{w:World}(hE:Env f [] [] tm tmps)(hr:Z6 f h w)(hk:Tn P fn.results.toList=true)(hv:ud (Jm P fn.results.toList) tm h=.val v h'):
 h'=h∧∃v',(results fn tmps).run P w=.ok v' w∧F5 f v v':=by
 unfold ud at hv;cases hvs:AJX (Jm P fn.results.toList) tm h with
 | none=>rw[hvs] at hv;cases hv
 | some vs =>
  rw[hvs] at hv;obtain⟨vs',h1,h2⟩:=AQi hE hr _ vs hk hvs;have hres:(results fn tmps).run P w=.ok (if h:vs'.toArray.size=1 then vs'.toArray[0] else .tuple vs'.toArray) w:=by
   have e:results fn tmps=(do let vs ← fn.results.mapM (A67 tmps);pure (if h:vs.size=1 then vs[0] else .tuple vs)):=by rfl
   rw[e];simp[Array.mapM_eq_mapM_toList,h1]
  rw[hres];cases vs with
  | nil =>
   have:=h2.zZ;subst this;cases hv;exact⟨rfl,_,rfl,by constructor<;>grind⟩
  | cons x r =>
   obtain⟨x',r',rfl,hx,hrr⟩:=h2.Qe;cases r with
   | nil =>
    have:=hrr.zZ;subst this;cases hv;grind
   | cons y s =>
    obtain⟨y',s',rfl,hy,hs⟩:=hrr.Qe;cases hv;refine⟨rfl,_,rfl,?_⟩;have:=F5.KJ h2;simpa using this
inductive GP (f:Map):Md→FrameMode→Prop where
 | ret:GP f .ret .returning
 | Jj {c c':List PanicEntry} (h:ER f c c'):GP f (.Jj c) (.panicking c')
theorem GP.mono{g:Map}(hfg:f.le g){m:Md}{u:FrameMode}(h:GP f m u):GP g m u:=by
 cases h with
 | ret=>exact .ret
 | Jj h=>exact .Jj (h.mono hfg)
def after(e:Ending)(u:FrameMode):FrameMode:=match e with
 | .returned _=>settle u
 | .panicked c=>raised u c
 | .outgrown=>u
def ks(P:Program)(gs:List Nat)(cd:C9):Prop:=∀(g:FuncId) (args args':List A0) (m:Md) (u:FrameMode) (f:Map) (h:Hp) (w:World),Dr gs f→Z6 f h w→M7 f args args'→GP f m u→match cd g args m h with
 | .none=>True
 | .ok m' h'=>Enters P g∧CallsD P g args'.toArray u w fun e u' w'=>∃f',L6 h h'∧L5 f h w f' h' w'∧GP f' m' (after e u')∧e≠.outgrown
theorem AKf{gs:List Nat}{tmps:Array A0}(hcd:ks P gs cd)(hk:Tn P fn.results.toList=true):∀(df:Df) (ds:List Deferred) (m:Md) (u:FrameMode) (h:Hp) (f:Map) (w:World),Dr gs f→Z6 f h w→Inv live nt f tm tmps→SA f df ds→GP f m u →
 match leave cd (Jm P fn.results.toList) df tm m h with
 | .none=>True
 | .val v h'=>∀R:Ending→World→Prop,(∀f' v' w',L6 h h'→L5 f h w f' h' w'→F5 f' v v'→R (.returned v') w')→Leaves P fn tmps R ds u w
 | .panic c h'=>∀R:Ending→World→Prop,(∀f' c' w',L6 h h'→L5 f h w f' h' w'→ER f' c c'→R (.panicked c') w')→Leaves P fn tmps R ds u w:=by
 intro df;induction df with
 | nil =>
  intro ds m u h f w hG hr hI hD hM;cases hD;cases hM with
  | ret =>
   show match ud (Jm P fn.results.toList) tm h with|.none=>True|.val v h'=>_|.panic c h'=>_
   cases hx:ud (Jm P fn.results.toList) tm h with
   | none=>trivial
   | panic c h' =>
    exfalso;unfold ud at hx;cases hvs:AJX (Jm P fn.results.toList) tm h with
    | none=>rw[hvs] at hx;cases hx
    | some vs=>rw[hvs] at hx;cases vs with
     | nil=>cases hx
     | cons a b=>cases b<;>cases hx
   | val v h' =>
    obtain⟨rfl,v',h1,h2⟩:=AU5 hI.env hr hk hx;exact fun R hR=>⟨v',h1,hR f v' w (L6.refl _) (L5.refl hr) h2⟩
  | Jj hc=>exact fun R hR=>hR f _ w (L6.refl h) (L5.refl hr) hc
 | cons d df ih =>
  intro ds m u h f w hG hr hI hD hM;obtain⟨g,args⟩:=d;cases hD with
  | @cons _ _ dd _ ds' cap ht ha hDr =>
  have hc:=hcd g args _ m u f h w hG hr ha hM;show match (uW.rec (motive:=fun _=>N3) .none (leave cd (Jm P fn.results.toList) df tm) (cd g args m h)) with|.none=>True|.val v h'=>_|.panic c h'=>_
  revert hc;cases cd g args m h with
  | none=>intro _;trivial
  | ok m' h' =>
   intro⟨he,hc⟩;obtain⟨gfn,e1,e2,e3⟩:=he;rw[AAy] at hc;have hu:u≠.run:=by cases hM<;>simp
   have hinv:(invoke (.fn (.func g) cap) dd.args).run P w=.ok (.enter g (dd.args++cap)) w:=by
    have h4:gfn.name ≠ "runtime.NumGoroutine" := by simpa using e2
    simp[invoke,callFunc,e1,h4];grind
   have hdd:dd={ target:=.fn (.func g) cap,args:=dd.args }:=by cases dd;cases ht;rfl
   have rest:=fun f' (u':FrameMode) w' (hA:L6 h h') (hC:L5 f h w f' h' w') (hm:GP f' m' u')=>ih ds' m' u' h' f' w' (hG.mono hC.le) hC.rel (hI.mono hC.le) (hDr.mono hC.le) hm;show match leave cd (Jm P fn.results.toList) df tm m' h' with|.none=>True|.val v h'=>_|.panic c h'=>_
   revert rest;cases leave cd (Jm P fn.results.toList) df tm m' h' with
   | none=>intro _;trivial
   | val v h2 =>
    intro rest R hR;rw[hdd];refine leaves_cons hu hinv (CallsD.mono hc fun e u' w' he=>?_);obtain⟨f',hA,hC,hm,hne⟩:=he;cases e with
    | returned v0=>exact rest f' _ w' hA hC hm R fun f2 v2 w2 hA2 hC2 hv2=>hR f2 v2 w2 (hA.trans hA2) (hC.trans hA hA2 hC2) hv2
    | panicked c0=>exact rest f' _ w' hA hC hm R fun f2 v2 w2 hA2 hC2 hv2=>hR f2 v2 w2 (hA.trans hA2) (hC.trans hA hA2 hC2) hv2
    | outgrown=>exact absurd rfl hne
   | panic c h2 =>
    intro rest R hR;rw[hdd];refine leaves_cons hu hinv (CallsD.mono hc fun e u' w' he=>?_);obtain⟨f',hA,hC,hm,hne⟩:=he;cases e with
    | returned v0=>exact rest f' _ w' hA hC hm R fun f2 v2 w2 hA2 hC2 hv2=>hR f2 v2 w2 (hA.trans hA2) (hC.trans hA hA2 hC2) hv2
    | panicked c0=>exact rest f' _ w' hA hC hm R fun f2 v2 w2 hA2 hC2 hv2=>hR f2 v2 w2 (hA.trans hA2) (hC.trans hA hA2 hC2) hv2
    | outgrown=>exact absurd rfl hne
end
section
variable {P:Program}
theorem Kr(l:List A0)(i:Nat)(t:T A0)(k:T A0→R):WT l i t k=C7 l i t k:=rfl
theorem YN{t:Nat}(h:Fj live na=true)(ht:t<na):bit live t=true:=by unfold Fj at h;grind
theorem A07{args args':List A0}(hl:M7 f args args')(hna:args.length=na)(hnt:na≤nt)(hok:Fj live na=true):
 Inv live nt f (C7 args 0 .nil fun t=>t) (args'.toArray++Array.replicate (nt-args'.toArray.size) undef):=by
 have hsz:args'.length=na:=by rw[←hl.1];exact hna
 refine⟨fun t=>⟨fun i hi=>(by cases hi),fun _ v hv=>?_⟩,fun t ht=>?_,?_⟩
 · rw[Eh] at hv;split at hv
   · rename_i h1;obtain⟨v',h2,h3⟩:=hl.2 t v (by simpa using hv);have h4:@LT.lt Nat _ t args'.toArray.size:=by
      grind
     have h5:(args'.toArray++Array.replicate (nt-args'.toArray.size) undef).getD t undef=v':=by rw[gS,Array.getElem?_append_left h4];simp[h2]
     rw[h5];exact h3
   ·cases hv
 · rw[Eh];split
   ·rename_i h1;have:=YN hok (t:=t) (by omega);rw[ht] at this;cases this
   ·rfl
 ·simp[hsz];omega
theorem AEz(hX:SW P cx)(hdraw:QL P cx)(hcall:S9 P cx.gs A7)(hcd:ks P cx.gs cd):S9 P cx.gs (fun g args h=>G8 (cF P cx g) A7 cd args h):=by
 intro g args args' f h w hG hr hl;show match G8 (cF P cx g) A7 cd args h with|.none=>True|.val v h'=>_|.panic c h'=>_
 have hcF:cF P cx g=match P.funcs[g]? with
  | some fn=>match fn.body with
   | some c=>bif fn.name == "runtime.NumGoroutine" then .bad else C8 (reads c (xx (A2d fn.results.toList) (Nat.sub (Nat.pow 2 (fn.params.size+fn.nfree)) 1))) fun live =>
    bif Fj live (fn.params.size+fn.nfree)&&Tn P fn.results.toList then .mk fn.ntmps (fn.params.size+fn.nfree) (Cb P cx live fn.ntmps c) (Jm P fn.results.toList) else .bad
   | none=>.bad
  | none=>.bad:=rfl
 rw[hcF];cases hfn:P.funcs[g]? with
 | none=>trivial
 | some fn =>
 cases hb:fn.body with
 | none=>dsimp only;rw[hb];trivial
 | some c =>
 dsimp only;rw[hb];dsimp only;cases hname:(fn.name == "runtime.NumGoroutine") with
 | true=>trivial
 | false =>
 rw[cond_false,C1];generalize reads c (xx (A2d fn.results.toList) (Nat.sub (Nat.pow 2 (fn.params.size+fn.nfree)) 1))=live;generalize fn.params.size+fn.nfree=na;cases hok:(Fj live na&&Tn P fn.results.toList) with
 | false=>trivial
 | true =>
 rw[U8] at hok;obtain⟨ho1,ho2⟩:=hok;show match (bif Nat.beq (len args) na&&Nat.ble na fn.ntmps then WT args 0 .nil fun tm=>N7.rec (motive:=fun _=>N3) .none (fun e tm df h=>Ex.rec (motive:=fun _=>N3) (leave cd (Jm P fn.results.toList) df tm .ret h) (fun _=>.none) (leave cd (Jm P fn.results.toList) df tm .ret h) (fun c=>leave cd (Jm P fn.results.toList) df tm (.Jj c) h) e) (Dx (Cb P cx live fn.ntmps c) A7 tm [] h) else .none) with|.none=>True|.val v h'=>_|.panic c h'=>_
 cases hn:(Nat.beq (len args) na&&Nat.ble na fn.ntmps) with
 | false=>trivial
 | true =>
 rw[U8] at hn;have hn1:=T9 hn.1;have hn2:=Nat.ble_eq.mp hn.2;rw[R4] at hn1;rw[cond_true,Kr,AK];have hent:Enters P g:=⟨fn,hfn,hname,by rw[hb];rfl⟩
 have hI:=A07 hl hn1 hn2 ho1;have hcode:=AEh (live:=live) (nt:=fn.ntmps) hX hdraw hcall c (C7 args 0 .nil fun t=>t) [] h f { tmps:=args'.toArray++Array.replicate (fn.ntmps-args'.toArray.size) undef,defers:=[] } w hG hI hr .nil;revert hcode;cases Dx (Cb P cx live fn.ntmps c) A7 (C7 args 0 .nil fun t=>t) [] h with
 | none=>intro _;trivial
 | ok e tm1 df1 h1 =>
  intro hcode;have fin:∀(m:Md) (hm:∀R,∀f' e' (a':Act) w',ADN f' e e'→(∀u,GP f' m u→Leaves P fn a'.tmps R a'.defers u w')→bodyPostD P fn R e' a' w'),
   match leave cd (Jm P fn.results.toList) df1 tm1 m h1 with
   | .none=>True
   | .val v h'=>Enters P g∧Calls P g args'.toArray w fun | .returned v',w'=>∃f',L6 h h'∧L5 f h w f' h' w'∧F5 f' v v' | _,_=>False
   | .panic c h'=>Enters P g∧Calls P g args'.toArray w fun | .panicked c',w'=>∃f',L6 h h'∧L5 f h w f' h' w'∧ER f' c c' | _,_=>False:=fun m hm=>by
   have hlv:=fun f' (a':Act) w' (hA:L6 h h1) (hC:L5 f h w f' h1 w') (hI1:Inv live fn.ntmps f' tm1 a'.tmps) (hD1:SA f' df1 a'.defers) (u:FrameMode) (hu:GP f' m u) =>
    AKf (P:=P) (fn:=fn) hcd ho2 df1 a'.defers m u h1 f' w' (hG.mono hC.le) hC.rel hI1 hD1 hu
   revert hlv;cases leave cd (Jm P fn.results.toList) df1 tm1 m h1 with
   | none=>intro _;trivial
   | val v h2 =>
    intro hlv;refine⟨hent,calls_of_wp_defers hfn hb (hcode _ fun f' e' a' w' hA hC hI1 hD1 hX=>hm _ f' e' a' w' hX fun u hu=>?_)⟩;exact hlv f' a' w' hA hC hI1 hD1 u hu _ fun f2 v2 w2 hA2 hC2 hv2=>⟨f2,hA.trans hA2,hC.trans hA hA2 hC2,hv2⟩
   | panic c0 h2 =>
    intro hlv;refine⟨hent,calls_of_wp_defers hfn hb (hcode _ fun f' e' a' w' hA hC hI1 hD1 hX=>hm _ f' e' a' w' hX fun u hu=>?_)⟩;exact hlv f' a' w' hA hC hI1 hD1 u hu _ fun f2 v2 w2 hA2 hC2 hv2=>⟨f2,hA.trans hA2,hC.trans hA hA2 hC2,hv2⟩
  cases e with
  | normal=>exact fin .ret fun R f' e' a' w' hX hl=>by cases hX;exact hl _ .ret
  | ret=>exact fin .ret fun R f' e' a' w' hX hl=>by cases hX;exact hl _ .ret
  | exit i=>trivial
  | panic c0=>exact fin (.Jj c0) fun R f' e' a' w' hX hl=>by cases hX with | panic hc=>exact hl _ (.Jj hc)
end
section
variable {P:Program}
theorem ER.append{a b b':List PanicEntry}(h:ER f a a')(k:ER f b b'):ER f (a++b) (a'++b'):=by
 induction h with
 | nil=>exact k
 | cons h _ ih=>exact .cons h ih
theorem ER.AWw{a:List PanicEntry}(h:ER f a a'):ER f (a.dropWhile fun e=>!e.goexit) (a'.dropWhile fun e=>!e.goexit):=by
 induction h with
 | nil=>exact .nil
 | @cons e e' c c' h hc ih =>
  rw[List.dropWhile_cons,List.dropWhile_cons,h.2.2];split
  ·exact ih
  ·exact .cons h hc
theorem GP.raised{m:Md}{u:FrameMode}{c:List PanicEntry}(h:GP f m u)(hc:ER f c c'):GP f (kz m c) (Go.raised u c'):=by
 cases h with
 | ret=>exact .Jj hc
 | Jj h=>exact .Jj (hc.append h)
theorem GP.settle{m:Md}{u:FrameMode}(h:GP f m u):GP f (MF m) (Go.settle u):=by
 cases h with
 | ret=>exact .ret
 | Jj h =>
  cases h with
  | nil=>exact .Jj .nil
  | @cons e e' c c' h hc =>
   obtain⟨v,r,g⟩:=e;obtain⟨v',r',g'⟩:=e';obtain⟨hv,hr,hg⟩:=h;dsimp only at hr hg hv;subst hr;subst hg;cases r with
   | false=>exact .Jj (.cons ⟨hv,rfl,rfl⟩ hc)
   | true =>
    have hd:=hc.AWw;show GP f (match c.dropWhile (fun e=>!e.goexit) with|[]=>.ret|l=>.Jj l) (match c'.dropWhile (fun e=>!e.goexit) with|[]=>.returning|rest=>.panicking rest);generalize c.dropWhile (fun e=>!e.goexit)=x at *;generalize c'.dropWhile (fun e=>!e.goexit)=y at *;cases hd with
    | nil=>exact .ret
    | cons h1 h2=>exact .Jj (.cons h1 h2)
theorem ANx(hX:SW P cx)(hdraw:QL P cx)(hD:∀A7,S9 P cx.gs A7→ks P cx.gs (fun g=>Xu (ACH P cx g) A7)):∀n,S9 P cx.gs (gm P cx n):=by
 intro n;induction n with
 | zero=>intro g args args' f h w _ _ _;trivial
 | succ n ih=>exact AEz hX hdraw ih (hD _ ih)
end
end Abs
end Go
end
