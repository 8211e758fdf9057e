/-
The evaluator is sound, second part: operations that write nothing.
Conditions: none.
-/
import Derived.Laws.StructEq
import Derived.Laws.Slices
import Derived.Lib.Strings
import Derived.Laws.Externs
import Derived.Laws.Cells
import Derived.Laws.BytesString
import Derived.Lib.Builder
import Derived.Lib.BytesEntry
import Derived.Test.YtefdgihgbhbibaaGreatDoorEvalA
set_option linter.unusedVariables false
set_option linter.unusedSimpArgs false
namespace Go
namespace cG
theorem jV {R:Type} (v:Value) (k:IntKind→Int→R) (z:R):(∃ kd n,v=.int kd n∧jQ v k z=k kd n)∨jQ v k z=z:=by
 cases v<;>first|exact .inr rfl|exact .inl ⟨_,_,rfl,rfl⟩
theorem rC {R:Type} (v:Value) (k:Bool→R) (z:R):(∃ b,v=.bool b∧kZ v k z=k b)∨kZ v k z=z:=by
 cases v<;>first|exact .inr rfl|exact .inl ⟨_,rfl,rfl⟩
theorem mV {R:Type} (v:Value) (k:ByteArray→R) (z:R):(∃ s,v=.string s∧pT v k z=k s)∨pT v k z=z:=by
 cases v<;>first|exact .inr rfl|exact .inl ⟨_,rfl,rfl⟩
theorem oW {R:Type} (v:Value) (k:Nat→Nat→R) (z:R):(∃ a,v=.pointer (some a)∧kO v k z=k a.block a.off)∨kO v k z=z:=by
 cases v with
 | pointer a=>cases a with
  | none=>exact .inr rfl
  | some a=>exact .inl ⟨a,rfl,rfl⟩
 | _=>exact .inr rfl
theorem Av {R:Type} (v:Value) (k:Nat→Nat→Nat→Nat→R) (kn:Nat→Nat→R) (z:R) :
 (∃ a l c,v=.slice (some a) l c∧rW v k kn z=k a.block a.off l c)∨(∃ l c,v=.slice none l c∧rW v k kn z=kn l c)∨rW v k kn z=z:=by
 cases v with
 | slice a l c=>cases a with
  | none=>exact .inr (.inl ⟨l,c,rfl,rfl⟩)
  | some a=>exact .inl ⟨a,l,c,rfl,rfl⟩
 | _=>exact .inr (.inr rfl)
theorem vA {R:Type} (v:Value) (k:List Value→R) (z:R):(∃ a,v=.agg a∧uX v k z=k a.toList)∨uX v k z=z:=by
 cases v<;>first|exact .inr rfl|exact .inl ⟨_,rfl,rfl⟩
theorem aNJ {R:Type} (v:Value) (k:List Value→R) (z:R):(∃ a,v=.tuple a∧aHs v k z=k a.toList)∨aHs v k z=z:=by
 cases v<;>first|exact .inr rfl|exact .inl ⟨_,rfl,rfl⟩
theorem Fk {R:Type} (v:Value) (k:TypeId→Value→R) (kn z:R) :
 (∃ t x,v=.iface t x∧lA v k kn z=k t x)∨(v=.nilIface∧lA v k kn z=kn)∨lA v k kn z=z:=by
 cases v<;>first|exact .inr (.inr rfl)|exact .inl ⟨_,_,rfl,rfl⟩|exact .inr (.inl ⟨rfl,rfl⟩)
theorem aAS {R:Type} (v:Value) (k:FuncId→List Value→List Value→R) (z:R) :
 (∃ g a c,v=.func (.func g) a c∧vFn v k z=k g a.toList c.toList)∨vFn v k z=z:=by
 cases v with
 | func g a c=>cases g<;>first | exact .inl ⟨_,_,_,rfl,rfl⟩ | exact .inr rfl
 | _=>exact .inr rfl
theorem mW {R:Type} (x:Int) (k:Nat→R) (z:R):(∃ n:Nat,x=(n:Int)∧qV x k z=k n)∨qV x k z=z:=by
 cases x with
 | ofNat n=>exact .inl ⟨n,rfl,rfl⟩
 | negSucc n=>exact .inr rfl
theorem oZ {R:Type} (v:Value) (k:Nat→R) (z:R):(∃ kd n,v=.int kd ((n:Nat):Int)∧lP v k z=k n)∨lP v k z=z:=by
 unfold lP
 rcases jV v (fun _ i=>qV i k z) z with ⟨kd,i,rfl,h⟩|h
 · rcases mW i k z with ⟨n,rfl,h'⟩|h'
   · exact .inl ⟨kd,n,rfl,h.trans h'⟩
   · exact .inr (h.trans h')
 · exact .inr h
theorem fN {α R:Type} (o:Option α) (k:α→Option R) {r:R} (h:eC o k none=some r):∃ x,o=some x∧k x=some r:=by
 cases o with
 | none=>cases h
 | some x=>exact ⟨x,rfl,h⟩
theorem jC (kd:IntKind) (z:Int):nU kd z=some (.int kd z):=Up z _
theorem lY (kd:IntKind) (z:Nat):jS kd z=some (.int kd (z:Int)):=bD z _
theorem rD (b:Bool):gB b=some (.bool b):=by cases b<;>rfl
theorem aHN {a b:IntKind} (h:kEq a b=true):a=b:=by cases a<;>cases b<;>first|rfl|cases h
theorem dC {c:Bool} {α:Type} {x:Option α} {r:α} (h:(bif c then x else none)=some r):c=true∧x=some r:=by
 cases c with
 | false=>cases h
 | true=>exact ⟨rfl,h⟩
theorem eF {α:Type} (l:List α):len l=l.length:=by
 induction l with
 | nil=>rfl
 | cons a l ih=>show Nat.succ (len l)=_;rw [ih];rfl
theorem aDn (k:IntKind):iE k=2 ^ k.bits:=by cases k<;>rfl
theorem aHO (M H m:Nat) (hm:m<M):fin M H m=if m<H then (m:Int) else (m:Int) - M:=by
 unfold fin
 by_cases h:m<H
 · rw [Nat.blt_eq.mpr h,if_pos h];rfl
 · have e:Nat.blt m H=false:=by
    cases hb:Nat.blt m H with
    | false=>rfl
    | true=>exact absurd (Nat.blt_eq.mp hb) h
   rw [e,if_neg h]
   show Int.negSucc (M - 1 - m)=_
   omega
theorem aE1 (k:IntKind) (n:Int):k.wrap n=if k.signed=true∧n % (iE k:Int)≥2 ^ (k.bits - 1) then n % (iE k:Int) - iE k else n % (iE k:Int):=by
 unfold IntKind.wrap
 rw [aDn]
 simp
theorem pJ (k:IntKind) (x:Int):aR k x=k.wrap x:=by
 rw [aE1]
 cases x with
 | ofNat a =>
  show (bif Nat.blt a (half k) then Int.ofNat a else fin (iE k) (half k) (Nat.mod a (iE k)))=_
  have hm:Nat.mod a (iE k)<iE k:=Nat.mod_lt _ (by cases k<;>decide)
  have e1:(Int.ofNat a) % (iE k:Int)=((a % iE k:Nat):Int):=rfl
  rw [e1,aHO _ _ _ hm]
  have e2:Nat.mod a (iE k)=a % iE k:=rfl
  rw [e2]
  by_cases hb:a<half k
  · rw [Nat.blt_eq.mpr hb]
    show (a:Int)=_
    have hh:half k≤iE k:=by cases k<;>decide
    rw [Nat.mod_eq_of_lt (Nat.lt_of_lt_of_le hb hh)]
    cases k<;>simp [IntKind.signed,IntKind.bits,half] at hb ⊢<;>omega
  · have e:Nat.blt a (half k)=false:=by
     cases hb':Nat.blt a (half k) with
     | false=>rfl
     | true=>exact absurd (Nat.blt_eq.mp hb') hb
    rw [e]
    show (if a % iE k<half k then ((a % iE k:Nat):Int) else ((a % iE k:Nat):Int) - iE k)=_
    cases k<;>simp [IntKind.signed,IntKind.bits,half,iE]<;>omega
 | negSucc a =>
  show fin (iE k) (half k) (iE k - 1 - a % iE k)=_
  have hM:0<iE k:=by cases k<;>decide
  have hm:=Nat.mod_lt a hM
  have e1:(Int.negSucc a) % (iE k:Int)=((iE k - 1 - a % iE k:Nat):Int):=by
   rw [Int.negSucc_emod _ (by omega)];omega
  rw [e1,aHO _ _ _ (by omega)]
  generalize iE k - 1 - a % iE k=m at *
  cases k<;>simp [IntKind.signed,IntKind.bits,half,iE] at*<;> omega
theorem aNL (x y:Int):kB x y=x+y:=by cases x<;>cases y<;>rfl
theorem aNM (x y:Int):aNw x y=x*y:=by cases x<;>cases y<;>rfl
theorem Fm (x y:Int):uB x y=decide (x<y):=by
 cases x with
 | ofNat a=>cases y with
  | ofNat b=>show Nat.blt a b=_;rw [Bool.eq_iff_iff,Nat.blt_eq];simp
  | negSucc b=>show false=_;symm;simp;omega
 | negSucc a=>cases y with
  | ofNat b=>show true=_;symm;simp;omega
  | negSucc b=>show Nat.blt b a=_;rw [Bool.eq_iff_iff,Nat.blt_eq];simp;omega
theorem Kd (x y:Int):Pb x y=decide (x=y):=by
 cases x with
 | ofNat a=>cases y with
  | ofNat b=>show Nat.beq a b=_;rw [Bool.eq_iff_iff,Nat.beq_eq];simp only [decide_eq_true_eq];constructor<;>intro h
             · rw [h]
             · exact Int.ofNat.inj h
  | negSucc b=>show false=_;symm;simp
 | negSucc a=>cases y with
  | ofNat b=>show false=_;symm;simp
  | negSucc b=>show Nat.beq b a=_;rw [Bool.eq_iff_iff,Nat.beq_eq];simp;omega
theorem aNN (x:Int) (n:Nat):aHt x n=x*2 ^ n:=by
 cases x with
 | ofNat a=>show ((a*2 ^ n:Nat):Int)=_;simp
 | negSucc a=>rfl
theorem aNO (x:Int) (n:Nat):aEV x n=x.fdiv (2 ^ n):=by
 have h2:(0:Int)<2 ^ n:=Int.pow_pos (by decide)
 cases x with
 | ofNat a =>
  show ((a / 2 ^ n:Nat):Int)=_
  rw [Int.fdiv_eq_ediv_of_nonneg _ (Int.le_of_lt h2)]
  simp
 | negSucc a =>
  show Int.negSucc (a / 2 ^ n)=_
  rw [Int.fdiv_eq_ediv_of_nonneg _ (Int.le_of_lt h2),Int.negSucc_ediv _ h2]
  have:((a:Int).ediv (2 ^ n))=((a / 2 ^ n:Nat):Int):=by show (a:Int) / 2 ^ n=_;simp
  rw [this];omega
theorem aHP (x y:Int):aHu x y=x.tdiv y:=by cases x<;>cases y<;>rfl
theorem aHQ (x y:Int):aQp x y=x.tmod y:=by cases x<;>cases y<;>rfl
theorem Re (a b:Nat):xU a b=min a b:=by
 unfold xU
 by_cases h:a≤b
 · rw [Nat.ble_eq.mpr h];show a=_;omega
 · have e:Nat.ble a b=false:=by
    cases hb:Nat.ble a b with
    | false=>rfl
    | true=>exact absurd (Nat.ble_eq.mp hb) h
   rw [e];show b=_;omega
theorem yC (k:IntKind) (c:Nat) (h:c<half k):k.wrap (c:Int)=c:=by
 rw [← pJ]
 show (bif Nat.blt c (half k) then Int.ofNat c else _)=_
 rw [Nat.blt_eq.mpr h];rfl
theorem aNP (k:IntKind):half k≤2 ^ k.bits:=by cases k<;>decide
theorem qP (n a:Nat):(BitVec.ofInt n (a:Int))=BitVec.ofNat n a:=by simp
theorem sL (P:Program) (w:World) (op:BinOp) (k:IntKind) (a b c:Nat) (hc:c<half k)
 (h:(op=.and∧c=a &&& b)∨(op=.or∧c=a ||| b)∨(op=.xor∧c=a ^^^ b)∨(op=.andNot∧a<half k∧c=a ^^^ (a &&& b))) :
 (Op.intBits op k (a:Int) (b:Int)).run P w=.ok (.int k (c:Int)) w:=by
 have hM:=aNP k
 have hc2:c % 2 ^ k.bits=c:=Nat.mod_eq_of_lt (by omega)
 rcases h with ⟨rfl,rfl⟩|⟨rfl,rfl⟩|⟨rfl,rfl⟩|⟨rfl,ha,rfl⟩
 · simp only [Op.intBits,qP,Sem.run_pure,BitVec.toNat_and,BitVec.toNat_ofNat]
   rw [← Nat.and_mod_two_pow,hc2,yC k _ hc]
 · simp only [Op.intBits,qP,Sem.run_pure,BitVec.toNat_or,BitVec.toNat_ofNat]
   rw [← Nat.or_mod_two_pow,hc2,yC k _ hc]
 · simp only [Op.intBits,qP,Sem.run_pure,BitVec.toNat_xor,BitVec.toNat_ofNat]
   rw [← Nat.xor_mod_two_pow,hc2,yC k _ hc]
 · have e:(BitVec.ofNat k.bits a &&& ~~~BitVec.ofNat k.bits b)=BitVec.ofNat k.bits a ^^^ (BitVec.ofNat k.bits a &&& BitVec.ofNat k.bits b):=by
    ext i hi
    simp only [BitVec.getElem_and,BitVec.getElem_xor,BitVec.getElem_not]
    cases (BitVec.ofNat k.bits a)[i]<;>cases (BitVec.ofNat k.bits b)[i]<;>rfl
   simp only [Op.intBits,qP,Sem.run_pure,e,BitVec.toNat_and,BitVec.toNat_xor,BitVec.toNat_ofNat]
   rw [← Nat.and_mod_two_pow,← Nat.xor_mod_two_pow,hc2,yC k _ hc]
def mC (gs:List Nat) (f:Map):Prop:=∀ g,g∈gs→∃ i,f g=some i∧i.fE=g∧i.o=0
theorem mC.mono {gs:List Nat} {f g:Map} (h:mC gs f) (hfg:f.le g):mC gs g:=fun x hx=>let ⟨i,a,b⟩:=h x hx;⟨i,hfg _ _ a,b⟩
def Env (f:Map) (ds:List (Option Tmp)) (lo:List Value) (tm:T Value) (tmps:Array Value):Prop :=
 ∀ t,(∀ i,idx ds t=some i→bS f (nth lo i) (tmps.getD t undef))∧(idx ds t=none→∀ v,tm.get (path t)=some v→bS f v (tmps.getD t undef))
theorem Env.mono {f g:Map} {ds:List (Option Tmp)} {lo:List Value} {tm:T Value} {tmps:Array Value} (h:Env f ds lo tm tmps) (hfg:f.le g):Env g ds lo tm tmps :=
 fun t=>⟨fun i hi=>((h t).1 i hi).mono hfg,fun hi v hv=>((h t).2 hi v hv).mono hfg⟩
theorem bS.plain {f:Map} {v:Value} (h:gG v=true):bS f v v:=by
 cases v with
 | bool b=>exact .bool b
 | int k n=>exact .int k n
 | string s=>exact .string s
 | pointer a=>cases a with
  | none=>exact .nilPtr
  | some a=>cases h
 | slice a l c=>cases a with
  | none=>exact .iF l c
  | some a=>cases h
 | map r=>cases r with
  | none=>exact .pR
  | some r=>cases h
 | nilFunc=>exact .nilFunc
 | nilIface=>exact .nilIface
 | _=>cases h
theorem bS.aHR {f:Map} (v:Value):bS f cG.top v:=.top v
theorem bJ {f:Map} {gs:List Nat} {ds:List (Option Tmp)} {lo:List Value} {tm:T Value} {a:Act} (hG:mC gs f) (hE:Env f ds lo tm a.tmps) (x:Operand) :
 bS f (bW (aU gs ds x) lo tm) (a.eval x):=by
 cases x with
 | tmp t =>
  show bS f (bW (match idx ds t with|some i=>.loc i|none=>.tmp (path t)) lo tm) (a.tmps.getD t undef)
  cases hi:idx ds t with
  | some i=>exact (hE t).1 i hi
  | none =>
   show bS f (pS (tm.get (path t))) _
   cases hv:tm.get (path t) with
   | none=>exact .aHR _
   | some v=>exact (hE t).2 hi v hv
 | const v =>
  show bS f (bif gG v then v else top) v
  cases h:gG v with
  | true=>exact bS.plain h
  | false=>exact .aHR _
 | global g =>
  show bS f (bif gs.any (fun x=>Nat.beq x g) then .pointer (some ⟨g,0,none⟩) else top) (.pointer (some ⟨g,0,none⟩))
  cases h:gs.any (fun x=>Nat.beq x g) with
  | false=>exact .aHR _
  | true =>
   obtain ⟨y,hy,e⟩:=List.any_eq_true.1 h
   have:=Nat.eq_of_beq_eq_true e
   subst this
   obtain ⟨i,hi,hb,ho⟩:=hG y hy
   have:=bS.ptr (f:=f) y 0 i hi
   rw [hb,ho] at this
   exact this
 | func g=>exact .func _ _ _ _ _ rfl rfl (fun i h=>by simp at h) (fun i h=>by simp at h)
theorem vB {f:Map} {gs:List Nat} {ds:List (Option Tmp)} {lo:List Value} {tm:T Value} {a:Act} (hG:mC gs f) (hE:Env f ds lo tm a.tmps) (xs:List Operand) :
 dA f (Co (xs.map (aU gs ds)) lo tm) (xs.map a.eval):=by
 induction xs with
 | nil=>exact dA.nil f
 | cons x xs ih=>exact dA.cons (bJ hG hE x) ih
def eB (P:Program) (gs:List Nat) (ds:List (Option Tmp)) (o:Oper) (fn:DP):Prop :=
 ∀ lo tm v,fn lo tm=some v→∀ f (a:Act) w,mC gs f→Env f ds lo tm a.tmps→∃ v',(execOp a.eval o).run P w=.ok (.value v') w∧bS f v v'
section
variable {P:Program} {gs:List Nat} {ds:List (Option Tmp)} {o:Oper}
theorem aHS:eB P gs ds o fun _ _=>none:=fun _ _ _ h=>by cases h
theorem Pf {x:Operand} (ho:o.op=.move x∨o.op=.assign x):eB P gs ds o (aC (aU gs ds x)):=by
 intro lo tm v hv f a w hG hE
 cases hv
 refine ⟨a.eval x,?_,bJ hG hE x⟩
 rcases ho with ho|ho<;>simp [execOp,ho]
theorem aE2 {c x y:Operand} (ho:o.op=.pick c x y):eB P gs ds o (dG (aU gs ds c) (aU gs ds x) (aU gs ds y)):=by
 intro lo tm v hv f a w hG hE
 have hc:=bJ hG hE c
 unfold dG at hv
 rcases rC (bW (aU gs ds c) lo tm) (fun t=>Bool.rec (motive:=fun _=>Option Value) (some (bW (aU gs ds y) lo tm)) (some (bW (aU gs ds x) lo tm)) t) none with ⟨b,e,h⟩|h
 · rw [h] at hv
   rw [e] at hc
   generalize hce:a.eval c=vc at hc
   cases hc
   cases b with
   | true=>cases hv;exact ⟨a.eval x,by simp [execOp,ho,hce,asBool],bJ hG hE x⟩
   | false=>cases hv;exact ⟨a.eval y,by simp [execOp,ho,hce,asBool],bJ hG hE y⟩
 · rw [h] at hv;cases hv
theorem eV (op:BinOp) (t:TypeId) (x y:Operand) (u v:Value) (w:World) (h:match u,v with|.nilIface,.nilIface=>False|.agg _,.agg _=>False|_,_=>True) :
 (eqGuard op t x y u v).run P w=.ok () w:=by
 cases op<;>first
  | rfl
  | (cases u<;>cases v<;>first | rfl | exact h.elim)
theorem fP {op:BinOp} {t yt:TypeId} {x y:Operand} {g:G} (ho:o.op=.binOp op t x y yt)
 (hg:∀ k a b r w,g k a b=some r→(binOp op t (.int k a) (.int k b)).run P w=.ok r w∧gG r=true) :
 eB P gs ds o (aE g (aU gs ds x) (aU gs ds y)):=by
 intro lo tm v hv f a w hG hE
 have hx:=bJ hG hE x
 have hy:=bJ hG hE y
 unfold aE at hv
 rcases jV (bW (aU gs ds x) lo tm) (fun kd a=>jQ (bW (aU gs ds y) lo tm) (fun kd' b=>bif kEq kd kd' then g kd a b else none) none) none with ⟨k,n,e,h⟩|h
 · rw [h] at hv
   rcases jV (bW (aU gs ds y) lo tm) (fun kd' b=>bif kEq k kd' then g k n b else none) none with ⟨k',m,e',h'⟩|h'
   · rw [h'] at hv
     obtain ⟨hk,hv2⟩:=dC hv
     clear hv
     have:=aHN hk;subst this
     rw [e] at hx;rw [e'] at hy
     generalize hxe:a.eval x=vx at hx
     generalize hye:a.eval y=vy at hy
     cases hx;cases hy
     obtain ⟨h1,h2⟩:=hg k n m v w hv2
     refine ⟨v,?_,bS.plain h2⟩
     simp only [execOp,ho,hxe,hye,Sem.run_bind]
     rw [eV _ _ _ _ _ _ _ trivial]
     simp [h1]
   · rw [h'] at hv;cases hv
 · rw [h] at hv;cases hv
theorem Ke {op:BinOp} {t yt:TypeId} {x y:Operand} {g:G} (ho:o.op=.binOp op t x y yt)
 (hg:∀ k k' a b r w,g k a b=some r→(binOp op t (.int k a) (.int k' b)).run P w=.ok r w∧gG r=true) :
 eB P gs ds o (pV g (aU gs ds x) (aU gs ds y)):=by
 intro lo tm v hv f a w hG hE
 have hx:=bJ hG hE x
 have hy:=bJ hG hE y
 unfold pV at hv
 rcases jV (bW (aU gs ds x) lo tm) (fun kd a=>jQ (bW (aU gs ds y) lo tm) (fun _ b=>g kd a b) none) none with ⟨k,n,e,h⟩|h
 · rw [h] at hv
   rcases jV (bW (aU gs ds y) lo tm) (fun _ b=>g k n b) none with ⟨k',m,e',h'⟩|h'
   · rw [h'] at hv
     rw [e] at hx;rw [e'] at hy
     generalize hxe:a.eval x=vx at hx
     generalize hye:a.eval y=vy at hy
     cases hx;cases hy
     obtain ⟨h1,h2⟩:=hg k k' n m v w hv
     refine ⟨v,?_,bS.plain h2⟩
     simp only [execOp,ho,hxe,hye,Sem.run_bind]
     rw [eV _ _ _ _ _ _ _ trivial]
     simp [h1]
   · rw [h'] at hv;cases hv
 · rw [h] at hv;cases hv
theorem kD {kd:IntKind} {z:Int} {r:Value} (h:nU kd z=some r):r=.int kd z:=by rw [jC] at h;cases h;rfl
theorem gU {b:Bool} {r:Value} (h:gB b=some r):r=.bool b:=by rw [rD] at h;cases h;rfl
theorem Rf {f:Nat→Nat→Nat} {k:IntKind} {x y:Int} {r:Value} (h:nn f k x y=some r):∃ a b:Nat,x=a∧y=b∧f a b<half k∧r=.int k (f a b:Nat):=by
 unfold nn at h
 rcases mW x (fun a=>qV y (fun b=>bN (f a b) fun c=>bif Nat.blt c (half k) then some (Value.int k (Int.ofNat c)) else none) none) none with ⟨a,rfl,e⟩|e
 · rw [e] at h
   rcases mW y (fun b=>bN (f a b) fun c=>bif Nat.blt c (half k) then some (Value.int k (Int.ofNat c)) else none) none with ⟨b,rfl,e'⟩|e'
   · rw [e',bD] at h
     obtain ⟨h1,h2⟩:=dC h
     cases h2
     exact ⟨a,b,rfl,rfl,Nat.blt_eq.mp h1,rfl⟩
   · rw [e'] at h;cases h
 · rw [e] at h;cases h
theorem Vb {k:IntKind} {x y:Int} {r:Value} (h:Iu k x y=some r):∃ a b:Nat,x=a∧y=b∧(a<half k∧a ^^^ (a &&& b)<half k)∧r=.int k (a ^^^ (a &&& b):Nat):=by
 unfold Iu at h
 rcases mW x (fun a=>qV y (fun b=>bN (Nat.xor a (Nat.land a b)) fun c=>bif Nat.blt a (half k) && Nat.blt c (half k) then some (Value.int k (Int.ofNat c)) else none) none) none with ⟨a,rfl,e⟩|e
 · rw [e] at h
   rcases mW y (fun b=>bN (Nat.xor a (Nat.land a b)) fun c=>bif Nat.blt a (half k) && Nat.blt c (half k) then some (Value.int k (Int.ofNat c)) else none) none with ⟨b,rfl,e'⟩|e'
   · rw [e',bD] at h
     obtain ⟨h1,h2⟩:=dC h
     cases h2
     rw [Bool.and_eq_true] at h1
     exact ⟨a,b,rfl,rfl,⟨Nat.blt_eq.mp h1.1,Nat.blt_eq.mp h1.2⟩,rfl⟩
   · rw [e'] at h;cases h
 · rw [e] at h;cases h
theorem aHT {op:BinOp} {t yt:TypeId} {x y:Operand} (ho:o.op=.binOp op t x y yt) :
 ∃ fn,aHE op (aU gs ds x) (aU gs ds y)=.p fn∧eB P gs ds o fn:=by
 cases op<;>refine ⟨_,rfl,?_⟩
 case add =>
  exact fP ho fun k a b r w h=>by
   have:=kD h;subst this;exact ⟨by simp [binOp,Op.intArith,pJ,aNL],rfl⟩
 case sub =>
  exact fP ho fun k a b r w h=>by
   have:=kD h;subst this;exact ⟨by simp [binOp,Op.intArith,pJ],rfl⟩
 case mul =>
  exact fP ho fun k a b r w h=>by
   have:=kD h;subst this;exact ⟨by simp [binOp,Op.intArith,pJ,aNM],rfl⟩
 case quo =>
  exact fP ho fun k a b r w h=>by
   unfold pE at h
   cases hb:Pb b 0 with
   | true=>rw [hb] at h;cases h
   | false =>
    rw [hb] at h
    have:=kD h;subst this
    have hb':b≠0:=by rw [Kd] at hb;simpa using hb
    exact ⟨by simp [binOp,Op.intDiv,hb',pJ,aHP],rfl⟩
 case rem =>
  exact fP ho fun k a b r w h=>by
   unfold iZ at h
   cases hb:Pb b 0 with
   | true=>rw [hb] at h;cases h
   | false =>
    rw [hb] at h
    have:=kD h;subst this
    have hb':b≠0:=by rw [Kd] at hb;simpa using hb
    exact ⟨by simp [binOp,Op.intDiv,hb',aHQ],rfl⟩
 case and =>
  exact fP ho fun k a b r w h=>by
   obtain ⟨m,n,rfl,rfl,hc,rfl⟩:=Rf h
   exact ⟨by simp only [binOp,ne_eq,not_true,if_false];exact sL P w .and k m n _ hc (.inl ⟨rfl,rfl⟩),rfl⟩
 case or =>
  exact fP ho fun k a b r w h=>by
   obtain ⟨m,n,rfl,rfl,hc,rfl⟩:=Rf h
   exact ⟨by simp only [binOp,ne_eq,not_true,if_false];exact sL P w .or k m n _ hc (.inr (.inl ⟨rfl,rfl⟩)),rfl⟩
 case xor =>
  exact fP ho fun k a b r w h=>by
   obtain ⟨m,n,rfl,rfl,hc,rfl⟩:=Rf h
   exact ⟨by simp only [binOp,ne_eq,not_true,if_false];exact sL P w .xor k m n _ hc (.inr (.inr (.inl ⟨rfl,rfl⟩))),rfl⟩
 case andNot =>
  exact fP ho fun k a b r w h=>by
   obtain ⟨m,n,rfl,rfl,hc,rfl⟩:=Vb h
   exact ⟨by simp only [binOp,ne_eq,not_true,if_false];exact sL P w .andNot k m n _ hc.2 (.inr (.inr (.inr ⟨rfl,hc.1,rfl⟩))),rfl⟩
 case shl =>
  exact Ke ho fun k k' a b r w h=>by
   unfold aHv at h
   rcases mW b (fun n=>nU k (aR k (aHt a (xU n k.bits)))) none with ⟨n,rfl,e⟩|e
   · rw [e] at h
     have:=kD h;subst this
     exact ⟨by simp [binOp,Op.shift,pJ,aNN,Re];intro hn;omega,rfl⟩
   · rw [e] at h;cases h
 case shr =>
  exact Ke ho fun k k' a b r w h=>by
   unfold Jt at h
   rcases mW b (fun n=>nU k (aEV a (xU n k.bits))) none with ⟨n,rfl,e⟩|e
   · rw [e] at h
     have:=kD h;subst this
     exact ⟨by simp [binOp,Op.shift,aNO,Re];intro hn;omega,rfl⟩
   · rw [e] at h;cases h
 case eql =>
  exact fP ho fun k a b r w h=>by
   have:=gU h;subst this;exact ⟨by simp [binOp,Op.intCmp,Kd];rfl,rfl⟩
 case neq =>
  exact fP ho fun k a b r w h=>by
   have:=gU h;subst this;exact ⟨by simp [binOp,Op.intCmp,Kd];rfl,rfl⟩
 case lss =>
  exact fP ho fun k a b r w h=>by
   have:=gU h;subst this;exact ⟨by simp [binOp,Op.intCmp,Fm],rfl⟩
 case leq =>
  exact fP ho fun k a b r w h=>by
   have:=gU h;subst this;exact ⟨by simp [binOp,Op.intCmp,Fm];rw [Bool.eq_iff_iff];simp,rfl⟩
 case gtr =>
  exact fP ho fun k a b r w h=>by
   have:=gU h;subst this;exact ⟨by simp [binOp,Op.intCmp,Fm],rfl⟩
 case geq =>
  exact fP ho fun k a b r w h=>by
   have:=gU h;subst this;exact ⟨by simp [binOp,Op.intCmp,Fm];rw [Bool.eq_iff_iff];simp,rfl⟩
end
section
variable {P:Program} {gs:List Nat} {ds:List (Option Tmp)} {o:Oper}
theorem bS.sM {f:Map} {v':Value} {b:Bool} (h:bS f (.bool b) v'):v'=.bool b:=by cases h;rfl
theorem bS.gI {f:Map} {v':Value} {k:IntKind} {n:Int} (h:bS f (.int k n) v'):v'=.int k n:=by cases h;rfl
theorem bS.jW {f:Map} {v':Value} {s:ByteArray} (h:bS f (.string s) v'):v'=.string s:=by cases h;rfl
theorem bS.vC {f:Map} {v':Value} {a:Array Value} (h:bS f (.agg a) v'):∃ a',v'=.agg a'∧dA f a.toList a'.toList:=by
 cases h with
 | agg _ a' hs h=>exact ⟨a',rfl,dA.of_array hs h⟩
theorem bS.aNQ {f:Map} {v':Value} {a:Array Value} (h:bS f (.tuple a) v'):∃ a',v'=.tuple a'∧dA f a.toList a'.toList:=by
 cases h with
 | tuple _ a' hs h=>exact ⟨a',rfl,dA.of_array hs h⟩
theorem bS.aAT {f:Map} {v':Value} {g:Fn} {a c:Array Value} (h:bS f (.func g a c) v'):∃ a' c',v'=.func g a' c'∧dA f a.toList a'.toList∧dA f c.toList c'.toList:=by
 cases h with
 | func _ _ _ a' c' ha hc va vc=>exact ⟨a',c',rfl,dA.of_array ha va,dA.of_array hc vc⟩
theorem bS.Fo {f:Map} {v v':Value} {t:TypeId} (h:bS f (.iface t v) v'):∃ x,v'=.iface t x∧bS f v x:=by
 cases h with
 | iface _ _ x h=>exact ⟨x,rfl,h⟩
theorem bS.mX {f:Map} {v':Value} {a:Addr} (h:bS f (.pointer (some a)) v'):a.spot=none∧∃ i,f a.block=some i∧v'=.pointer (some ⟨i.fE,i.o+a.off,none⟩):=by
 cases h with
 | ptr b o i h=>exact ⟨rfl,i,h,rfl⟩
theorem bS.aHU {f:Map} {t:TypeId} {v v':Value} (h:bS f v v'):bS f (.iface t v) (.iface t v'):=.iface t v v' h
theorem uE (s:ByteArray):s.toList=bl s:=by
 exact ByteArray.toList_eq s
theorem jD (s:ByteArray):(bl s).length=s.size:=rfl
theorem aAU (s:ByteArray):jM (bl s)=s:=by
 unfold jM bl
 cases s with
 | mk d=>cases d;rfl
theorem aAV (a b:UInt8):bEq a b=(a == b):=by
 unfold bEq
 rw [Bool.eq_iff_iff,Nat.beq_eq]
 simp [UInt8.toNat_inj]
theorem aAW (x y:List UInt8):Uk x y=(x == y):=by
 induction x generalizing y with
 | nil=>cases y<;>rfl
 | cons a x ih =>
  cases y with
  | nil=>rfl
  | cons b y =>
   show (bif bEq a b then Uk x y else false)=_
   rw [ih,aAV,List.cons_beq_cons]
   cases a == b<;>rfl
theorem aRv (x y:List UInt8):lLt x y=Op.bytesLess x y:=by
 induction x generalizing y with
 | nil=>cases y<;>rfl
 | cons a x ih =>
  cases y with
  | nil=>rfl
  | cons b y =>
   show (bif Nat.blt a.toNat b.toNat then true else bif bEq a b then lLt x y else false)=(decide (a<b) || (a == b && Op.bytesLess x y))
   rw [ih,aAV]
   have e:Nat.blt a.toNat b.toNat=decide (a<b):=by
    rw [Bool.eq_iff_iff,Nat.blt_eq];simp [UInt8.lt_iff_toNat_lt]
   rw [e]
   cases decide (a<b)<;>cases a == b<;>rfl
theorem Im (x y:List UInt8):(Op.bytesLess x y || x == y)=!Op.bytesLess y x:=by
 induction x generalizing y with
 | nil=>cases y<;>simp [Op.bytesLess]
 | cons a x ih =>
  cases y with
  | nil=>simp [Op.bytesLess]
  | cons b y =>
   have ih':=ih y
   simp only [Op.bytesLess,List.cons_beq_cons]
   by_cases h1:a<b
   · have h2:¬ b<a:=by simp [UInt8.lt_iff_toNat_lt] at *;omega
     have h3:¬ (b == a)=true:=by intro e;have:=eq_of_beq e;subst this;simp at h1
     simp [h1,h2,h3]
   · by_cases h2:b<a
     · have h3:¬ (a == b)=true:=by intro e;have:=eq_of_beq e;subst this;simp at h2
       simp [h1,h2,h3]
     · have h3:a=b:=by
        apply UInt8.toNat_inj.1
        simp [UInt8.lt_iff_toNat_lt] at h1 h2
        omega
       subst h3
       simp [h1]
       simpa using ih'
def aRw (x y:List UInt8):ByteArray:=jM (x++y)
theorem aNR (s s':ByteArray):aRw (bl s) (bl s')=s++s':=by
 unfold aRw
 rw [← aAU (s++s')]
 congr 1
theorem aAX {op:BinOp} {t yt:TypeId} {x y:Operand} (ho:o.op=.binOp op t x y yt):eB P gs ds o (uY op (aU gs ds x) (aU gs ds y)):=by
 intro lo tm v hv f a w hG hE
 have hx:=bJ hG hE x
 have hy:=bJ hG hE y
 unfold uY at hv
 rcases mV (bW (aU gs ds x) lo tm) (fun a=>pT (bW (aU gs ds y) lo tm) (fun b=>xF op (bl a) (bl b)) none) none with ⟨s,e,h⟩|h
 · rw [h] at hv
   rcases mV (bW (aU gs ds y) lo tm) (fun b=>xF op (bl s) (bl b)) none with ⟨s',e',h'⟩|h'
   · rw [h'] at hv
     rw [e] at hx;rw [e'] at hy
     have hx:=hx.jW
     have hy:=hy.jW
     refine ⟨v,?_,?_⟩
     · simp only [execOp,ho,hx,hy,Sem.run_bind]
       rw [eV _ _ _ _ _ _ _ trivial]
       cases op<;>first
        | (cases hv;done)
        | (have:=gU hv;subst this;simp [binOp,Op.stringOp,uE,aAW,aRv,Im];done)
        | (unfold xF at hv
           obtain ⟨h1,h2⟩:=dC hv
           cases h2
           have hlt:=Nat.blt_eq.mp h1
           rw [eF,eF,jD,jD] at hlt
           have hlt':s.size+s'.size<9223372036854775808:=hlt
           have:¬ (((s.size+s'.size:Nat):Int)>IntKind.i64.max):=by
            simp [IntKind.max,IntKind.signed,IntKind.bits];omega
           simp only [binOp,Op.stringOp,Result.andThen_ok]
           rw [if_neg this]
           have e3:aRw (bl s) (bl s')=s++s':=aNR s s'
           simp only [Sem.run_pure,Result.andThen_ok,← e3]
           rfl)
     · cases op<;>first
        | (cases hv;done)
        | (have:=gU hv;subst this;exact .bool _)
        | (unfold xF at hv
           obtain ⟨h1,h2⟩:=dC hv
           cases h2
           exact .string _)
   · rw [h'] at hv;cases hv
 · rw [h] at hv;cases hv
theorem Fp (neg:Bool) {t:TypeId} {x y:Value} {b:Bool} {w:World} (h:∀ d,(Op.equalIn (d+1) t x y).run P w=.ok b w)
 (hb:binOp (if neg then .neq else .eql) t x y=if neg then (do pure (.bool (!(← Op.equal t x y)))) else (do pure (.bool (← Op.equal t x y)))) :
 (binOp (if neg then .neq else .eql) t x y).run P w=.ok (.bool (pG neg (!b))) w:=by
 have h9:(Op.equal t x y).run P w=.ok b w:=h 9999
 rw [hb]
 cases neg<;>cases b<;>simp [h9,pG]
theorem Hs {neg:Bool} {op:BinOp} {t yt:TypeId} {x y:Operand} (ho:o.op=.binOp op t x y yt) (hop:op=if neg then .neq else .eql) (ht:P.underlying t=some .bool) :
 eB P gs ds o (sF neg (aU gs ds x) (aU gs ds y)):=by
 intro lo tm v hv f a w hG hE
 have hx:=bJ hG hE x
 have hy:=bJ hG hE y
 unfold sF at hv
 rcases rC (bW (aU gs ds x) lo tm) (fun a=>kZ (bW (aU gs ds y) lo tm) (fun b=>gB (pG neg (!pG a b))) none) none with ⟨p,e,h⟩|h
 · rw [h] at hv
   rcases rC (bW (aU gs ds y) lo tm) (fun b=>gB (pG neg (!pG p b))) none with ⟨q,e',h'⟩|h'
   · rw [h'] at hv
     rw [e] at hx;rw [e'] at hy
     have hx:=hx.sM
     have hy:=hy.sM
     have:=gU hv;subst this
     refine ⟨_,?_,.bool _⟩
     simp only [execOp,ho,hx,hy,Sem.run_bind]
     rw [eV _ _ _ _ _ _ _ trivial]
     subst hop
     have hq:=Fp (P:=P) neg (fun d=>run_equalIn_bool' w d t p q ht) (by cases neg<;>rfl)
     simp only [Result.andThen_ok,hq]
     cases neg<;>cases p<;>cases q<;>rfl
   · rw [h'] at hv;cases hv
 · rw [h] at hv;cases hv
theorem iV {neg:Bool} {op:BinOp} {t yt:TypeId} {x:Operand} {c:Value} {isn:Value→Option Bool} (ho:o.op=.binOp op t x (.const c) yt) (hop:op=if neg then .neq else .eql)
 (hc1:match c with|.nilIface=>True|.agg _=>False|.int ..=>False|.float ..=>False|.complex ..=>False|.string _=>False|.bool _=>False|_=>True)
 (key:∀ f v v' b,bS f v v'→isn v=some b→(∀ d (w:World),(Op.equalIn (d+1) t v' c).run P w=.ok b w)∧(∀ neg:Bool,binOp (if neg then .neq else .eql) t v' c=if neg then (do pure (.bool (!(← Op.equal t v' c)))) else (do pure (.bool (← Op.equal t v' c))))∧(∀ xs,v'≠.agg xs)) :
 eB P gs ds o (jT isn neg (aU gs ds x)):=by
 intro lo tm v hv f a w hG hE
 have hx:=bJ hG hE x
 unfold jT at hv
 obtain ⟨b,hb,hv⟩:=fN _ _ hv
 have:=gU hv;subst this
 refine ⟨_,?_,.bool _⟩
 obtain ⟨h1,h2,h3⟩:=key _ _ _ _ hx hb
 have hc:a.eval (.const c)=c:=rfl
 subst hop
 simp only [execOp,ho,Sem.run_bind,hc]
 have hg:(eqGuard (if neg then BinOp.neq else BinOp.eql) t x (.const c) (a.eval x) c).run P w=.ok () w:=by
  generalize a.eval x=vx at *
  cases neg<;>cases c<;>first|exact hc1.elim|(cases vx<;>first|rfl|(cases x<;>rfl)|exact absurd rfl (h3 _))
 rw [hg]
 have hq:=Fp neg (fun d=>h1 d w) (h2 neg)
 simp only [Result.andThen_ok,hq]
 rfl
theorem Vc {t e:TypeId} (hu:P.underlying t=some (.pointer e)):∀ f v v' b,bS f v v'→aRj v=some b→(∀ d (w:World),(Op.equalIn (d+1) t v' (.pointer none)).run P w=.ok b w) ∧
 (∀ neg:Bool,binOp (if neg then .neq else .eql) t v' (.pointer none)=if neg then (do pure (.bool (!(← Op.equal t v' (.pointer none))))) else (do pure (.bool (← Op.equal t v' (.pointer none)))))∧(∀ xs,v'≠.agg xs):=by
 intro f v v' b h hb
 cases h<;>first
  | (cases hb;exact ⟨fun d w=>by simp [Op.equalIn,run_underlying hu],fun neg=>by cases neg<;>rfl,fun xs=>by simp⟩)
  | (cases hb)
theorem Vd {t e:TypeId} (hu:P.underlying t=some (.slice e)):∀ f v v' b,bS f v v'→aAG v=some b→(∀ d (w:World),(Op.equalIn (d+1) t v' (.slice none 0 0)).run P w=.ok b w) ∧
 (∀ neg:Bool,binOp (if neg then .neq else .eql) t v' (.slice none 0 0)=if neg then (do pure (.bool (!(← Op.equal t v' (.slice none 0 0))))) else (do pure (.bool (← Op.equal t v' (.slice none 0 0)))))∧(∀ xs,v'≠.agg xs):=by
 intro f v v' b h hb
 cases h<;>first
  | (cases hb;exact ⟨fun d w=>by simp [Op.equalIn,run_underlying hu],fun neg=>by cases neg<;>rfl,fun xs=>by simp⟩)
  | (cases hb)
theorem Ve {t k e:TypeId} (hu:P.underlying t=some (.map k e)):∀ f v v' b,bS f v v'→aRk v=some b→(∀ d (w:World),(Op.equalIn (d+1) t v' (.map none)).run P w=.ok b w) ∧
 (∀ neg:Bool,binOp (if neg then .neq else .eql) t v' (.map none)=if neg then (do pure (.bool (!(← Op.equal t v' (.map none))))) else (do pure (.bool (← Op.equal t v' (.map none)))))∧(∀ xs,v'≠.agg xs):=by
 intro f v v' b h hb
 cases h<;>first
  | (cases hb;exact ⟨fun d w=>by simp [Op.equalIn,run_underlying hu],fun neg=>by cases neg<;>rfl,fun xs=>by simp⟩)
  | (cases hb)
theorem Vf {t:TypeId} {ps rs:Array TypeId} {va:Bool} (hu:P.underlying t=some (.func ps rs va)):∀ f v v' b,bS f v v'→aRl v=some b→(∀ d (w:World),(Op.equalIn (d+1) t v' .nilFunc).run P w=.ok b w) ∧
 (∀ neg:Bool,binOp (if neg then .neq else .eql) t v' .nilFunc=if neg then (do pure (.bool (!(← Op.equal t v' .nilFunc)))) else (do pure (.bool (← Op.equal t v' .nilFunc))))∧(∀ xs,v'≠.agg xs):=by
 intro f v v' b h hb
 cases h<;>first
  | (cases hb;exact ⟨fun d w=>by simp [Op.equalIn,run_underlying hu],fun neg=>by cases neg<;>rfl,fun xs=>by simp⟩)
  | (cases hb)
theorem Vg {t:TypeId} {ms:Array (String×TypeId)} (hu:P.underlying t=some (.interface ms)):∀ f v v' b,bS f v v'→aAH v=some b→(∀ d (w:World),(Op.equalIn (d+1) t v' .nilIface).run P w=.ok b w) ∧
 (∀ neg:Bool,binOp (if neg then .neq else .eql) t v' .nilIface=if neg then (do pure (.bool (!(← Op.equal t v' .nilIface)))) else (do pure (.bool (← Op.equal t v' .nilIface))))∧(∀ xs,v'≠.agg xs):=by
 intro f v v' b h hb
 cases h<;>first
  | (cases hb;exact ⟨fun d w=>by simp [Op.equalIn,run_underlying hu],fun neg=>by cases neg<;>rfl,fun xs=>by simp⟩)
  | (cases hb)
theorem Vh {neg:Bool} {op:BinOp} {t yt e:TypeId} {x y:Operand} (ho:o.op=.binOp op t x y yt) (hop:op=if neg then .neq else .eql) (hu:P.underlying t=some (.pointer e)) (hs:P.cellsOf e≠0) :
 eB P gs ds o (aHx neg (aU gs ds x) (aU gs ds y)):=by
 intro lo tm v hv f a w hG hE
 have hx:=bJ hG hE x
 have hy:=bJ hG hE y
 unfold aHx at hv
 obtain ⟨b,hb,hv⟩:=fN _ _ hv
 have:=gU hv;subst this
 refine ⟨_,?_,.bool _⟩
 have hi:∃ i,P.info? e=some i∧i.size≠0:=by
  unfold Program.cellsOf at hs
  cases hi:P.info? e with
  | none=>simp [hi] at hs
  | some i=>exact ⟨i,rfl,by simpa [hi] using hs⟩
 obtain ⟨i,hi,hi0⟩:=hi
 have hsz:∀ w:World,(sizeOf e).run P w=.ok i.size w:=fun w=>by simp [sizeOf,typeInfo,hi]
 subst hop
 have main:∃ p q,a.eval x=.pointer p∧a.eval y=.pointer q∧∀ d (w:World),(Op.equalIn (d+1) t (.pointer p) (.pointer q)).run P w=.ok b w:=by
  generalize bW (aU gs ds x) lo tm=vx at *
  generalize bW (aU gs ds y) lo tm=vy at *
  generalize a.eval x=ux at *
  generalize a.eval y=uy at *
  cases hx<;>first|(cases hb;done)|skip
  · cases hy<;>first|(cases hb;done)|skip
    · cases hb;exact ⟨_,_,rfl,rfl,fun d w=>by simp [Op.equalIn,run_underlying hu]⟩
    · cases hb;exact ⟨_,_,rfl,rfl,fun d w=>by simp [Op.equalIn,run_underlying hu]⟩
  · rename_i b1 o1 i1 hf1
    cases hy<;>first|(cases hb;done)|skip
    · cases hb;exact ⟨_,_,rfl,rfl,fun d w=>by simp [Op.equalIn,run_underlying hu]⟩
    · rename_i b2 o2 i2 hf2
      have hb':(bif Nat.beq b1 b2 then some (Nat.beq o1 o2) else none)=some b:=hb
      obtain ⟨e1,e2⟩:=dC hb'
      have:=Nat.eq_of_beq_eq_true e1;subst this
      rw [hf1] at hf2;cases hf2
      cases e2
      refine ⟨_,_,rfl,rfl,fun d w=>?_⟩
      simp only [Op.equalIn,Sem.run_bind,run_underlying hu,Result.andThen_ok,hsz,ne_eq,hi0,not_false_eq_true,if_true,sameAddr,beq_self_eq_true,Sem.run_pure]
      congr 1
      rw [Bool.eq_iff_iff,Nat.beq_eq,beq_iff_eq]
      simp
 obtain ⟨p,q,hp,hq,hrun⟩:=main
 simp only [execOp,ho,Sem.run_bind,hp,hq]
 have hg:(eqGuard (if neg then BinOp.neq else BinOp.eql) t x y (.pointer p) (.pointer q)).run P w=.ok () w:=eV _ _ _ _ _ _ _ trivial
 rw [hg]
 have hq:=Fp neg (fun d=>hrun d w) (by cases neg<;>rfl)
 simp only [Result.andThen_ok,hq]
 rfl
theorem Rg {f:Map} {x y x' y':Value} {b:Bool} (hx:bS f x x') (hy:bS f y y') (h:sEq x y=some b):x'=x∧y'=y ∧
 ((∃ k m n,x=.int k m∧y=.int k n∧b=(m == n))∨(∃ p q,x=.bool p∧y=.bool q∧b=(p == q))∨(∃ p q,x=.string p∧y=.string q∧b=(p.toList == q.toList))):=by
 cases x with
 | int k m =>
  rcases jV y (fun k' b=>bif kEq k k' then some (Pb m b) else none) none with ⟨k',n,rfl,e⟩|e
  · have h':jQ (.int k' n) (fun k' b=>bif kEq k k' then some (Pb m b) else none) none=some b:=h
    rw [e] at h'
    obtain ⟨h1,h2⟩:=dC h'
    have:=aHN h1;subst this
    cases h2
    exact ⟨hx.gI,hy.gI,.inl ⟨k,m,n,rfl,rfl,by rw [Kd];rfl⟩⟩
  · have h':jQ y (fun k' b=>bif kEq k k' then some (Pb m b) else none) none=some b:=h
    rw [e] at h';cases h'
 | bool p =>
  rcases rC y (fun q=>some (p == q)) none with ⟨q,rfl,e⟩|e
  · cases h
    exact ⟨hx.sM,hy.sM,.inr (.inl ⟨p,q,rfl,rfl,rfl⟩)⟩
  · have h':kZ y (fun q=>some (p == q)) none=some b:=h
    rw [e] at h';cases h'
 | string p =>
  rcases mV y (fun q=>some (Uk (bl p) (bl q))) none with ⟨q,rfl,e⟩|e
  · cases h
    exact ⟨hx.jW,hy.jW,.inr (.inr ⟨p,q,rfl,rfl,by rw [aAW,uE,uE]⟩)⟩
  · have h':pT y (fun q=>some (Uk (bl p) (bl q))) none=some b:=h
    rw [e] at h';cases h'
 | _=>cases h
end
section
variable {P:Program} {gs:List Nat} {ds:List (Option Tmp)} {o:Oper}
theorem aHV {x:Operand} {t:TypeId} (ho:o.op=.unOp .not t x):eB P gs ds o (mO (aU gs ds x)):=by
 intro lo tm v hv f a w hG hE
 have hx:=bJ hG hE x
 unfold mO at hv
 rcases rC (bW (aU gs ds x) lo tm) (fun b=>gB (!b)) none with ⟨b,e,h⟩|h
 · rw [h] at hv;rw [e] at hx
   have hx:=hx.sM
   have:=gU hv;subst this
   exact ⟨_,by simp [execOp,ho,hx,Op.unary],.bool _⟩
 · rw [h] at hv;cases hv
theorem aHW {x:Operand} {t:TypeId} (ho:o.op=.unOp .neg t x):eB P gs ds o (aEW (aU gs ds x)):=by
 intro lo tm v hv f a w hG hE
 have hx:=bJ hG hE x
 unfold aEW at hv
 rcases jV (bW (aU gs ds x) lo tm) (fun kd a=>nU kd (aR kd (-a))) none with ⟨k,n,e,h⟩|h
 · rw [h] at hv;rw [e] at hx
   have hx:=hx.gI
   have:=kD hv;subst this
   exact ⟨_,by simp [execOp,ho,hx,Op.unary,Op.intArith,pJ],.int _ _⟩
 · rw [h] at hv;cases hv
theorem aHX {x:Operand} {t:TypeId} (ho:o.op=.unOp .xor t x):eB P gs ds o (aNy (aU gs ds x)):=by
 intro lo tm v hv f a w hG hE
 have hx:=bJ hG hE x
 unfold aNy at hv
 rcases jV (bW (aU gs ds x) lo tm) (fun kd a=>bif Ju kd then none else qV a (fun a=>bif Nat.blt a (iE kd) then jS kd (Nat.sub (Nat.sub (iE kd) 1) a) else none) none) none with ⟨k,z,e,h⟩|h
 · rw [h] at hv;rw [e] at hx
   have hx:=hx.gI
   cases hs:Ju k with
   | true=>rw [hs] at hv;cases hv
   | false =>
    rw [hs] at hv
    have hv':qV z (fun a=>bif Nat.blt a (iE k) then jS k (Nat.sub (Nat.sub (iE k) 1) a) else none) none=some v:=hv
    rcases mW z (fun a=>bif Nat.blt a (iE k) then jS k (Nat.sub (Nat.sub (iE k) 1) a) else none) none with ⟨n,rfl,e'⟩|e'
    · rw [e'] at hv'
      obtain ⟨h1,h2⟩:=dC hv'
      rw [lY] at h2;cases h2
      have hlt:=Nat.blt_eq.mp h1
      refine ⟨_,?_,.int _ _⟩
      have hM:iE k=2 ^ k.bits:=aDn k
      have hsg:k.signed=false:=by cases k<;>first|rfl|cases hs
      have hmax:(k.max:Int)=((2 ^ k.bits - 1:Nat):Int):=by
       unfold IntKind.max
       rw [hsg]
       cases k<;>simp [IntKind.bits]
      have hn:(BitVec.ofInt k.bits k.max)=BitVec.allOnes k.bits:=by
       rw [hmax,qP]
       apply BitVec.eq_of_toNat_eq
       simp
      have e2:(Op.intBits .xor k k.max (n:Int)).run P w=.ok (.int k ((iE k - 1 - n:Nat):Int)) w:=by
       simp only [Op.intBits,hn,qP,Sem.run_pure]
       congr 2
       rw [BitVec.allOnes_xor,BitVec.toNat_not,BitVec.toNat_ofNat,← hM,Nat.mod_eq_of_lt hlt]
       have hh:half k=iE k:=by cases k<;>first|rfl|cases hs
       exact yC k _ (by rw [hh];omega)
      simp only [execOp,ho,hx,Op.unary,hsg,Sem.run_bind]
      simp only [Bool.false_eq_true,if_false,e2,Result.andThen_ok]
      rfl
    · rw [e'] at hv';cases hv'
 · rw [h] at hv;cases hv
theorem aAY {x:Operand} {s d:TypeId} {k:IntKind} {ts:TypeDesc} (ho:o.op=.convert s d x) (hs:P.underlying s=some ts) (hd:P.underlying d=some (.int k)):eB P gs ds o (eA k (aU gs ds x)):=by
 intro lo tm v hv f a w hG hE
 have hx:=bJ hG hE x
 unfold eA at hv
 rcases jV (bW (aU gs ds x) lo tm) (fun _ a=>nU k (aR k a)) none with ⟨k',n,e,h⟩|h
 · rw [h] at hv;rw [e] at hx
   have hx:=hx.gI
   have:=kD hv;subst this
   refine ⟨_,?_,.int _ _⟩
   simp only [execOp,ho,hx,convert,Sem.run_bind,run_underlying hs,run_underlying hd,Result.andThen_ok]
   cases ts<;>simp [Conv.intToInt,pJ]
 · rw [h] at hv;cases hv
theorem Rh {x:Operand} {s d:TypeId} (ho:o.op=.convert s d x) (hs:P.underlying s=some .string) (hd:P.underlying d=some .string):eB P gs ds o (Cw (aU gs ds x)):=by
 intro lo tm v hv f a w hG hE
 have hx:=bJ hG hE x
 unfold Cw at hv
 rcases mV (bW (aU gs ds x) lo tm) (fun s=>some (Value.string s)) none with ⟨b,e,h⟩|h
 · rw [h] at hv;rw [e] at hx
   have hx:=hx.jW
   cases hv
   exact ⟨_,by simp [execOp,ho,hx,convert,run_underlying hs,run_underlying hd],.string _⟩
 · rw [h] at hv;cases hv
theorem aHY {x:Operand} {t:TypeId} {d:TypeDesc} (ho:o.op=.makeInterface t x) (ht:P.underlying t=some d) (hd:∀ ms,d≠.interface ms):eB P gs ds o (As t (aU gs ds x)):=by
 intro lo tm v hv f a w hG hE
 cases hv
 refine ⟨_,?_,bS.aHU (bJ hG hE x)⟩
 simp only [execOp,ho,Instr.makeInterface,Sem.run_bind,run_underlying ht,Result.andThen_ok]
 cases d<;>first|rfl|exact absurd rfl (hd _)
theorem aHZ {g:FuncId} {first cap:Array Operand} (ho:o.op=.makeFunc (.func g) first cap):eB P gs ds o (Ur g (first.toList.map (aU gs ds)) (cap.toList.map (aU gs ds))):=by
 intro lo tm v hv f a w hG hE
 cases hv
 have h1:=(vB (a:=a) hG hE first.toList)
 have h2:=(vB (a:=a) hG hE cap.toList)
 refine ⟨.func (.func g) (first.map a.eval) (cap.map a.eval),by simp [execOp,ho,Instr.makeFunc],?_⟩
 have e1:first.map a.eval=(first.toList.map a.eval).toArray:=Array.toList_inj.1 (by simp only [Array.toList_map])
 have e2:cap.map a.eval=(cap.toList.map a.eval).toArray:=Array.toList_inj.1 (by simp only [Array.toList_map])
 rw [e1,e2]
 exact .func _ _ _ _ _ (by simpa using h1.1) (by simpa using h2.1) h1.Ct.2 h2.Ct.2
theorem Vi {x:Operand} (ho:o.op=.nilCheck x):eB P gs ds o (bI (aU gs ds x)):=by
 intro lo tm v hv f a w hG hE
 have hx:=bJ hG hE x
 unfold bI Qu at hv
 generalize bW (aU gs ds x) lo tm=vx at *
 cases vx with
 | pointer p =>
  cases p with
  | none=>cases hv
  | some p =>
   cases hv
   obtain ⟨hs,i,hi,hxe⟩:=hx.mX
   refine ⟨a.eval x,?_,hx⟩
   simp [execOp,ho,hxe]
 | func g p q =>
  cases g with
  | func g =>
   cases hv
   obtain ⟨p',q',hxe,_,_⟩:=hx.aAT
   refine ⟨a.eval x,?_,hx⟩
   simp [execOp,ho,hxe]
  | _=>cases hv
 | _=>cases hv
theorem aDo {l:List Value} {i:Nat} (h:i<l.length):nth l i=l[i]:=by
 induction l generalizing i with
 | nil=>simp at h
 | cons a l ih =>
  cases i with
  | zero=>rfl
  | succ i=>exact ih (by simpa using h)
theorem dA.get {f:Map} {l l':List Value} (h:dA f l l') {i:Nat} (hi:i<l.length):∃ v',l'[i]?=some v'∧bS f (nth l i) v':=by
 rw [aDo hi]
 exact h.2 i _ (by simp [hi])
theorem Vj {α:Type} (n:Nat) (l:List α):Pc n l=l.drop n:=by
 induction n generalizing l with
 | zero=>rfl
 | succ n ih =>
  cases l with
  | nil=>rfl
  | cons a l=>exact ih l
theorem Kf {α:Type} (n:Nat) (l:List α):xW n l=l.take n:=by
 induction n generalizing l with
 | zero=>rfl
 | succ n ih =>
  cases l with
  | nil=>rfl
  | cons a l=>show a::xW n l=_;rw [ih];rfl
theorem dA.drop {f:Map} {l l':List Value} (h:dA f l l') (n:Nat):dA f (l.drop n) (l'.drop n):=by
 refine ⟨by simp [h.1],fun i v hv=>?_⟩
 rw [List.getElem?_drop] at hv ⊢
 exact h.2 _ v hv
theorem dA.take {f:Map} {l l':List Value} (h:dA f l l') (n:Nat):dA f (l.take n) (l'.take n):=by
 refine ⟨by simp [h.1],fun i v hv=>?_⟩
 rw [List.getElem?_take] at hv ⊢
 split at hv
 · rename_i hi
   rw [if_pos hi]
   exact h.2 _ v hv
 · cases hv
theorem Kg {f:Map} {l:List Value} {cs:Array Value} {off:Nat} {v:Value} (h:dA f l cs.toList) (hv:xH off l=some v):∃ v',cs[off]?=some v'∧bS f v v':=by
 unfold xH at hv
 obtain ⟨h1,h2⟩:=dC hv
 have hlt:=Nat.blt_eq.mp h1
 rw [eF] at hlt
 cases h2
 obtain ⟨v',a,b⟩:=h.get hlt
 exact ⟨v',by simpa using a,b⟩
theorem Vk {f:Map} {l:List Value} {cs:Array Value} {off n:Nat} {v:Value} (h:dA f l cs.toList) (hv:Jw off n l=some v):bS f v (.agg (cs.extract off (off+n))):=by
 unfold Jw at hv
 obtain ⟨h1,h2⟩:=dC hv
 cases h2
 rw [Kf,Vj]
 have:=bS.Cu ((h.drop off).take n)
 have e:cs.extract off (off+n)=(((cs.toList.drop off).take n).toArray):=by
  apply Array.toList_inj.1
  simp
 rw [e]
 exact this
theorem mY {t:TypeId} (h:eR P t=false) {d:TypeDesc} (hu:P.underlying t=some d) (w:World):(isAgg t).run P w=.ok false w:=by
 unfold eR at h
 rw [hu] at h
 simp only [isAgg,Sem.run_bind,run_underlying hu,Result.andThen_ok]
 cases d<;>first|rfl|cases h
theorem pK {t:TypeId} (h:eR P t=true) (w:World):(isAgg t).run P w=.ok true w:=by
 unfold eR at h
 cases hu:P.underlying t with
 | none=>rw [hu] at h;cases h
 | some d =>
  rw [hu] at h
  simp only [isAgg,Sem.run_bind,run_underlying hu,Result.andThen_ok]
  cases d<;>first|rfl|cases h
theorem run_sizeOf {t:TypeId} {d:TypeDesc} (hu:P.underlying t=some d) (w:World):(sizeOf t).run P w=.ok (sz P t) w:=by
 unfold Program.underlying at hu
 cases hi:P.info? t with
 | none=>rw [hi] at hu;cases hu
 | some i=>simp [sizeOf,typeInfo,hi,sz,Program.cellsOf]
theorem aE4 {x:Operand} {s:TypeId} {i:Nat} {fs:Array Field} {fd:Field} {d:TypeDesc} (ho:o.op=.field s x i) (hs:P.underlying s=some (.struct fs)) (hf:fs[i]?=some fd)
 (hd:P.underlying fd.type=some d) (hagg:eR P fd.type=false):eB P gs ds o (aDe fd.offset (aU gs ds x)):=by
 intro lo tm v hv f a w hG hE
 have hx:=bJ hG hE x
 unfold aDe at hv
 rcases vA (bW (aU gs ds x) lo tm) (xH fd.offset) none with ⟨c,e,h⟩|h
 · rw [h] at hv;rw [e] at hx
   obtain ⟨c',hxe,hl⟩:=hx.vC
   obtain ⟨v',h1,h2⟩:=Kg hl hv
   refine ⟨v',?_,h2⟩
   simp [execOp,ho,Instr.field,run_underlying hs,hf,hxe,asAgg,part,mY hagg hd,h1]
 · rw [h] at hv;cases hv
theorem aE5 {x:Operand} {s:TypeId} {i:Nat} {fs:Array Field} {fd:Field} {d:TypeDesc} (ho:o.op=.field s x i) (hs:P.underlying s=some (.struct fs)) (hf:fs[i]?=some fd)
 (hd:P.underlying fd.type=some d) (hagg:eR P fd.type=true):eB P gs ds o (aDf fd.offset (sz P fd.type) (aU gs ds x)):=by
 intro lo tm v hv f a w hG hE
 have hx:=bJ hG hE x
 unfold aDf at hv
 rcases vA (bW (aU gs ds x) lo tm) (Jw fd.offset (sz P fd.type)) none with ⟨c,e,h⟩|h
 · rw [h] at hv;rw [e] at hx
   obtain ⟨c',hxe,hl⟩:=hx.vC
   refine ⟨_,?_,Vk hl hv⟩
   simp [execOp,ho,Instr.field,run_underlying hs,hf,hxe,asAgg,part,pK hagg,run_sizeOf hd]
 · rw [h] at hv;cases hv
theorem aH0 {x:Operand} {i:Nat} (ho:o.op=.extract x i):eB P gs ds o (dS i (aU gs ds x)):=by
 intro lo tm v hv f a w hG hE
 have hx:=bJ hG hE x
 unfold dS at hv
 rcases aNJ (bW (aU gs ds x) lo tm) (xH i) none with ⟨c,e,h⟩|h
 · rw [h] at hv;rw [e] at hx
   obtain ⟨c',hxe,hl⟩:=hx.aNQ
   obtain ⟨v',h1,h2⟩:=Kg hl hv
   exact ⟨v',by simp [execOp,ho,Instr.extract,hxe,h1],h2⟩
 · rw [h] at hv;cases hv
theorem aH1 {x i:Operand} {t e:TypeId} {n:Nat} {d:TypeDesc} (ho:o.op=.index t x i) (ht:P.underlying t=some (.array n e)) (hd:P.underlying e=some d) (hagg:eR P e=false) (hs:sz P e=1) :
 eB P gs ds o (aHB n (aU gs ds x) (aU gs ds i)):=by
 intro lo tm v hv f a w hG hE
 have hx:=bJ hG hE x
 have hi:=bJ hG hE i
 unfold aHB at hv
 rcases oZ (bW (aU gs ds i) lo tm) (fun i=>uX (bW (aU gs ds x) lo tm) (fun l=>bif Nat.blt i n then xH i l else none) none) none with ⟨k,m,e1,h1⟩|h1
 · rw [h1] at hv;rw [e1] at hi
   rcases vA (bW (aU gs ds x) lo tm) (fun l=>bif Nat.blt m n then xH m l else none) none with ⟨c,e2,h2⟩|h2
   · rw [h2] at hv;rw [e2] at hx
     have hi:=hi.gI
     obtain ⟨c',hxe,hl⟩:=hx.vC
     obtain ⟨hb,hv2⟩:=dC hv
     have hlt:=Nat.blt_eq.mp hb
     obtain ⟨v',h3,h4⟩:=Kg hl hv2
     refine ⟨v',?_,h4⟩
     simp [execOp,ho,Instr.index,hi,asIntOf,run_underlying ht,hxe,hlt,run_sizeOf hd,hs,part,mY hagg hd,h3]
   · rw [h2] at hv;cases hv
 · rw [h1] at hv;cases hv
theorem aH3 {x i:Operand} {t e:TypeId} {n:Nat} {d:TypeDesc} (ho:o.op=.index t x i) (ht:P.underlying t=some (.array n e)) (hd:P.underlying e=some d) (hagg:eR P e=true) :
 eB P gs ds o (aNz n (sz P e) (aU gs ds x) (aU gs ds i)):=by
 intro lo tm v hv f a w hG hE
 have hx:=bJ hG hE x
 have hi:=bJ hG hE i
 unfold aNz at hv
 rcases oZ (bW (aU gs ds i) lo tm) (fun i=>uX (bW (aU gs ds x) lo tm) (fun l=>bif Nat.blt i n then Jw (Nat.mul i (sz P e)) (sz P e) l else none) none) none with ⟨k,m,e1,h1⟩|h1
 · rw [h1] at hv;rw [e1] at hi
   rcases vA (bW (aU gs ds x) lo tm) (fun l=>bif Nat.blt m n then Jw (Nat.mul m (sz P e)) (sz P e) l else none) none with ⟨c,e2,h2⟩|h2
   · rw [h2] at hv;rw [e2] at hx
     have hi:=hi.gI
     obtain ⟨c',hxe,hl⟩:=hx.vC
     obtain ⟨hb,hv2⟩:=dC hv
     have hlt:=Nat.blt_eq.mp hb
     refine ⟨_,?_,Vk hl hv2⟩
     simp [execOp,ho,Instr.index,hi,asIntOf,run_underlying ht,hxe,hlt,run_sizeOf hd,part,pK hagg]
   · rw [h2] at hv;cases hv
 · rw [h1] at hv;cases hv
theorem aDp (l:List UInt8) (i:Nat):Jx l i=l[i]?:=by
 induction l generalizing i with
 | nil=>rfl
 | cons a l ih =>
  cases i with
  | zero=>rfl
  | succ i=>exact ih i
theorem aAZ {x i:Operand} {t:TypeId} (ho:o.op=.index t x i) (ht:P.underlying t=some .string):eB P gs ds o (xY (aU gs ds x) (aU gs ds i)):=by
 intro lo tm v hv f a w hG hE
 have hx:=bJ hG hE x
 have hi:=bJ hG hE i
 unfold xY at hv
 rcases oZ (bW (aU gs ds i) lo tm) (fun i=>pT (bW (aU gs ds x) lo tm) (fun s=>eC (Jx (bl s) i) (fun b=>jS .u8 b.toNat) none) none) none with ⟨k,m,e1,h1⟩|h1
 · rw [h1] at hv;rw [e1] at hi
   rcases mV (bW (aU gs ds x) lo tm) (fun s=>eC (Jx (bl s) m) (fun b=>jS .u8 b.toNat) none) none with ⟨s,e2,h2⟩|h2
   · rw [h2] at hv;rw [e2] at hx
     have hi:=hi.gI
     have hx:=hx.jW
     obtain ⟨b,hb,hv⟩:=fN _ _ hv
     rw [lY] at hv;cases hv
     rw [aDp] at hb
     refine ⟨_,?_,.int _ _⟩
     have hlt:m<s.size:=by
      have:=(List.getElem?_eq_some_iff.1 hb).1
      rwa [jD] at this
     have hsb:s[m]?=some b:=by
      have h3:(bl s)[m]?=s[m]?:=by
       rw [getElem?_pos s m hlt,List.getElem?_eq_getElem (by rw [jD];exact hlt)]
       rfl
      rw [← h3];exact hb
     simp [execOp,ho,Instr.index,hi,asIntOf,run_underlying ht,hx,hsb]
   · rw [h2] at hv;cases hv
 · rw [h1] at hv;cases hv
end
section
variable {P:Program} {gs:List Nat} {ds:List (Option Tmp)} {o:Oper}
theorem uF (b o n:Nat):(Addr.add ⟨b,o,none⟩ n)=⟨b,o+n,none⟩:=by
 unfold Addr.add
 by_cases h:n=0
 · subst h;rfl
 · rw [if_neg h]
theorem aE6 {x:Operand} {s:TypeId} {i:Nat} {fs:Array Field} {fd:Field} {d:TypeDesc} (ho:o.op=.fieldAddr s x i) (hs:P.underlying s=some (.struct fs)) (hf:fs[i]?=some fd)
 (hd:P.underlying fd.type=some d) (hz:sz P fd.type≠0):eB P gs ds o (aO fd.offset (aU gs ds x)):=by
 intro lo tm v hv f a w hG hE
 have hx:=bJ hG hE x
 unfold aO at hv
 rcases oW (bW (aU gs ds x) lo tm) (fun b o=>bN (Nat.add o fd.offset) fun o=>some (bE b o)) none with ⟨p,e,h⟩|h
 · rw [h,bD] at hv;rw [e] at hx
   cases hv
   obtain ⟨hsp,im,hi,hxe⟩:=hx.mX
   refine ⟨.pointer (some ⟨im.fE,im.o+(p.off+fd.offset),none⟩),?_,.ptr _ _ im hi⟩
   simp [execOp,ho,Instr.fieldAt,run_underlying hs,hf,hxe,Instr.sureAddr,fieldPlace,run_sizeOf hd,hz,uF,Nat.add_assoc]
 · rw [h] at hv;cases hv
theorem aA0 {x i:Operand} {t e:TypeId} {n:Nat} {d:TypeDesc} (ho:o.op=.indexAddr t x i) (ht:P.underlying t=some (.array n e)) (hd:P.underlying e=some d) :
 eB P gs ds o (eQ n (sz P e) (aU gs ds x) (aU gs ds i)):=by
 intro lo tm v hv f a w hG hE
 have hx:=bJ hG hE x
 have hi:=bJ hG hE i
 unfold eQ at hv
 rcases oZ (bW (aU gs ds i) lo tm) (fun i=>kO (bW (aU gs ds x) lo tm) (fun b o=>bif Nat.blt i n then bN (Nat.add o (Nat.mul i (sz P e))) fun o=>some (bE b o) else none) none) none with ⟨k,m,e1,h1⟩|h1
 · rw [h1] at hv;rw [e1] at hi
   rcases oW (bW (aU gs ds x) lo tm) (fun b o=>bif Nat.blt m n then bN (Nat.add o (Nat.mul m (sz P e))) fun o=>some (bE b o) else none) none with ⟨p,e2,h2⟩|h2
   · rw [h2] at hv;rw [e2] at hx
     have hi:=hi.gI
     obtain ⟨hsp,im,him,hxe⟩:=hx.mX
     obtain ⟨hb,hv2⟩:=dC hv
     rw [bD] at hv2
     cases hv2
     have hlt:=Nat.blt_eq.mp hb
     refine ⟨.pointer (some ⟨im.fE,im.o+(p.off+m*sz P e),none⟩),?_,.ptr _ _ im him⟩
     simp [execOp,ho,Instr.indexAt,hi,asIntOf,run_underlying ht,hxe,Instr.sureAddr,hlt,run_sizeOf hd,uF,Nat.add_assoc]
   · rw [h2] at hv;cases hv
 · rw [h1] at hv;cases hv
theorem bS.lF {f:Map} {v':Value} {a:Addr} {l c:Nat} (h:bS f (.slice (some a) l c) v'):∃ i,f a.block=some i ∧
 ((c<eY∧l≤c∧v'=.slice (some ⟨i.fE,i.o+a.off,none⟩) l c) ∨
  (∃ lb o' c',c=eY*(i.s+1)+lb∧lb<eY∧l≤lb∧lb≤c'∧(o'=i.o+a.off∨lb=0)∧o'+c'*i.s≤i.n∧v'=.slice (some ⟨i.fE,o',none⟩) l c')):=by
 cases h with
 | slice b o _ _ i h hc hl=>exact ⟨i,h,.inl ⟨hc,hl,rfl⟩⟩
 | iM b o _ _ lb i o' c' h hc hlb hl hb ho hn=>exact ⟨i,h,.inr ⟨lb,o',c',hc,hlb,hl,hb,ho,hn,rfl⟩⟩
theorem bS.aH4 {f:Map} {v':Value} {a:Addr} {l c:Nat} (h:bS f (.slice (some a) l c) v') (hl:0<l):∃ i c',f a.block=some i∧v'=.slice (some ⟨i.fE,i.o+a.off,none⟩) l c':=by
 obtain ⟨i,hi,h|⟨lb,o',c',_,_,h1,_,h2,_,h3⟩⟩:=h.lF
 · exact ⟨i,c,hi,h.2.2⟩
 · rcases h2 with h2|h2
   · subst h2;exact ⟨i,c',hi,h3⟩
   · omega
theorem aE7 {x i:Operand} {t e:TypeId} {d:TypeDesc} (ho:o.op=.indexAddr t x i) (ht:P.underlying t=some (.slice e)) (hd:P.underlying e=some d) :
 eB P gs ds o (dZ (sz P e) (aU gs ds x) (aU gs ds i)):=by
 intro lo tm v hv f a w hG hE
 have hx:=bJ hG hE x
 have hi:=bJ hG hE i
 unfold dZ at hv
 rcases oZ (bW (aU gs ds i) lo tm) (fun i=>rW (bW (aU gs ds x) lo tm) (fun b o l _=>bif Nat.blt i l then bN (Nat.add o (Nat.mul i (sz P e))) fun o=>some (bE b o) else none) (fun _ _=>none) none) none with ⟨k,m,e1,h1⟩|h1
 · rw [h1] at hv;rw [e1] at hi
   rcases Av (bW (aU gs ds x) lo tm) (fun b o l _=>bif Nat.blt m l then bN (Nat.add o (Nat.mul m (sz P e))) fun o=>some (bE b o) else none) (fun _ _=>none) none with ⟨p,l,c,e2,h2⟩|⟨l,c,e2,h2⟩|h2
   · rw [h2] at hv;rw [e2] at hx
     have hi:=hi.gI
     obtain ⟨hb,hv2⟩:=dC hv
     have hlt:=Nat.blt_eq.mp hb
     obtain ⟨im,c',him,hxe⟩:=hx.aH4 (by omega)
     rw [bD] at hv2
     cases hv2
     refine ⟨.pointer (some ⟨im.fE,im.o+(p.off+m*sz P e),none⟩),?_,.ptr _ _ im him⟩
     simp [execOp,ho,Instr.indexAt,hi,asIntOf,run_underlying ht,hxe,hlt,run_sizeOf hd,uF,Nat.add_assoc]
   · rw [h2] at hv;cases hv
   · rw [h2] at hv;cases hv
 · rw [h1] at hv;cases hv
theorem jG {x:Option Operand} {lo:List Value} {tm:T Value} {d t:Nat} {k:Nat→Option Value} {r:Value} (h:gQ (x.map (aU gs ds)) lo tm d t k none=some r) :
 ∃ n,k n=some r∧((x=none∧n=d)∨∃ y kd,x=some y∧n≤t∧∀ f (a:Act),mC gs f→Env f ds lo tm a.tmps→a.eval y=.int kd (n:Int)):=by
 cases x with
 | none=>exact ⟨d,h,.inl ⟨rfl,rfl⟩⟩
 | some y =>
  have h':lP (bW (aU gs ds y) lo tm) (fun i=>bif Nat.ble i t then bN i k else none) none=some r:=h
  rcases oZ (bW (aU gs ds y) lo tm) (fun i=>bif Nat.ble i t then bN i k else none) none with ⟨kd,n,e,h1⟩|h1
  · rw [h1] at h'
    obtain ⟨h2,h3⟩:=dC h'
    rw [bD] at h3
    refine ⟨n,h3,.inr ⟨y,kd,rfl,Nat.ble_eq.mp h2,fun f a hG hE=>?_⟩⟩
    have:=bJ (a:=a) hG hE y
    rw [e] at this
    exact this.gI
  · rw [h1] at h';cases h'
theorem qQ {w:World} {kd:IntKind} {n y:Nat} {code:BoundsCode} (h:n≤y):(Instr.sliceBound (.int kd (n:Int)) y code).run P w=.ok n w:=by
 simp [Instr.sliceBound,asIntOf,h]
theorem pL {w:World} {isSlice:Bool} {ln cp:Nat} {x y:Option Operand} {a:Act} {lw hi:Nat}
 (hh:(y=none∧hi=ln)∨∃ z kd,y=some z∧hi≤cp∧a.eval z=.int kd (hi:Int)) (hl:(x=none∧lw=0)∨∃ z kd,x=some z∧lw≤hi∧a.eval z=.int kd (lw:Int)) :
 (Instr.sliceBounds isSlice ln cp (x.map a.eval) (y.map a.eval) none).run P w=.ok (lw,hi,cp) w:=by
 unfold Instr.sliceBounds
 rcases hh with ⟨rfl,rfl⟩|⟨z,kd,rfl,h1,h2⟩<;>rcases hl with ⟨rfl,rfl⟩|⟨z',kd',rfl,h3,h4⟩<;>simp_all [qQ]
theorem Kh {b o s lw hi m:Nat} {v:Value} (h:xV b o s lw hi m=some v):v=cB b (o+lw*s) (hi - lw) (m - lw):=by
 unfold xV at h
 rw [bD,bD,bD] at h
 cases h
 rfl
theorem Db {f:Map} {b o s lw hi m:Nat} {v:Value} {i:Cn} (hi':f b=some i) (hlh:lw≤hi) (hhm:hi≤m) (hm:m<eY) (h:qW b o s lw hi m=some v) :
 bS f v (.slice (some (if m=lw then (⟨i.fE,i.o+o,none⟩:Addr) else (Addr.add ⟨i.fE,i.o+o,none⟩ (lw*s)))) (hi - lw) (m - lw)):=by
 unfold qW at h
 cases hb:Nat.beq lw m with
 | true =>
  rw [hb] at h;cases h
  have:=Nat.eq_of_beq_eq_true hb;subst this
  have:hi=lw:=by omega
  subst this
  rw [if_pos rfl,Nat.sub_self]
  exact .slice _ _ _ _ i hi' (by decide) (Nat.le_refl _)
 | false =>
  rw [hb] at h
  have:=Kh h;subst this
  have hne:¬ m=lw:=fun e=>by subst e;simp at hb
  rw [if_neg hne,uF,Nat.add_assoc]
  exact .slice _ _ _ _ i hi' (by omega) (by omega)
theorem jP {c:Nat} (h:c<eY):eU c=false∧sure c=c:=by
 have:eU c=false:=by
  unfold eU
  cases hb:Nat.ble eY c with
  | false=>rfl
  | true=>have:=Nat.ble_eq.mp hb;omega
 exact ⟨this,by unfold sure;rw [this];rfl⟩
theorem kK {c s lb:Nat} (h:c=eY*(s+1)+lb) (hlb:lb<eY):eU c=true∧sure c=lb∧esz c=s+1:=by
 have h1:eY≤c:=by subst h;unfold eY;omega
 have h2:eU c=true:=Nat.ble_eq.mpr h1
 refine ⟨h2,?_,?_⟩
 · unfold sure;rw [h2]
   show c % eY=lb
   rw [h,Nat.mul_add_mod]
   exact Nat.mod_eq_of_lt hlb
 · show c / eY=s+1
   rw [h,Nat.mul_add_div (by decide),Nat.div_eq_of_lt hlb]
theorem aH5 {f:Map} {b o s lw hi c lb:Nat} {v:Value} {i:Cn} {o' c':Nat} (hi':f b=some i) (hc:c=eY*(i.s+1)+lb) (hlb:lb<eY) (hb:lb≤c')
 (ho:o'=i.o+o∨lb=0) (hn:o'+c'*i.s≤i.n) (hlh:lw≤hi) (hhm:hi≤lb) (h:Qv b o s lw hi c=some v) :
 bS f v (.slice (some (if c'=lw then (⟨i.fE,o',none⟩:Addr) else (Addr.add ⟨i.fE,o',none⟩ (lw*s)))) (hi - lw) (c' - lw)):=by
 obtain ⟨_,hs,hz⟩:=kK hc hlb
 unfold Qv at h
 cases hb0:Nat.beq lw 0 with
 | true =>
  rw [hb0] at h;cases h
  have:=Nat.eq_of_beq_eq_true hb0;subst this
  have e:(if c'=0 then (⟨i.fE,o',none⟩:Addr) else (Addr.add ⟨i.fE,o',none⟩ (0*s)))=⟨i.fE,o',none⟩:=by
   rw [Nat.zero_mul];split<;>rfl
  rw [e]
  exact .iM _ _ _ _ lb i o' c' hi' hc hlb (by omega) hb ho hn
 | false =>
  rw [hb0] at h
  have hlw:lw≠0:=fun e=>by subst e;simp at hb0
  obtain ⟨h1,h2⟩:=dC h
  have hs':i.s=s:=by have:=Nat.eq_of_beq_eq_true h1;rw [hz] at this;omega
  subst hs'
  cases hb1:Nat.blt lw (sure c) with
  | true =>
   rw [hb1] at h2
   have:=Kh h2;subst this
   have hlt:=Nat.blt_eq.mp hb1
   rw [hs] at hlt
   rw [if_neg (by omega),uF]
   have hoo:o'=i.o+o:=by rcases ho with h|h;exact h;omega
   subst hoo
   have hmul:lw*i.s+(c' - lw)*i.s=c'*i.s:=by rw [← Nat.add_mul];congr 1;omega
   rw [Nat.add_assoc]
   exact .iM _ _ _ _ (lb - lw) i _ (c' - lw) hi' (by omega) (by omega) (by omega) (by omega) (.inl rfl) (by omega)
  | false =>
   rw [hb1] at h2
   have h':bN (Nat.sub c (sure c)) (fun c=>some (cB b o 0 c))=some v:=h2
   rw [bD] at h';cases h'
   have hge:¬ lw<sure c:=fun e=>by rw [Nat.blt_eq.mpr e] at hb1;cases hb1
   rw [hs] at hge
   have e1:hi - lw=0:=by omega
   rw [e1]
   have hc2:Nat.sub c (sure c)=eY*(i.s+1)+0:=by rw [hs];show c - _=_;omega
   rw [hc2]
   by_cases hcl:c'=lw
   · rw [if_pos hcl]
     exact .iM _ _ _ _ 0 i _ _ hi' rfl (by decide) (Nat.le_refl _) (Nat.zero_le _) (.inr rfl) (by rw [hcl,Nat.sub_self];omega)
   · rw [if_neg hcl,uF]
     have hmul:lw*i.s+(c' - lw)*i.s=c'*i.s:=by rw [← Nat.add_mul];congr 1;omega
     exact .iM _ _ _ _ 0 i _ _ hi' rfl (by decide) (Nat.le_refl _) (Nat.zero_le _) (.inr rfl) (by omega)
theorem aH6 {x:Operand} {t e:TypeId} {l h m:Option Operand} {d:TypeDesc} (ho:o.op=.slice t x l h m) (ht:P.underlying t=some (.slice e)) (hd:P.underlying e=some d) :
 eB P gs ds o (qY (sz P e) (aU gs ds x) (l.map (aU gs ds)) (h.map (aU gs ds)) (m.map (aU gs ds))):=by
 intro lo tm v hv f a w hG hE
 have hx:=bJ hG hE x
 have hrun:∀ (y:Value) w,(Instr.sliceAt t y (l.map a.eval) (h.map a.eval) (m.map a.eval)).run P w=(Instr.slice t y (l.map a.eval) (h.map a.eval) (m.map a.eval)).run P w:=fun y w=>by
  simp [Instr.sliceAt,run_underlying ht]
 have hop:(execOp a.eval o).run P w=((Instr.slice t (a.eval x) (l.map a.eval) (h.map a.eval) (m.map a.eval)).run P w).andThen fun v w=>.ok (.value v) w:=by
  simp only [execOp,ho,Sem.run_bind,hrun];rfl
 rw [hop]
 unfold qY at hv
 rcases Av (bW (aU gs ds x) lo tm) (fun b o l' c=>Option.rec (motive:=fun _=>Option Value) (slice3 (sz P e) (l.map (aU gs ds)) (h.map (aU gs ds)) lo tm b o l' c) (fun m=>qX (sz P e) (l.map (aU gs ds)) (h.map (aU gs ds)) m lo tm b o c) (m.map (aU gs ds)))
  (fun l' c=>bif Nat.beq l' 0 then bif Nat.beq c 0 then Option.rec (motive:=fun _=>Option Value) (gQ (h.map (aU gs ds)) lo tm 0 0 (fun _=>gQ (l.map (aU gs ds)) lo tm 0 0 (fun _=>some (.slice none 0 0)) none) none) (fun _=>none) (m.map (aU gs ds)) else none else none) none with ⟨p,ln,c,e1,h1⟩|⟨ln,c,e1,h1⟩|h1
 · rw [h1] at hv;rw [e1] at hx
   obtain ⟨i,hi,hcase⟩:=hx.lF
   cases m with
   | none =>
    have hv':gQ (h.map (aU gs ds)) lo tm ln (sure c) (fun hi=>gQ (l.map (aU gs ds)) lo tm 0 hi (fun lw=>bif eU c then Qv p.block p.off (sz P e) lw hi c else qW p.block p.off (sz P e) lw hi c) none) none=some v:=hv
    obtain ⟨hn,hv1,hh⟩:=jG hv'
    obtain ⟨lw,hv2,hl⟩:=jG hv1
    have hlh:lw≤hn:=by rcases hl with ⟨_,rfl⟩|⟨_,_,_,q,_⟩;omega;exact q
    have hl':(l=none∧lw=0)∨∃ z kd,l=some z∧lw≤hn∧a.eval z=.int kd (lw:Int):=hl.imp id fun ⟨z,kd,e2,q,r⟩=>⟨z,kd,e2,q,r f a hG hE⟩
    rcases hcase with ⟨hc,hln,hxe⟩|⟨lb,o',c',hc,hlb,hll,hbc,hoo,hnn,hxe⟩
    · obtain ⟨ho1,hs1⟩:=jP hc
      rw [ho1] at hv2
      rw [hs1] at hh
      have hhm:hn≤c:=by rcases hh with ⟨_,rfl⟩|⟨_,_,_,q,_⟩;exact hln;exact q
      have hh':(h=none∧hn=ln)∨∃ z kd,h=some z∧hn≤c∧a.eval z=.int kd (hn:Int):=hh.imp id fun ⟨z,kd,e2,q,r⟩=>⟨z,kd,e2,q,r f a hG hE⟩
      have hb:=pL (P:=P) (w:=w) (isSlice:=true) hh' hl'
      refine ⟨_,?_,Db hi hlh hhm hc hv2⟩
      simp only [Option.map_none,hxe,Instr.slice,Sem.run_bind,run_underlying ht,Result.andThen_ok,hb,run_sizeOf hd,Sem.run_pure]
      split<;>rfl
    · obtain ⟨ho1,hs1,_⟩:=kK hc hlb
      rw [ho1] at hv2
      rw [hs1] at hh
      have hhm:hn≤lb:=by rcases hh with ⟨_,rfl⟩|⟨_,_,_,q,_⟩;exact hll;exact q
      have hh':(h=none∧hn=ln)∨∃ z kd,h=some z∧hn≤c'∧a.eval z=.int kd (hn:Int):=hh.imp id fun ⟨z,kd,e2,q,r⟩=>⟨z,kd,e2,by omega,r f a hG hE⟩
      have hb:=pL (P:=P) (w:=w) (isSlice:=true) hh' hl'
      refine ⟨_,?_,aH5 hi hc hlb hbc hoo hnn hlh hhm hv2⟩
      simp only [Option.map_none,hxe,Instr.slice,Sem.run_bind,run_underlying ht,Result.andThen_ok,hb,run_sizeOf hd,Sem.run_pure]
      split<;>rfl
   | some m =>
    have hv':qX (sz P e) (l.map (aU gs ds)) (h.map (aU gs ds)) (aU gs ds m) lo tm p.block p.off c=some v:=hv
    unfold qX at hv'
    have hne:(eU c && Nat.beq (sure c) 0)=false:=by
     cases hb:(eU c && Nat.beq (sure c) 0) with
     | false=>rfl
     | true=>rw [hb] at hv';cases hv'
    rw [hne] at hv'
    rw [cond_false] at hv'
    obtain ⟨mn,hv1,hm⟩:=jG (x:=some m) (d:=0) hv'
    obtain ⟨_,e2⟩|⟨m',kd,e2,hms,hme⟩:=hm
    · cases h<;>cases m<;>simp_all
    · cases e2
      have hme:=hme f a hG hE
      cases h with
      | none=>cases hv1
      | some hh0 =>
       have hv1':gQ ((some hh0).map (aU gs ds)) lo tm 0 mn (fun hi=>gQ (l.map (aU gs ds)) lo tm 0 hi (fun lw=>qW p.block p.off (sz P e) lw hi mn) none) none=some v:=hv1
       obtain ⟨hn,hv2,hh⟩:=jG hv1'
       obtain ⟨lw,hv3,hl⟩:=jG hv2
       have hlh:lw≤hn:=by rcases hl with ⟨_,rfl⟩|⟨_,_,_,q,_⟩;omega;exact q
       obtain ⟨e3,_⟩|⟨h',kh,e3,hhm,hhe⟩:=hh
       · cases e3
       cases e3
       have hhe:=hhe f a hG hE
       have hmo:mn<eY:=by
        rcases hcase with ⟨hc,_,_⟩|⟨lb,o',c',hc,hlb,_⟩
        · rw [(jP hc).2] at hms;omega
        · rw [(kK hc hlb).2.1] at hms;omega
       have hbd:∀ cp,mn≤cp→(Instr.sliceBounds true ln cp (l.map a.eval) (some (a.eval hh0)) (some (a.eval m))).run P w=.ok (lw,hn,mn) w:=by
        intro cp hcp
        unfold Instr.sliceBounds
        rw [hme,hhe]
        rcases hl with ⟨rfl,rfl⟩|⟨z,kd2,rfl,q1,q2⟩
        · simp [qQ hcp,qQ hhm]
        · have:=q2 f a hG hE
          simp [qQ hcp,qQ hhm,this,qQ q1]
       rcases hcase with ⟨hc,hln,hxe⟩|⟨lb,o',c',hc,hlb,hll,hbc,hoo,hnn,hxe⟩
       · rw [(jP hc).2] at hms
         refine ⟨_,?_,Db hi hlh hhm hmo hv3⟩
         simp only [Option.map_some,hxe,Instr.slice,Sem.run_bind,run_underlying ht,Result.andThen_ok,hbd c hms,run_sizeOf hd,Sem.run_pure]
         split<;>rfl
       · rw [(kK hc hlb).2.1] at hms
         by_cases hlb0:lb=0
         · obtain ⟨q1,q2,_⟩:=kK hc hlb
           rw [q1,q2,hlb0] at hne
           cases hne
         · have hoo':o'=i.o+p.off:=by rcases hoo with h|h;exact h;exact absurd h hlb0
           subst hoo'
           refine ⟨_,?_,Db hi hlh hhm hmo hv3⟩
           simp only [Option.map_some,hxe,Instr.slice,Sem.run_bind,run_underlying ht,Result.andThen_ok,hbd c' (by omega),run_sizeOf hd,Sem.run_pure]
           split<;>rfl
 · rw [h1] at hv;rw [e1] at hx
   generalize hxe:a.eval x=vx at hx
   cases hx
   obtain ⟨hz1,hv⟩:=dC hv
   obtain ⟨hz2,hv⟩:=dC hv
   have:=Nat.eq_of_beq_eq_true hz1;subst this
   have:=Nat.eq_of_beq_eq_true hz2;subst this
   cases m with
   | some m=>cases hv
   | none =>
    have hv':gQ (h.map (aU gs ds)) lo tm 0 0 (fun _=>gQ (l.map (aU gs ds)) lo tm 0 0 (fun _=>some (.slice none 0 0)) none) none=some v:=hv
    obtain ⟨hn,hv1,hh⟩:=jG hv'
    obtain ⟨lw,hv2,hl⟩:=jG hv1
    cases hv2
    have hn0:hn=0:=by rcases hh with ⟨_,rfl⟩|⟨_,_,_,q,_⟩;rfl;omega
    have hl0:lw=0:=by rcases hl with ⟨_,rfl⟩|⟨_,_,_,q,_⟩;rfl;omega
    subst hn0;subst hl0
    have hh':(h=none∧0=0)∨∃ z kd,h=some z∧0≤0∧a.eval z=.int kd ((0:Nat):Int):=hh.imp id fun ⟨z,kd,e2,q,r⟩=>⟨z,kd,e2,q,r f a hG hE⟩
    have hl':(l=none∧0=0)∨∃ z kd,l=some z∧0≤0∧a.eval z=.int kd ((0:Nat):Int):=hl.imp id fun ⟨z,kd,e2,q,r⟩=>⟨z,kd,e2,q,r f a hG hE⟩
    have hb:=pL (P:=P) (w:=w) (isSlice:=true) (ln:=0) (cp:=0) hh' hl'
    refine ⟨.slice none 0 0,?_,.iF 0 0⟩
    simp only [Option.map_none,Instr.slice,Sem.run_bind,run_underlying ht,Result.andThen_ok,hb,run_sizeOf hd,Sem.run_pure]
    simp
 · rw [h1] at hv;cases hv
theorem aH8 {x:Operand} {t e:TypeId} {n:Nat} {l h m:Option Operand} {d:TypeDesc} (ho:o.op=.slice t x l h m)
 (ht:P.underlying t=some (.array n e)) (hn:n<eY) (hd:P.underlying e=some d) :
 eB P gs ds o (Fg n (sz P e) (aU gs ds x) (l.map (aU gs ds)) (h.map (aU gs ds)) (m.map (aU gs ds))):=by
 intro lo tm v hv f a w hG hE
 have hx:=bJ hG hE x
 unfold Fg at hv
 rcases oW (bW (aU gs ds x) lo tm) (fun b o=>Option.rec (motive:=fun _=>Option Value)
  (gQ (h.map (aU gs ds)) lo tm n n (fun hi=>gQ (l.map (aU gs ds)) lo tm 0 hi (fun lw=>qW b o (sz P e) lw hi n) none) none) (fun _=>none) (m.map (aU gs ds))) none with ⟨p,e1,h1⟩|h1
 · rw [h1] at hv;rw [e1] at hx
   obtain ⟨hsp,i,hi,hxe⟩:=hx.mX
   cases m with
   | some m=>cases hv
   | none =>
    have hv':gQ (h.map (aU gs ds)) lo tm n n (fun hi=>gQ (l.map (aU gs ds)) lo tm 0 hi (fun lw=>qW p.block p.off (sz P e) lw hi n) none) none=some v:=hv
    obtain ⟨hn',hv1,hh⟩:=jG hv'
    obtain ⟨lw,hv2,hl⟩:=jG hv1
    have hlh:lw≤hn':=by rcases hl with ⟨_,rfl⟩|⟨_,_,_,q,_⟩;omega;exact q
    have hhm:hn'≤n:=by rcases hh with ⟨_,rfl⟩|⟨_,_,_,q,_⟩;omega;exact q
    have hl':(l=none∧lw=0)∨∃ z kd,l=some z∧lw≤hn'∧a.eval z=.int kd (lw:Int):=hl.imp id fun ⟨z,kd,e2,q,r⟩=>⟨z,kd,e2,q,r f a hG hE⟩
    have hh':(h=none∧hn'=n)∨∃ z kd,h=some z∧hn'≤n∧a.eval z=.int kd (hn':Int):=hh.imp id fun ⟨z,kd,e2,q,r⟩=>⟨z,kd,e2,q,r f a hG hE⟩
    have hb:=pL (P:=P) (w:=w) (isSlice:=false) hh' hl'
    refine ⟨_,?_,Db hi hlh hhm hn hv2⟩
    simp only [execOp,ho,Option.map_none,hxe,Instr.sliceAt,Sem.run_bind,run_underlying ht,Instr.sureAddr,Sem.run_pure,Result.andThen_ok,hb,run_sizeOf hd]
 · rw [h1] at hv;cases hv
theorem aA1 {x:Operand} {t:TypeId} {l h:Option Operand} (ho:o.op=.slice t x l h none) (ht:P.underlying t=some .string) :
 eB P gs ds o (xX (aU gs ds x) (l.map (aU gs ds)) (h.map (aU gs ds))):=by
 intro lo tm v hv f a w hG hE
 have hx:=bJ hG hE x
 unfold xX at hv
 rcases mV (bW (aU gs ds x) lo tm) (fun s=>gQ (h.map (aU gs ds)) lo tm (len (bl s)) (len (bl s)) (fun hi=>gQ (l.map (aU gs ds)) lo tm 0 hi (fun lw=>Ad (xW (Nat.sub hi lw) (Pc lw (bl s)))) none) none) none with ⟨s,e1,h1⟩|h1
 · rw [h1] at hv;rw [e1] at hx
   have hx:=hx.jW
   obtain ⟨hn,hv1,hh⟩:=jG hv
   obtain ⟨lw,hv2,hl⟩:=jG hv1
   cases hv2
   rw [eF,jD] at hh
   have hlh:lw≤hn:=by rcases hl with ⟨_,rfl⟩|⟨_,_,_,q,_⟩;omega;exact q
   have hl':(l=none∧lw=0)∨∃ z kd,l=some z∧lw≤hn∧a.eval z=.int kd (lw:Int):=hl.imp id fun ⟨z,kd,e2,q,r⟩=>⟨z,kd,e2,q,r f a hG hE⟩
   have hh':(h=none∧hn=s.size)∨∃ z kd,h=some z∧hn≤s.size∧a.eval z=.int kd (hn:Int):=hh.imp id fun ⟨z,kd,e2,q,r⟩=>⟨z,kd,e2,q,r f a hG hE⟩
   have hb:=pL (P:=P) (w:=w) (isSlice:=false) hh' hl'
   have hs:s.extract lw hn=jM (xW (Nat.sub hn lw) (Pc lw (bl s))):=by
    rw [Kf,Vj,← aAU (s.extract lw hn)]
    congr 1
    exact Lib.extract_data s lw hn
   refine ⟨_,?_,.string _⟩
   simp only [execOp,ho,Option.map_none,hx,Instr.sliceAt,Instr.slice,Sem.run_bind,run_underlying ht,Result.andThen_ok,hb,Option.isSome_none,Bool.false_eq_true,if_false,Sem.run_pure,hs]
 · rw [h1] at hv;cases hv
theorem aH9 {x:Operand} {xt t:TypeId} {ok:Bool} {z:Value} {d:TypeDesc} (ho:o.op=.typeAssert x xt t ok) (ht:P.underlying t=some d) (hd:∀ ms,d≠.interface ms)
 (hz:(P.info? t).bind (·.zero)=some z) (hp:(gL z).all gG=true):eB P gs ds o (aEY t ok z (aU gs ds x)):=by
 intro lo tm v hv f a w hG hE
 have hx:=bJ hG hE x
 have hzr:bS f z z:=by
  cases z with
  | agg c =>
   refine .agg _ _ rfl fun i hi=>?_
   have hm:c.getD i undef∈c.toList:=by
    rw [Array.getD_eq_getD_getElem?,Array.getElem?_eq_getElem hi]
    simp
   exact bS.plain (List.all_eq_true.1 hp _ hm)
  | _=>exact bS.plain (List.all_eq_true.1 hp _ (List.mem_singleton.2 rfl))
 have hzv:∀ w:World,(zeroValue t).run P w=.ok z w:=fun w=>by
  cases hi:P.info? t with
  | none=>rw [hi] at hz;cases hz
  | some i =>
   rw [hi] at hz
   have hz':i.zero=some z:=hz
   simp [zeroValue,typeInfo,hi,hz']
 have hpair:∀ (u u':Value) (b:Bool),bS f u u'→bS f (.tuple ⟨[u,.bool b]⟩) (.tuple #[u',.bool b]):=fun u u' b hu =>
  bS.oJ (dA.cons hu (dA.cons (.bool b) (dA.nil f)))
 unfold aEY tAs at hv
 rcases Fk (bW (aU gs ds x) lo tm)
  (fun u v=>bif Nat.beq u t then (Bool.rec (motive:=fun _=>Option Value) (some v) (some (.tuple ⟨[v,.bool true]⟩)) ok) else Bool.rec (motive:=fun _=>Option Value) none (some (.tuple ⟨[z,.bool false]⟩)) ok)
  (Bool.rec (motive:=fun _=>Option Value) none (some (.tuple ⟨[z,.bool false]⟩)) ok) none with ⟨u,y,e1,h1⟩|⟨e1,h1⟩|h1
 · rw [h1] at hv;rw [e1] at hx
   obtain ⟨y',hxe,hy⟩:=hx.Fo
   cases hb:Nat.beq u t with
   | true =>
    rw [hb] at hv
    have:=Nat.eq_of_beq_eq_true hb;subst this
    cases ok with
    | true =>
     cases hv
     refine ⟨_,?_,hpair _ y' true hy⟩
     simp only [execOp,ho,hxe,Instr.typeAssert,Sem.run_bind,run_underlying ht,Result.andThen_ok]
     cases d<;>first|exact absurd rfl (hd _)|simp
    | false =>
     cases hv
     refine ⟨y',?_,hy⟩
     simp only [execOp,ho,hxe,Instr.typeAssert,Sem.run_bind,run_underlying ht,Result.andThen_ok]
     cases d<;>first|exact absurd rfl (hd _)|simp
   | false =>
    rw [hb] at hv
    have hne:¬ u=t:=fun e=>by subst e;simp at hb
    cases ok with
    | true =>
     cases hv
     refine ⟨_,?_,hpair _ z false hzr⟩
     simp only [execOp,ho,hxe,Instr.typeAssert,Sem.run_bind,run_underlying ht,Result.andThen_ok]
     cases d<;>first|exact absurd rfl (hd _)|simp [hne,hzv]
    | false=>cases hv
 · rw [h1] at hv;rw [e1] at hx
   generalize hxe:a.eval x=vx at hx
   cases hx
   cases ok with
   | true =>
    cases hv
    refine ⟨_,?_,hpair _ z false hzr⟩
    simp only [execOp,ho,hxe,Instr.typeAssert,Sem.run_bind,run_underlying ht,Result.andThen_ok]
    cases d<;>first|exact absurd rfl (hd _)|simp [hzv]
   | false=>cases hv
 · rw [h1] at hv;cases hv
end
section
variable {P:Program} {gs:List Nat} {ds:List (Option Tmp)} {o:Oper}
theorem iC (ρ:Operand→Value) {b:Builtin} {args:Array Operand} {ats:Array TypeId} (w:World) (ho:o.op=.call { callee:=.builtin b,args:=args,argTypes:=ats }) :
 ∃ cs,(execOp ρ o).run P w=(builtin b ats o.type cs (args.map ρ)).run P w:=by
 refine ⟨args.map fun x=>match x with|.const _=>true|_=>false,?_⟩
 unfold execOp
 rw [ho]
 rfl
theorem lH {α:Type} {a:Array α} {x:α} (h:a.toList=[x]):a=#[x]:=Array.toList_inj.1 h
theorem vD {α:Type} {a:Array α} {x y:α} (h:a.toList=[x,y]):a=#[x,y]:=Array.toList_inj.1 h
theorem aE8 {x:Operand} {args:Array Operand} {ats:Array TypeId} {t e:TypeId} (ho:o.op=.call { callee:=.builtin .len,args:=args,argTypes:=ats }) (ha:args.toList=[x]) (hat:ats.toList=[t])
 (ht:P.underlying t=some (.slice e)):eB P gs ds o (cW (aU gs ds x)):=by
 intro lo tm v hv f a w hG hE
 have hx:=bJ hG hE x
 have:=lH ha;subst this
 have:=lH hat;subst this
 obtain ⟨cs,hr⟩:=iC (P:=P) a.eval w ho
 rw [hr]
 unfold cW at hv
 rcases Av (bW (aU gs ds x) lo tm) (fun _ _ l _=>jS .i64 l) (fun l _=>jS .i64 l) none with ⟨p,l,c,e1,h1⟩|⟨l,c,e1,h1⟩|h1
 · rw [h1,lY] at hv;rw [e1] at hx
   cases hv
   obtain ⟨i,hi,⟨_,_,hxe⟩|⟨_,_,_,_,_,_,_,_,_,hxe⟩⟩:=hx.lF
   · exact ⟨_,by simp [builtin,Builtin.len_,hxe,run_underlying ht,goInt],.int _ _⟩
   · exact ⟨_,by simp [builtin,Builtin.len_,hxe,run_underlying ht,goInt],.int _ _⟩
 · rw [h1,lY] at hv;rw [e1] at hx
   cases hv
   generalize hxe:a.eval x=vx at hx
   cases hx
   exact ⟨_,by simp [builtin,Builtin.len_,hxe,run_underlying ht,goInt],.int _ _⟩
 · rw [h1] at hv;cases hv
theorem aE9 {x:Operand} {args:Array Operand} {ats:Array TypeId} {t:TypeId} (ho:o.op=.call { callee:=.builtin .len,args:=args,argTypes:=ats }) (ha:args.toList=[x]) (hat:ats.toList=[t])
 (ht:P.underlying t=some .string):eB P gs ds o (Kb (aU gs ds x)):=by
 intro lo tm v hv f a w hG hE
 have hx:=bJ hG hE x
 have:=lH ha;subst this
 have:=lH hat;subst this
 obtain ⟨cs,hr⟩:=iC (P:=P) a.eval w ho
 rw [hr]
 unfold Kb at hv
 rcases mV (bW (aU gs ds x) lo tm) (fun s=>jS .i64 (len (bl s))) none with ⟨s,e1,h1⟩|h1
 · rw [h1,lY,eF,jD] at hv;rw [e1] at hx
   cases hv
   have hx:=hx.jW
   exact ⟨_,by simp [builtin,Builtin.len_,hx,run_underlying ht,goInt],.int _ _⟩
 · rw [h1] at hv;cases hv
theorem Pg {x:Operand} {args:Array Operand} {ats:Array TypeId} {t:TypeId} {n:Nat} (ho:o.op=.call { callee:=.builtin .len,args:=args,argTypes:=ats }) (ha:args.toList=[x]) (hat:ats.toList=[t])
 (ht:(∃ e,P.underlying t=some (.array n e))∨∃ p e,P.underlying t=some (.pointer p)∧P.underlying p=some (.array n e)):eB P gs ds o (aDh n):=by
 intro lo tm v hv f a w hG hE
 have:=lH ha;subst this
 have:=lH hat;subst this
 obtain ⟨cs,hr⟩:=iC (P:=P) a.eval w ho
 rw [hr]
 cases hv
 refine ⟨.int .i64 (n:Int),?_,.int _ _⟩
 rcases ht with ⟨e,ht⟩|⟨p,e,ht,hp⟩
 · simp [builtin,Builtin.len_,run_underlying ht,goInt]
 · simp [builtin,Builtin.len_,run_underlying ht,run_underlying hp,goInt]
theorem aIa {x:Operand} {args:Array Operand} {ats:Array TypeId} {t e:TypeId} (ho:o.op=.call { callee:=.builtin .cap,args:=args,argTypes:=ats }) (ha:args.toList=[x]) (hat:ats.toList=[t])
 (ht:P.underlying t=some (.slice e)):eB P gs ds o (aNC (aU gs ds x)):=by
 intro lo tm v hv f a w hG hE
 have hx:=bJ hG hE x
 have:=lH ha;subst this
 have:=lH hat;subst this
 obtain ⟨cs,hr⟩:=iC (P:=P) a.eval w ho
 rw [hr]
 unfold aNC at hv
 rcases Av (bW (aU gs ds x) lo tm) (fun _ _ _ c=>bif eU c then none else jS .i64 c) (fun _ c=>jS .i64 c) none with ⟨p,l,c,e1,h1⟩|⟨l,c,e1,h1⟩|h1
 · rw [h1] at hv;rw [e1] at hx
   obtain ⟨i,hi,⟨hc,_,hxe⟩|⟨lb,_,_,hc,hlb,_⟩⟩:=hx.lF
   · rw [(jP hc).1] at hv
     have hv':jS .i64 c=some v:=hv
     rw [lY] at hv';cases hv'
     exact ⟨_,by simp [builtin,Builtin.cap_,hxe,run_underlying ht,goInt],.int _ _⟩
   · rw [(kK hc hlb).1] at hv;cases hv
 · rw [h1,lY] at hv;rw [e1] at hx
   cases hv
   generalize hxe:a.eval x=vx at hx
   cases hx
   exact ⟨_,by simp [builtin,Builtin.cap_,hxe,run_underlying ht,goInt],.int _ _⟩
 · rw [h1] at hv;cases hv
theorem aA2 {x:Operand} {args:Array Operand} {ats:Array TypeId} (ho:o.op=.call { callee:=.builtin .unsafeSliceData,args:=args,argTypes:=ats }) (ha:args.toList=[x]) :
 eB P gs ds o (Qw (aU gs ds x)):=by
 intro lo tm v hv f a w hG hE
 have hx:=bJ hG hE x
 have:=lH ha;subst this
 obtain ⟨cs,hr⟩:=iC (P:=P) a.eval w ho
 rw [hr]
 unfold Qw at hv
 rcases Av (bW (aU gs ds x) lo tm) (fun b o l c=>bif Nat.beq l 0 then none else bif Nat.beq c 0 then none else some (bE b o)) (fun _ _=>some (.pointer none)) none with ⟨p,l,c,e1,h1⟩|⟨l,c,e1,h1⟩|h1
 · rw [h1] at hv;rw [e1] at hx
   cases hl:Nat.beq l 0 with
   | true=>rw [hl] at hv;cases hv
   | false =>
    rw [hl] at hv
    have hl0:0<l:=by
     rcases Nat.eq_zero_or_pos l with h|h
     · subst h;cases hl
     · exact h
    have hv1:(bif Nat.beq c 0 then none else some (bE p.block p.off))=some v:=hv
    cases hcb:Nat.beq c 0 with
    | true=>rw [hcb] at hv1;cases hv1
    | false =>
     rw [hcb] at hv1;cases hv1
     have hlc:∃ i c',f p.block=some i∧a.eval x=.slice (some ⟨i.fE,i.o+p.off,none⟩) l c'∧c'≠0:=by
      obtain ⟨i,hi,⟨hc,hlc,hxe⟩|⟨lb,o',c',hc,hlb,hll,hbc,hoo,_,hxe⟩⟩:=hx.lF
      · exact ⟨i,c,hi,hxe,by omega⟩
      · have:o'=i.o+p.off:=by rcases hoo with h|h;exact h;omega
        subst this
        exact ⟨i,c',hi,hxe,by omega⟩
     obtain ⟨i,c',hi,hxe,hc0⟩:=hlc
     refine ⟨_,?_,.ptr _ _ i hi⟩
     have e3:∀ A ty,Builtin.unsafeSliceData_ ats ty #[.slice (some A) l c']=if c'≠0 then pure (.pointer (some A)) else (do
      if (← viewAt A.block).isSome then pure (.pointer (some A)) else pure (.pointer (some ⟨← newObj (.view A (← elemOf ty)),0,none⟩))):=fun _ _=>rfl
     have e4:(#[x]:Array Operand).map a.eval=#[a.eval x]:=by simp
     rw [e4,hxe]
     simp only [builtin,Sem.run_bind,e3]
     rw [if_pos hc0]
     rfl
 · rw [h1] at hv;rw [e1] at hx
   cases hv
   generalize hxe:a.eval x=vx at hx
   cases hx
   refine ⟨.pointer none,?_,.nilPtr⟩
   have e4:(#[x]:Array Operand).map a.eval=#[a.eval x]:=by simp
   rw [e4,hxe]
   rfl
 · rw [h1] at hv;cases hv
end
section
variable {P:Program} {gs:List Nat} {ds:List (Option Tmp)} {o:Oper}
theorem Oe (a b:List (Nat×Nat)) (x y:List Value):jF (a++b) x y=eC (jF a x y) (fun t=>Bool.rec (motive:=fun _=>Option Bool) (some false) (jF b x y) t) none:=by
 induction a with
 | nil=>rfl
 | cons i a ih =>
  show eC (rZ i.2 (nth x i.1) (nth y i.1)) (fun t=>Bool.rec (motive:=fun _=>Option Bool) (some false) (jF (a++b) x y) t) none=eC (eC (rZ i.2 (nth x i.1) (nth y i.1)) (fun t=>Bool.rec (motive:=fun _=>Option Bool) (some false) (jF a x y) t) none) _ none
  cases rZ i.2 (nth x i.1) (nth y i.1) with
  | none=>rfl
  | some t =>
   cases t with
   | false=>rfl
   | true=>exact ih
def Win (P:Program) (t:TypeId) (cs:Array Value) (off:Nat) (u:Value):Prop :=
 if eR P t then ∃ xs,u=.agg xs∧∀ k,k<sz P t→xs[k]?=cs[off+k]? else cs[off]?=some u
theorem Win.agg {t:TypeId} {cs:Array Value} {off:Nat} {u:Value} (h:Win P t cs off u) (ht:eR P t=true):∃ xs,u=.agg xs∧∀ k,k<sz P t→xs[k]?=cs[off+k]?:=by
 unfold Win at h;rwa [if_pos ht] at h
theorem Win.one {t:TypeId} {cs:Array Value} {off:Nat} {u:Value} (h:Win P t cs off u) (ht:eR P t=false):cs[off]?=some u:=by
 unfold Win at h;rwa [if_neg (by simp [ht])] at h
theorem sN {d:Nat} {t:TypeId} {off:Nat} {ls:List (Nat×Nat)} (h:leaves P d t off=some ls):∃ td,P.underlying t=some td:=by
 cases d with
 | zero=>cases h
 | succ d =>
  unfold leaves at h
  cases hu:P.underlying t with
  | none =>
   rw [hu] at h
   have e:eE P t=4:=by unfold eE;rw [hu]
   have h':(bif Nat.beq (sz P t) 1 && Nat.blt (eE P t) 4 then some [(off,eE P t)] else none)=some ls:=h
   rw [e] at h'
   have h1:=(dC h').1
   rw [Bool.and_eq_true] at h1
   exact absurd h1.2 (by decide)
  | some td=>exact ⟨td,rfl⟩
theorem tI {d:Nat} {t:TypeId} {off:Nat} {ls:List (Nat×Nat)} (h:leaves P d t off=some ls) (ht:eR P t=false) :
 ls=[(off,eE P t)]∧sz P t=1∧eE P t<4:=by
 cases d with
 | zero=>cases h
 | succ d =>
  obtain ⟨td,hu⟩:=sN h
  unfold leaves at h
  unfold eR at ht
  rw [hu] at h ht
  cases td<;>first
   | (cases ht;done)
   | (have h':(bif Nat.beq (sz P t) 1 && Nat.blt (eE P t) 4 then some [(off,eE P t)] else none)=some ls:=h
      obtain ⟨h1,h2⟩:=dC h'
      cases h2
      rw [Bool.and_eq_true] at h1
      exact ⟨rfl,Nat.eq_of_beq_eq_true h1.1,Nat.blt_eq.mp h1.2⟩)
theorem Vl {d:Nat} {ft:TypeId} {cs xs:Array Value} {off fo m:Nat} {ls:List (Nat×Nat)} {td:TypeDesc} (hl:leaves P d ft (off+fo)=some ls) (hu:P.underlying ft=some td) (hw:∀ k,k<m→xs[k]?=cs[off+k]?) (hm:fo+sz P ft≤m)
 (hex:eR P ft=false→∃ v,cs[off+fo]?=some v):∃ u,(∀ w:World,(part ft xs fo).run P w=.ok u w)∧Win P ft cs (off+fo) u:=by
 cases hagg:eR P ft with
 | true =>
  refine ⟨.agg (xs.extract fo (fo+sz P ft)),fun w=>by simp [part,pK hagg,run_sizeOf hu],?_⟩
  unfold Win
  rw [if_pos hagg]
  refine ⟨_,rfl,fun k hk=>?_⟩
  rw [Array.getElem?_extract]
  have e:=hw (fo+k) (by omega)
  rw [show off+fo+k=off+(fo+k) by omega,← e]
  split
  · rfl
  · rename_i h
    symm
    apply Array.getElem?_eq_none
    omega
 | false =>
  obtain ⟨v,hv⟩:=hex hagg
  obtain ⟨_,h1,_⟩:=tI hl hagg
  have e:=hw fo (by omega)
  refine ⟨v,fun w=>by simp [part,mY hagg hu,e,hv],?_⟩
  unfold Win
  rw [if_neg (by simp [hagg])]
  exact hv
theorem Aw {x:Option (List (Nat×Nat))} {l:List (Option (List (Nat×Nat)))} {r:List (Nat×Nat)} (h:Hn (x::l)=some r):∃ a b,x=some a∧Hn l=some b∧r=a++b:=by
 have h':eC x (fun a=>eC (Hn l) (fun b=>some (a++b)) none) none=some r:=h
 obtain ⟨a,ha,h'⟩:=fN _ _ h'
 obtain ⟨b,hb,h'⟩:=fN _ _ h'
 cases h'
 exact ⟨a,b,ha,hb,rfl⟩
theorem Ht {i:Nat×Nat} {l:List (Nat×Nat)} {x y:List Value} {r:Bool} (h:jF (i::l) x y=some r):∃ t,rZ i.2 (nth x i.1) (nth y i.1)=some t∧(if t then jF l x y=some r else r=false):=by
 have h':eC (rZ i.2 (nth x i.1) (nth y i.1)) (fun t=>Bool.rec (motive:=fun _=>Option Bool) (some false) (jF l x y) t) none=some r:=h
 obtain ⟨t,ht,h'⟩:=fN _ _ h'
 refine ⟨t,ht,?_⟩
 cases t with
 | false=>cases h';rfl
 | true=>exact h'
theorem Ki {a b:List (Nat×Nat)} {x y:List Value} {r:Bool} (h:jF (a++b) x y=some r):∃ t,jF a x y=some t∧(if t then jF b x y=some r else r=false):=by
 rw [Oe] at h
 obtain ⟨t,ht,h'⟩:=fN _ _ h
 refine ⟨t,ht,?_⟩
 cases t with
 | false=>cases h';rfl
 | true=>exact h'
theorem zI {l:List Value} {i:Nat} (h:l.length≤i):nth l i=top:=by
 induction l generalizing i with
 | nil=>rfl
 | cons a l ih =>
  cases i with
  | zero=>simp at h
  | succ i=>exact ih (by simpa using h)
theorem qR {tag:Nat} {x y:Value} {t:Bool} (h:rZ tag x y=some t):Ac x=tag∧sEq x y=some t:=by
 obtain ⟨h1,h2⟩:=dC h
 exact ⟨Nat.eq_of_beq_eq_true h1,h2⟩
theorem aIb {l l':List Value} {i j:Nat} {t:Bool} (h:sEq (nth l i) (nth l' j)=some t):i<l.length∧j<l'.length:=by
 refine ⟨Nat.lt_of_not_ge fun hg=>?_,Nat.lt_of_not_ge fun hg=>?_⟩
 · rw [zI hg] at h;cases h
 · rw [zI hg] at h
   cases hx:nth l i<;>rw [hx] at h<;>cases h
theorem Fq {t:TypeId}:(eE P t=1→P.underlying t=some .bool)∧(eE P t=2→∃ k,P.underlying t=some (.int k))∧(eE P t=3→P.underlying t=some .string):=by
 unfold eE
 cases hu:P.underlying t with
 | none=>simp
 | some td=>cases td<;>simp
theorem yD {f:Map} {t:TypeId} {x y x' y':Value} {b:Bool} (hx:bS f x x') (hy:bS f y y') (h:rZ (eE P t) x y=some b) :
 ∀ (d:Nat) (w:World),(Op.equalIn (d+1) t x' y').run P w=.ok b w:=by
 intro d w
 obtain ⟨ht,h⟩:=qR h
 obtain ⟨rfl,rfl,h⟩:=Rg hx hy h
 rcases h with ⟨k,m,n,rfl,rfl,rfl⟩|⟨p,q,rfl,rfl,rfl⟩|⟨p,q,rfl,rfl,rfl⟩
 · obtain ⟨k',hk⟩:=Fq.2.1 ht.symm
   exact run_equalIn_int w d t k k' m n hk
 · exact run_equalIn_bool' w d t p q (Fq.1 ht.symm)
 · exact run_equalIn_string w d t p q (Fq.2.2 ht.symm)
theorem Ix {f:Map} {l:List Value} {cs:Array Value} {i:Nat} (h:dA f l cs.toList) (hi:i<l.length):∃ v,cs[i]?=some v∧bS f (nth l i) v:=by
 obtain ⟨v,a,b⟩:=h.get hi
 exact ⟨v,by simpa using a,b⟩
theorem Vm {f:Map} {l l':List Value} {cs cs':Array Value} {d:Nat} {ft:TypeId} {off fo m:Nat} {ls:List (Nat×Nat)} {r:Bool} {xs ys:Array Value} (hl:dA f l cs.toList) (hl':dA f l' cs'.toList)
 (ih:∀ t off ls r u v,leaves P d t off=some ls→jF ls l l'=some r→Win P t cs off u→Win P t cs' off v→∀ D (w:World),(Op.equalIn (d+D) t u v).run P w=.ok r w)
 (hx:∀ k,k<m→xs[k]?=cs[off+k]?) (hy:∀ k,k<m→ys[k]?=cs'[off+k]?) (hm:fo+sz P ft≤m) (h:leaves P d ft (off+fo)=some ls) (hr:jF ls l l'=some r) :
 ∃ u v,∀ w:World,(part ft xs fo).run P w=.ok u w∧(part ft ys fo).run P w=.ok v w∧∀ D,(Op.equalIn (d+D) ft u v).run P w=.ok r w:=by
 obtain ⟨td,hu⟩:=sN h
 have hex:eR P ft=false→(∃ v,cs[off+fo]?=some v)∧∃ v,cs'[off+fo]?=some v:=fun hagg=>by
  obtain ⟨rfl,_,_⟩:=tI h hagg
  obtain ⟨t,ht,_⟩:=Ht hr
  obtain ⟨h1,h2⟩:=aIb (qR ht).2
  obtain ⟨v,hv,_⟩:=Ix hl h1
  obtain ⟨v',hv',_⟩:=Ix hl' h2
  exact ⟨⟨v,hv⟩,⟨v',hv'⟩⟩
 obtain ⟨u,hu1,hu2⟩:=Vl h hu hx hm fun e=>(hex e).1
 obtain ⟨v,hv1,hv2⟩:=Vl h hu hy hm fun e=>(hex e).2
 exact ⟨u,v,fun w=>⟨hu1 w,hv1 w,fun D=>ih _ _ _ _ _ _ h hr hu2 hv2 D w⟩⟩
theorem aFa {f:Map} {l l':List Value} {cs cs':Array Value} (hl:dA f l cs.toList) (hl':dA f l' cs'.toList):∀ (d:Nat) (t:TypeId) (off:Nat) (ls:List (Nat×Nat)) (r:Bool) (u v:Value),
 leaves P d t off=some ls→jF ls l l'=some r→Win P t cs off u→Win P t cs' off v→∀ D (w:World),(Op.equalIn (d+D) t u v).run P w=.ok r w:=by
 intro d
 induction d with
 | zero=>intro t off ls r u v h;cases h
 | succ d ih =>
  intro t off ls r u v h hr hu hv D w
  rw [show d+1+D=(d+D)+1 by omega]
  cases hagg:eR P t with
  | false =>
   obtain ⟨rfl,_,_⟩:=tI h hagg
   obtain ⟨t',ht',hr'⟩:=Ht hr
   have e:t'=r:=by
    cases t' with
    | false=>exact hr'.symm
    | true=>cases hr';rfl
   subst e
   obtain ⟨h1,h2⟩:=aIb (qR ht').2
   obtain ⟨a,ha,hra⟩:=Ix hl h1
   obtain ⟨b,hb,hrb⟩:=Ix hl' h2
   have ea:=hu.one hagg
   have eb:=hv.one hagg
   rw [ha] at ea;rw [hb] at eb
   cases ea;cases eb
   exact yD hra hrb ht' _ w
  | true =>
   obtain ⟨xs,rfl,hx⟩:=hu.agg hagg
   obtain ⟨ys,rfl,hy⟩:=hv.agg hagg
   obtain ⟨td,htd⟩:=sN h
   unfold leaves at h
   unfold eR at hagg
   rw [htd] at h hagg
   cases td<;>first|(cases hagg;done)|skip
   · rename_i n e
     obtain ⟨h1,h2⟩:=dC h
     rw [Bool.and_eq_true] at h1
     have hn:=Nat.ble_eq.mp h1.2
     have hj:Hn ((List.range' 0 n).map fun i=>leaves P d e (off+i*sz P e))=some ls:=h2
     obtain ⟨te,hte⟩:∃ te,P.underlying e=some te:=by
      cases n with
      | zero=>exact absurd h1.1 (by decide)
      | succ n=>obtain ⟨a,b,ha,hb,_⟩:=Aw hj;exact sN ha
     have hall:∀ i,i∈List.range' 0 n→i*sz P e+sz P e≤sz P t:=fun i hi=>by
      have:i<n:=by simpa using hi
      have:=Nat.mul_le_mul_right (sz P e) (Nat.succ_le_of_lt this)
      have:i.succ*sz P e=i*sz P e+sz P e:=Nat.succ_mul _ _
      omega
     simp only [Op.equalIn,Sem.run_bind,run_underlying htd,Result.andThen_ok]
     simp only [Std.Legacy.Range.forIn_eq_forIn_range',Std.Legacy.Range.size,Nat.sub_zero,Nat.add_one_sub_one,Nat.div_one]
     rw [run_sizeOf hte]
     simp only [Result.andThen_ok]
     clear h h1 h2 htd hu hv hn hte
     revert hj hr hall
     generalize List.range' 0 n=il
     intro hr hj hall
     induction il generalizing ls r w with
     | nil=>cases hj;cases hr;simp
     | cons i il ihf =>
      obtain ⟨a,b,ha,hb,rfl⟩:=Aw hj
      obtain ⟨t1,ht1,hr1⟩:=Ki hr
      obtain ⟨u,v,huv⟩:=Vm hl hl' ih hx hy (hall i (by simp)) ha ht1
      obtain ⟨e1,e2,e3⟩:=huv w
      simp only [List.forIn_cons,Sem.run_bind,e1,e2,e3 D,Result.andThen_ok]
      cases t1 with
      | false=>cases hr1;simp
      | true=>simpa using ihf b r w hr1 hb fun j hj=>hall j (by simp [hj])
   · rename_i fs
     have h0:(bif P.stoodInHeld t then none else Hn (fs.toList.map fun f=>bif f.name != "_" && Nat.ble (f.offset+sz P f.type) (sz P t) then leaves P d f.type (off+f.offset) else none))=some ls:=h
     cases hp:P.stoodInHeld t with
     | true=>rw [hp] at h0;cases h0
     | false =>
     rw [hp] at h0
     have h1:Hn (fs.toList.map fun f=>bif f.name != "_" && Nat.ble (f.offset+sz P f.type) (sz P t) then leaves P d f.type (off+f.offset) else none)=some ls:=h0
     have hfs:P.fieldsOf t=fs:=by unfold Program.fieldsOf;rw [htd]
     rw [run_equalIn_struct w (d+D) t xs ys (by rw [hfs];exact htd) hp,hfs]
     clear h h0 htd hfs hu hv
     revert h1 hr
     generalize fs.toList=fl
     intro hr h'
     induction fl generalizing ls r w with
     | nil=>cases h';cases hr;simp [Op.eqFields]
     | cons fd fl ihf =>
      obtain ⟨a,b,ha,hb,rfl⟩:=Aw h'
      obtain ⟨h1,h2⟩:=dC ha
      rw [Bool.and_eq_true] at h1
      have hble:=Nat.ble_eq.mp h1.2
      obtain ⟨t1,ht1,hr1⟩:=Ki hr
      obtain ⟨u,v,huv⟩:=Vm hl hl' ih hx hy hble h2 ht1
      obtain ⟨e1,e2,e3⟩:=huv w
      have hname:fd.name ≠ "_" := by simpa using h1.1
      simp only [Op.eqFields,if_pos hname,Sem.run_bind,e1,e2,e3 D,Result.andThen_ok]
      cases t1 with
      | false=>cases hr1;simp
      | true=>simpa using ihf b r w hr1 hb
theorem aDq (neg:Bool) {t:TypeId} {x y:Value} {b:Bool} {w:World} (h:(Op.equal t x y).run P w=.ok b w)
 (hb:binOp (if neg then .neq else .eql) t x y=if neg then (do pure (.bool (!(← Op.equal t x y)))) else (do pure (.bool (← Op.equal t x y)))) :
 (binOp (if neg then .neq else .eql) t x y).run P w=.ok (.bool (pG neg (!b))) w:=by
 rw [hb]
 cases neg<;>cases b<;>simp [h,pG]
theorem Dc {neg:Bool} {op:BinOp} {t yt:TypeId} {x y:Operand} {ls:List (Nat×Nat)} (ho:o.op=.binOp op t x y yt) (hop:op=if neg then .neq else .eql) (hg0:P.eqGuardType P.depth t=false) (hls:leaves P 100 t 0=some ls) (ht:eR P t=true) :
 eB P gs ds o (Uq ls neg (aU gs ds x) (aU gs ds y)):=by
 intro lo tm v hv f a w hG hE
 have hx:=bJ hG hE x
 have hy:=bJ hG hE y
 unfold Uq at hv
 rcases vA (bW (aU gs ds x) lo tm) (fun a=>uX (bW (aU gs ds y) lo tm) (fun b=>eC (jF ls a b) (fun t=>gB (pG neg (!t))) none) none) none with ⟨c,e1,h1⟩|h1
 · rw [h1] at hv;rw [e1] at hx
   rcases vA (bW (aU gs ds y) lo tm) (fun b=>eC (jF ls c.toList b) (fun t=>gB (pG neg (!t))) none) none with ⟨c2,e2,h2⟩|h2
   · rw [h2] at hv;rw [e2] at hy
     obtain ⟨b,hb,hv⟩:=fN _ _ hv
     have:=gU hv;subst this
     obtain ⟨xs,hxe,hlx⟩:=hx.vC
     obtain ⟨ys,hye,hly⟩:=hy.vC
     refine ⟨_,?_,.bool _⟩
     subst hop
     have hwin:∀ zs:Array Value,Win P t zs 0 (.agg zs):=fun zs=>by
      unfold Win;rw [if_pos ht];exact ⟨zs,rfl,fun k _=>by rw [Nat.zero_add]⟩
     have he:(Op.equal t (.agg xs) (.agg ys)).run P w=.ok b w:=aFa hlx hly 100 t 0 ls b _ _ hls hb (hwin xs) (hwin ys) 9900 w
     simp only [execOp,ho,Sem.run_bind,hxe,hye]
     rw [run_eqGuard_agg _ _ _ _ _ _ _ hg0]
     have hq:=aDq (P:=P) neg he (by cases neg<;>rfl)
     simp only [Result.andThen_ok,hq]
     rfl
   · rw [h2] at hv;cases hv
 · rw [h1] at hv;cases hv
theorem Vn {neg:Bool} {op:BinOp} {t yt:TypeId} {ms:Array (String×TypeId)} {x y:Operand} (ho:o.op=.binOp op t x y yt) (hop:op=if neg then .neq else .eql) (hu:P.underlying t=some (.interface ms)) :
 eB P gs ds o (aHA (scT P) neg (aU gs ds x) (aU gs ds y)):=by
 intro lo tm v hv f a w hG hE
 have hx:=bJ hG hE x
 have hy:=bJ hG hE y
 unfold aHA at hv
 obtain ⟨b,hb,hv⟩:=fN _ _ hv
 have:=gU hv;subst this
 refine ⟨_,?_,.bool _⟩
 subst hop
 generalize bW (aU gs ds x) lo tm=vx at *
 generalize bW (aU gs ds y) lo tm=vy at *
 simp only [execOp,ho,Sem.run_bind]
 generalize a.eval x=ux at *
 generalize a.eval y=uy at *
 have main:(eqGuard (if neg then BinOp.neq else BinOp.eql) t x y ux uy).run P w=.ok () w∧(∀ d,(Op.equalIn (d+1+1) t ux uy).run P w=.ok b w) ∧
  binOp (if neg then .neq else .eql) t ux uy=if neg then (do pure (.bool (!(← Op.equal t ux uy)))) else (do pure (.bool (← Op.equal t ux uy))):=by
  cases hx<;>first|(cases hb;done)|skip
  · rename_i t1 a1 a1' h1
    cases hy<;>first|(cases hb;done)|skip
    · rename_i t2 a2 a2' h2
      refine ⟨eV _ _ _ _ _ _ _ trivial,?_,by cases neg<;>rfl⟩
      have hb':(bif Nat.beq t1 t2 then rZ (scT P t1) a1 a2 else some false)=some b:=hb
      intro d
      by_cases ht:t1=t2
      · subst ht
        rw [Nat.beq_refl] at hb'
        have hb'':rZ (scT P t1) a1 a2=some b:=hb'
        have htag:=(qR hb'').1
        cases hi:P.info? t1 with
        | none =>
         exfalso
         unfold scT at htag;rw [hi] at htag
         cases a1<;>cases htag
        | some i =>
         unfold scT at hb'' htag
         rw [hi] at hb'' htag
         have hc:i.comparable=true:=by
          cases hc:i.comparable with
          | true=>rfl
          | false =>
           exfalso
           have htag':Ac a1=(bif i.comparable then eE P t1 else 4):=htag
           rw [hc] at htag'
           cases a1<;>cases htag'
         have hb3:rZ (bif i.comparable then eE P t1 else 4) a1 a2=some b:=hb''
         rw [hc] at hb3
         have he:=yD (P:=P) (t:=t1) h1 h2 hb3 d w
         revert he
         generalize d+1=e
         intro he
         simp [Op.equalIn,run_underlying hu,typeInfo,hi,hc,he]
      · have e:Nat.beq t1 t2=false:=by
         cases hbq:Nat.beq t1 t2 with
         | false=>rfl
         | true=>exact absurd (Nat.eq_of_beq_eq_true hbq) ht
        rw [e] at hb'
        cases hb'
        generalize d+1=e
        simp [Op.equalIn,run_underlying hu,ht]
    · cases hb
      exact ⟨eV _ _ _ _ _ _ _ trivial,fun d=>by generalize d+1=e;simp [Op.equalIn,run_underlying hu],by cases neg<;>rfl⟩
  · cases hy<;>first|(cases hb;done)|skip
    cases hb
    exact ⟨eV _ _ _ _ _ _ _ trivial,fun d=>by generalize d+1=e;simp [Op.equalIn,run_underlying hu],by cases neg<;>rfl⟩
 obtain ⟨hg,he,hbo⟩:=main
 rw [hg]
 have hq:=aDq (P:=P) neg (he 9998) hbo
 simp only [Result.andThen_ok,hq]
 rfl
end
section
variable {P:Program} {gs:List Nat} {ds:List (Option Tmp)} {o:Oper}
theorem aNS {f:Map} (mx:Bool) (kd:IntKind) (w:World):∀ (l l':List Value) (a:Int) (v:Value),dA f l l'→aEZ mx l kd a=some v →
 ((l'.foldlM (if mx then Builtin.max2 else Builtin.min2) (.int kd a)).run P w=.ok v w)∧gG v=true:=by
 intro l
 induction l with
 | nil =>
  intro l' a v hl hv
  have:=hl.aDb;subst this
  have hv':nU kd a=some v:=hv
  have:=kD hv';subst this
  exact ⟨by simp,rfl⟩
 | cons x l ih =>
  intro l' a v hl hv
  obtain ⟨x',r,rfl,hx,hr⟩:=hl.Jr
  have hv':jQ x (fun _ b=>aEZ mx l kd (bif (Bool.rec (motive:=fun _=>Bool) (uB b a) (uB a b) mx) then b else a)) none=some v:=hv
  rcases jV x (fun _ b=>aEZ mx l kd (bif (Bool.rec (motive:=fun _=>Bool) (uB b a) (uB a b) mx) then b else a)) none with ⟨k,n,rfl,h⟩|h
  · rw [h] at hv'
    have:=hx.gI;subst this
    obtain ⟨h1,h2⟩:=ih r _ v hr hv'
    refine ⟨?_,h2⟩
    rw [List.foldlM_cons]
    cases mx with
    | true =>
     have e:(bif uB a n then n else a)=if n>a then n else a:=by rw [Fm];by_cases h:a<n<;>simp [h]
     have h1':(r.foldlM Builtin.max2 (.int kd (bif uB a n then n else a))).run P w=.ok v w:=h1
     rw [e] at h1'
     simpa [Builtin.max2] using h1'
    | false =>
     have e:(bif uB n a then n else a)=if n<a then n else a:=by rw [Fm];by_cases h:n<a<;>simp [h]
     have h1':(r.foldlM Builtin.min2 (.int kd (bif uB n a then n else a))).run P w=.ok v w:=h1
     rw [e] at h1'
     simpa [Builtin.min2] using h1'
  · rw [h] at hv';cases hv'
theorem Ph {mx:Bool} {args:Array Operand} {ats:Array TypeId} (ho:o.op=.call { callee:=.builtin (if mx then .max else .min),args:=args,argTypes:=ats }) :
 eB P gs ds o (Hm mx (args.toList.map (aU gs ds))):=by
 intro lo tm v hv f a w hG hE
 have hl:=vB hG hE args.toList
 obtain ⟨cs,hr⟩:=iC (P:=P) a.eval w ho
 rw [hr]
 unfold Hm at hv
 generalize Co (args.toList.map (aU gs ds)) lo tm=l at *
 have e4:(args.map a.eval).toList=args.toList.map a.eval:=by simp
 generalize args.toList.map a.eval=l' at *
 cases l with
 | nil=>cases hv
 | cons x l =>
  obtain ⟨x',r,rfl,hx,hr⟩:=hl.Jr
  have hv':jQ x (fun kd a=>aEZ mx l kd a) none=some v:=hv
  rcases jV x (fun kd a=>aEZ mx l kd a) none with ⟨k,n,rfl,h⟩|h
  · rw [h] at hv'
    have:=hx.gI;subst this
    obtain ⟨h1,h2⟩:=aNS (P:=P) mx k w l r n v hr hv'
    refine ⟨v,?_,bS.plain h2⟩
    cases mx with
    | true =>
     have h1':(r.foldlM Builtin.max2 (.int k n)).run P w=.ok v w:=h1
     have e5:args.toList.map a.eval=.int k n::r:=by simpa using e4
     simp [builtin,Builtin.max_,e5,h1']
    | false =>
     have h1':(r.foldlM Builtin.min2 (.int k n)).run P w=.ok v w:=h1
     have e5:args.toList.map a.eval=.int k n::r:=by simpa using e4
     simp [builtin,Builtin.min_,e5,h1']
  · rw [h] at hv';cases hv'
theorem kE (z:List Value) (off:Nat) (l:List Value):(over z off l).length=z.length:=by
 induction off generalizing z with
 | zero =>
  induction l generalizing z with
  | nil=>rfl
  | cons v l ih =>
   cases z with
   | nil=>rfl
   | cons x r =>
    have:over (x::r) 0 (v::l)=v::over r 0 l:=rfl
    rw [this];simp [ih]
 | succ off ih =>
  cases z with
  | nil=>rfl
  | cons x r =>
   have:over (x::r) (off+1) l=x::over r off l:=rfl
   rw [this];simp [ih]
theorem rE (z:List Value) (off:Nat) (l:List Value) (i:Nat) (h:off+l.length≤z.length):(over z off l)[i]?=if off≤i∧i<off+l.length then l[i - off]? else z[i]?:=by
 induction off generalizing z i with
 | zero =>
  induction l generalizing z i with
  | nil=>show z[i]?=_;rw [if_neg];simp
  | cons v l ih =>
   cases z with
   | nil=>simp at h
   | cons x r =>
    have:over (x::r) 0 (v::l)=v::over r 0 l:=rfl
    rw [this]
    cases i with
    | zero=>simp
    | succ i =>
     have:=ih r i (by simp at h ⊢;omega)
     simp only [List.getElem?_cons_succ,this]
     by_cases hi:i<l.length
     · rw [if_pos (by omega),if_pos (by simp;omega)];rfl
     · rw [if_neg (by omega),if_neg (by simp;omega)]
 | succ off ih =>
  cases z with
  | nil=>simp at h
  | cons x r =>
   have:over (x::r) (off+1) l=x::over r off l:=rfl
   rw [this]
   cases i with
   | zero=>simp
   | succ i =>
    have:=ih r i (by simp at h ⊢;omega)
    simp only [List.getElem?_cons_succ,this]
    by_cases hi:off≤i∧i<off+l.length
    · rw [if_pos hi,if_pos (by omega)]
      congr 1;omega
    · rw [if_neg hi,if_neg (by omega)]
theorem aIc (v:Array Value) (cs:Array Value) (off:Nat) (h:off+v.size≤cs.size) :
 (v.zipIdx.foldl (fun cs (c,j)=>cs.setIfInBounds (off+j) c) cs).toList=over cs.toList off v.toList:=by
 have main:∀ (l:List Value) (k:Nat) (cs:Array Value),off+k+l.length≤cs.size →
  ((l.zipIdx k).foldl (fun cs (c,j)=>cs.setIfInBounds (off+j) c) cs).size=cs.size ∧
  ∀ i,((l.zipIdx k).foldl (fun cs (c,j)=>cs.setIfInBounds (off+j) c) cs)[i]?=if off+k≤i∧i<off+k+l.length then l[i - (off+k)]? else cs[i]?:=by
  intro l
  induction l with
  | nil=>intro k cs _;exact ⟨rfl,fun i=>by simp;intro a b;omega⟩
  | cons x l ih =>
   intro k cs hk
   rw [List.zipIdx_cons,List.foldl_cons]
   obtain ⟨h1,h2⟩:=ih (k+1) (cs.setIfInBounds (off+k) x) (by simp at hk ⊢;omega)
   refine ⟨by rw [h1];simp,fun i=>?_⟩
   rw [h2]
   by_cases hi:off+(k+1)≤i∧i<off+(k+1)+l.length
   · rw [if_pos hi,if_pos (by simp;omega),show i - (off+k)=(i - (off+(k+1)))+1 by omega];rfl
   · rw [if_neg hi]
     by_cases he:i=off+k
     · subst he
       rw [if_pos (by simp)]
       simp at hk
       simp [show off+k<cs.size by omega]
     · rw [if_neg (by simp;omega)]
       simp [Array.getElem?_setIfInBounds]
       intro e;omega
 have e:v.zipIdx.foldl (fun cs (c,j)=>cs.setIfInBounds (off+j) c) cs=(v.toList.zipIdx 0).foldl (fun cs (c,j)=>cs.setIfInBounds (off+j) c) cs:=by
  rw [← Array.foldl_toList];simp
 rw [e]
 obtain ⟨h1,h2⟩:=main v.toList 0 cs (by simpa using h)
 apply List.ext_getElem?
 intro i
 rw [rE _ _ _ _ (by simpa using h)]
 have:=h2 i
 simpa using this
theorem aId {f:Map} {z z':List Value} {l l':List Value} {off:Nat} (hz:dA f z z') (hl:dA f l l') (h:off+l.length≤z.length):dA f (over z off l) (over z' off l'):=by
 have h':off+l'.length≤z'.length:=by rw [← hl.1,← hz.1];exact h
 refine ⟨by rw [kE,kE];exact hz.1,fun i v hv=>?_⟩
 rw [rE _ _ _ _ h] at hv
 rw [rE _ _ _ _ h',← hl.1]
 split at hv
 · rename_i hi;rw [if_pos hi];exact hl.2 _ v hv
 · rename_i hi;rw [if_neg hi];exact hz.2 _ v hv
inductive Dd (gs:List Nat) (ds:List (Option Tmp)) (place:Nat→Option (Nat×Nat)):List (Nat×Operand)→List (Nat×Nat×OD)→Prop where
 | nil:Dd gs ds place [] []
 | cons (i:Nat) (x:Operand) (o n:Nat) (r:List (Nat×Operand)) (l:List (Nat×Nat×OD)) (h:place i=some (o,n)) (hr:Dd gs ds place r l):Dd gs ds place ((i,x)::r) ((o,n,aU gs ds x)::l)
theorem Pj {place:Nat→Option (Nat×Nat)}:∀ (ps:List (Nat×Operand)) (l:List (Nat×Nat×OD)),qZ gs ds place ps=some l→Dd gs ds place ps l:=by
 intro ps
 induction ps with
 | nil=>intro l h;cases h;exact .nil
 | cons p ps ih =>
  intro l h
  obtain ⟨i,x⟩:=p
  unfold qZ at h
  cases hp:place i with
  | none=>rw [hp] at h;cases h
  | some on =>
   obtain ⟨o,n⟩:=on
   rw [hp] at h
   cases hc:qZ gs ds place ps with
   | none=>rw [hc] at h;cases h
   | some l'=>rw [hc] at h;cases h;exact .cons i x o n ps l' hp (ih l' hc)
theorem Vo {R:Type} {f:Map} {place:Nat→Option (Nat×Nat)} {lo:List Value} {tm:T Value} {a:Act} (hG:mC gs f) (hE:Env f ds lo tm a.tmps) (k:List Value→R) (no:R) {ps:List (Nat×Operand)} {l:List (Nat×Nat×OD)} (h:Dd gs ds place ps l) :
 ∀ (z:List Value) (cs:Array Value),dA f z cs.toList→jO l lo tm z k no=no∨∃ z' cs',jO l lo tm z k no=k z'∧Instr.fill place cs (ps.map fun (i,x)=>(i,a.eval x))=some cs'∧dA f z' cs'.toList∧z'.length=z.length:=by
 induction h with
 | nil=>intro z cs hz;exact .inr ⟨z,cs,rfl,rfl,hz,rfl⟩
 | cons i x o n r l hp hr ih =>
  intro z cs hz
  have hx:=bJ hG hE x
  have e:jO ((o,n,aU gs ds x)::l) lo tm z k no=oE o n (bW (aU gs ds x) lo tm) z (fun z=>jO l lo tm z k no) no:=rfl
  rw [e]
  unfold oE
  cases ht:Ah (bW (aU gs ds x) lo tm) with
  | true=>exact .inl rfl
  | false =>
   have hc:=hx.cells ht
   cases h1:Nat.beq (len (gL (bW (aU gs ds x) lo tm))) n with
   | false=>exact .inl rfl
   | true =>
    cases h2:Nat.ble (Nat.add o n) (len z) with
    | false=>exact .inl rfl
    | true =>
     have h1:=Nat.eq_of_beq_eq_true h1
     have h2:=Nat.ble_eq.mp h2
     rw [eF] at h1 h2
     have h2':o+n≤z.length:=h2
     have hsz:(a.eval x).cells.size=n:=by rw [← h1,hc.1];simp
     have hzc:z.length=cs.size:=by rw [hz.1];simp
     show jO l lo tm (over z o (gL (bW (aU gs ds x) lo tm))) k no=no∨_
     have hset:=aIc (a.eval x).cells cs o (by omega)
     generalize hcs:(a.eval x).cells.zipIdx.foldl (fun cs (c,j)=>cs.setIfInBounds (o+j) c) cs=cs1 at hset
     have hrel:dA f (over z o (gL (bW (aU gs ds x) lo tm))) cs1.toList:=by rw [hset];exact aId hz hc (by omega)
     rcases ih _ cs1 hrel with h|⟨z',cs',g1,g2,g3,g4⟩
     · exact .inl h
     · refine .inr ⟨z',cs',g1,?_,g3,by rw [g4,kE]⟩
       simp only [List.map_cons,Instr.fill,hp]
       rw [if_neg (by simp [hsz];omega),hcs]
       exact g2
theorem dA.plain {f:Map} {l:List Value} (h:l.all gG=true):dA f l l:=by
 induction l with
 | nil=>exact dA.nil f
 | cons v l ih =>
  rw [List.all_cons,Bool.and_eq_true] at h
  exact dA.cons (bS.plain h.1) (ih h.2)
theorem jX {t:TypeId} {z:List Value} (h:pI P t=some z):∃ ti v,P.info? t=some ti∧ti.zero=some v∧z=v.cells.toList∧(∀ f,dA f z z)∧z.length=ti.size∧sz P t=ti.size:=by
 unfold pI at h
 cases hi:P.info? t with
 | none=>rw [hi] at h;cases h
 | some ti =>
  rw [hi] at h
  cases hz:ti.zero with
  | none=>simp [hz] at h
  | some v =>
   simp only [hz] at h
   obtain ⟨h1,h2⟩:=dC h
   cases h2
   rw [Bool.and_eq_true] at h1
   have h3:=Nat.eq_of_beq_eq_true h1.2
   rw [eF] at h3
   exact ⟨ti,v,rfl,hz,aEU v,fun f=>dA.plain h1.1,h3,by simp [sz,Program.cellsOf,hi]⟩
theorem Kj {t:TypeId} {parts:Array (Nat×Operand)} {z:List Value} {l:List (Nat×Nat×OD)} {place:Nat→Option (Nat×Nat)} (ho:o.op=.build t parts) (hz:pI P t=some z)
 (hp:(∃ fs pl,P.underlying t=some (.struct fs)∧fs.toList.mapM (fun f=>(P.info? f.type).map fun i=>(f.offset,i.size))=some pl∧place=fun i=>pl[i]?) ∨
   ∃ n e ie,P.underlying t=some (.array n e)∧P.info? e=some ie∧place=fun i=>some (i*ie.size,ie.size)) (hl:qZ gs ds place parts.toList=some l) :
 eB P gs ds o (cZ z l):=by
 intro lo tm v hv f a w hG hE
 obtain ⟨ti,vz,hi,hiz,rfl,hzz,_,_⟩:=jX hz
 have hpo:=Pj _ _ hl
 unfold cZ at hv
 have hL:dA f vz.cells.toList vz.cells.toList:=hzz f
 rcases Vo hG hE (fun l=>some (Value.agg ⟨l⟩)) none hpo vz.cells.toList vz.cells hL with h|⟨z',cs',h1,h2,h3,_⟩
 · rw [h] at hv;cases hv
 · rw [h1] at hv;cases hv
   refine ⟨.agg cs',?_,?_⟩
   · have hb:P.built t (parts.map fun (i,x)=>(i,a.eval x)).toList=some cs':=by
      unfold Program.built
      rcases hp with ⟨fs,pl,hu,hm,rfl⟩|⟨n,e,ie,hu,he,rfl⟩
      · rw [hi,hu];simp only [hiz,hm]
        rw [Array.toList_map]
        simpa using h2
      · rw [hi,hu];simp only [hiz,he]
        rw [Array.toList_map]
        exact h2
     have:=run_build w t _ cs' hb
     simp only [execOp,ho,Sem.run_bind,this]
     rfl
   · have:=bS.Cu h3
     simpa using this
def xI (fn:Func) (k:Nat) (e:Array Value→Sem Value):Prop:=match k with
 | 0=>e=Extern.AbiNoEscape.same
 | 1=>e=Extern.BytealgMakeNoZero.makeNoZero fn.params fn.resultTypes
 | 2=>e=Extern.BytealgCount.count
 | 3=>e=Extern.BytealgIndexByte.indexByte
 | 4=>e=Extern.BytealgCompare.compare
 | _=>True
def XOk (P:Program) (xs:List (Nat×Nat)):Prop:=∀ g k,xk xs g=some k→∃ fn e,P.funcs[g]?=some fn∧(fn.name == "runtime.NumGoroutine")=false∧fn.body.isNone=true∧Extern.findNext fn=none∧Extern.find fn=some e∧xI fn k e
theorem Hu (ρ:Operand→Value) {g:FuncId} {args:Array Operand} {ats:Array TypeId} (w:World) (ho:o.op=.call { callee:=.value (.func g),args:=args,argTypes:=ats })
 (hρ:ρ (.func g)=.func (.func g) #[] #[]):(execOp ρ o).run P w=(callFunc g (args.map ρ)).run P w:=by
 unfold execOp
 rw [ho]
 simp only [resolve,hρ,Deferred.ofValue,Sem.run_bind]
 simp [invoke]
theorem vE {ρ:Operand→Value} {g:FuncId} {k:Nat} {xs:List (Nat×Nat)} {args:Array Operand} {ats:Array TypeId} (w:World) (ho:o.op=.call { callee:=.value (.func g),args:=args,argTypes:=ats })
 (hρ:ρ (.func g)=.func (.func g) #[] #[]) (hX:XOk P xs) (hk:xk xs g=some k) :
 ∃ fn e,P.funcs[g]?=some fn∧xI fn k e∧(execOp ρ o).run P w=((e (args.map ρ)).run P w).andThen fun v w'=>.ok (.value v) w':=by
 obtain ⟨fn,e,h1,h2,h3,h4,h5,h6⟩:=hX g k hk
 exact ⟨fn,e,h1,h6,by rw [Hu ρ w ho hρ,run_callFunc_extern h1 h2 h3 h4 h5]⟩
theorem aA4 {g:FuncId} {xs:List (Nat×Nat)} {x:Operand} {args:Array Operand} {ats:Array TypeId} (ho:o.op=.call { callee:=.value (.func g),args:=args,argTypes:=ats }) (ha:args.toList=[x]) (hX:XOk P xs) (hk:xk xs g=some 0) :
 eB P gs ds o (aC (aU gs ds x)):=by
 intro lo tm v hv f a w hG hE
 cases hv
 have:=lH ha;subst this
 obtain ⟨fn,e,_,he,hr⟩:=vE (P:=P) (ρ:=a.eval) w ho rfl hX hk
 have he:e=Extern.AbiNoEscape.same:=he
 subst he
 refine ⟨a.eval x,?_,bJ hG hE x⟩
 rw [hr,show (#[x]:Array Operand).map a.eval=#[a.eval x] by simp,show Extern.AbiNoEscape.same #[a.eval x]=pure (a.eval x) from rfl]
 rfl
theorem aNT (x y:List UInt8):aAK x y=match (List.range (min x.length y.length)).find? fun i=>x[i]! != y[i]! with
 | some i=>if x[i]! < y[i]! then -1 else 1
 | none=>if x.length<y.length then -1 else if x.length>y.length then 1 else 0:=by
 induction x generalizing y with
 | nil=>cases y<;>simp<;>rfl
 | cons a x ih =>
  cases y with
  | nil=>simp;rfl
  | cons b y =>
   have e:aAK (a::x) (b::y)=bif Nat.blt a.toNat b.toNat then .negSucc 0 else bif bEq a b then aAK x y else .ofNat 1:=rfl
   rw [e,aAV]
   have e2:Nat.blt a.toNat b.toNat=decide (a<b):=by
    rw [Bool.eq_iff_iff,Nat.blt_eq];simp [UInt8.lt_iff_toNat_lt]
   rw [e2]
   have e3:min (a::x).length (b::y).length=min x.length y.length+1:=by simp
   rw [e3,List.range_succ_eq_map,List.find?_cons]
   by_cases hab:a=b
   · subst hab
     have h1:¬ a<a:=by simp
     simp only [h1,decide_false,beq_self_eq_true,cond_true,cond_false]
     rw [ih y]
     simp only [List.getElem!_cons_zero,bne_self_eq_false,List.find?_map,Function.comp_def,List.getElem!_cons_succ,List.length_cons]
     cases (List.range (min x.length y.length)).find? fun i=>x[i]! != y[i]! with
     | none=>simp
     | some i=>simp
   · have h1:(a == b)=false:=by simpa using hab
     simp only [List.getElem!_cons_zero,h1,cond_false]
     have h2:(a != b)=true:=by simpa using hab
     simp only [h2]
     by_cases h3:a<b<;>simp [h3]
theorem cmp_eq (s s':ByteArray):Extern.BytealgCompare.cmp s s'=aAK (bl s) (bl s'):=by
 rw [aNT]
 have e:∀ (b:ByteArray) (i:Nat),b[i]! = (bl b)[i]! := fun b i=>by
  by_cases h:i<b.size
  · rw [getElem!_pos b i h,getElem!_pos (bl b) i (by rw [jD];exact h)]
    rfl
  · rw [getElem!_neg b i h,getElem!_neg (bl b) i (by rw [jD];exact h)]
 unfold Extern.BytealgCompare.cmp
 simp only [e,jD]
 cases (List.range (min s.size s'.size)).find? (fun i=>(bl s)[i]! != (bl s')[i]!)<;>rfl
theorem aFb {g:FuncId} {xs:List (Nat×Nat)} {x y:Operand} {args:Array Operand} {ats:Array TypeId} (ho:o.op=.call { callee:=.value (.func g),args:=args,argTypes:=ats }) (ha:args.toList=[x,y]) (hX:XOk P xs) (hk:xk xs g=some 4) :
 eB P gs ds o (aDl (aU gs ds x) (aU gs ds y)):=by
 intro lo tm v hv f a w hG hE
 have hx:=bJ hG hE x
 have hy:=bJ hG hE y
 have:=vD ha;subst this
 obtain ⟨fn,e,_,he,hr⟩:=vE (P:=P) (ρ:=a.eval) w ho rfl hX hk
 have he:e=Extern.BytealgCompare.compare:=he
 subst he
 unfold aDl at hv
 rcases mV (bW (aU gs ds x) lo tm) (fun a=>pT (bW (aU gs ds y) lo tm) (fun b=>nU .i64 (aAK (bl a) (bl b))) none) none with ⟨s,e1,h1⟩|h1
 · rw [h1] at hv;rw [e1] at hx
   rcases mV (bW (aU gs ds y) lo tm) (fun b=>nU .i64 (aAK (bl s) (bl b))) none with ⟨s',e2,h2⟩|h2
   · rw [h2] at hv;rw [e2] at hy
     have:=kD hv;subst this
     refine ⟨_,?_,.int _ _⟩
     rw [hr,show (#[x,y]:Array Operand).map a.eval=#[a.eval x,a.eval y] by simp,
      show Extern.BytealgCompare.compare #[a.eval x,a.eval y]=(do pure (goInt (Extern.BytealgCompare.cmp (← Extern.Bytes.bytesOf (a.eval x)) (← Extern.Bytes.bytesOf (a.eval y))))) from rfl,hx.jW,hy.jW]
     simp [Extern.Bytes.bytesOf,cmp_eq,goInt]
   · rw [h2] at hv;cases hv
 · rw [h1] at hv;cases hv
end
section
variable {P:Program} {gs:List Nat} {ds:List (Option Tmp)} {o:Oper}
def sO (P:Program) (f:Map) (a:Act) (o:Oper) (w:World) (p:PR):Prop:=match p with
 | .none=>True
 | .val v=>∃ v',(execOp a.eval o).run P w=.ok (.value v') w∧bS f v v'
 | .read b g=>∃ i,f b=some i∧∀ ob v x,g ob=some v→w.heap[i.fE]?=some x→pD f i ob x→∃ v',(execOp a.eval o).run P w=.ok (.value v') w∧bS f v v'
def rF (P:Program) (gs:List Nat) (ds:List (Option Tmp)) (o:Oper) (fn:DR):Prop :=
 ∀ lo tm f (a:Act) w,mC gs f→Env f ds lo tm a.tmps→sO P f a o w (fn lo tm)
theorem De {R:Type} (ob:dY) (k:T Value→Nat→TypeId→Bool→Bool→R) (z:R):(∃ c n e cl ro,ob=.row c n e cl ro∧tF ob k z=k c n e cl ro)∨tF ob k z=z:=by
 cases ob with
 | row c n e cl ro=>exact .inl ⟨c,n,e,cl,ro,rfl,rfl⟩
 | iter s p=>exact .inr rfl
 | mp es=>exact .inr rfl
theorem pD.cell {f:Map} {i:Cn} {c:T Value} {n:Nat} {e:TypeId} {cl ro:Bool} {x:Obj} {w:World} (h:pD f i (.row c n e cl ro) x) (hx:w.heap[i.fE]?=some x) {k:Nat} {v:Value} (hk:k<n) (hv:c.get (path k)=some v) :
 ∃ v',w.cell? ⟨i.fE,i.o+k,none⟩=some v'∧bS f v v':=by
 cases h with
 | row _ _ _ _ _ arr elem' fz he hs hn hcl hro hc =>
  obtain ⟨v',h1,h2⟩:=hc k v hk hv
  exact ⟨v',by simp [World.cell?,hx,h1],h2⟩
theorem pD.shape {f:Map} {i:Cn} {c:T Value} {n:Nat} {e:TypeId} {cl ro:Bool} {x:Obj} {w:World} (h:pD f i (.row c n e cl ro) x) (hx:w.heap[i.fE]?=some x) :
 ∃ e',w.shape? i.fE=some (e',i.n)∧(e=e'∨e=UNK)∧i.o+n≤i.n∧(cl=true→i.o=0∧n=i.n):=by
 cases h with
 | row _ _ _ _ _ arr elem' fz he hs hn hcl hro hc=>exact ⟨elem',by simp [World.shape?,hx,hs],he,hn,hcl⟩
theorem aA5 {v:Value} {p:PR} (h:aDc v=p):p=.none∨∃ ad,v=.pointer (some ad)∧p=.read ad.block fun ob=>tF ob (fun c n _ _ _=>bif Nat.blt ad.off n then c.get (path ad.off) else none) none:=by
 unfold aDc at h
 rcases oW v (fun b o=>PR.read b fun ob=>tF ob (fun c n _ _ _=>bif Nat.blt o n then c.get (path o) else none) none) .none with ⟨ad,e,h1⟩|h1
 · rw [h1] at h;exact .inr ⟨ad,e,h.symm⟩
 · rw [h1] at h;exact .inl h.symm
theorem aA6 {t:TypeId} {x:Operand} {d:TypeDesc} (ho:o.op=.load t x) (hd:P.underlying t=some d) (hagg:eR P t=false):rF P gs ds o (aI (aU gs ds x)):=by
 intro lo tm f a w hG hE
 have hx:=bJ hG hE x
 show sO P f a o w (aDc (bW (aU gs ds x) lo tm))
 rcases aA5 (v:=bW (aU gs ds x) lo tm) rfl with h|⟨ad,e,h⟩
 · rw [h];trivial
 · rw [h];rw [e] at hx
   obtain ⟨_,i,hi,hxe⟩:=hx.mX
   refine ⟨i,hi,fun ob v x' hv hx' hor=>?_⟩
   rcases De ob (fun c n _ _ _=>bif Nat.blt ad.off n then c.get (path ad.off) else none) none with ⟨c,n,e',cl,ro,rfl,h2⟩|h2
   · dsimp only at hv;rw [h2] at hv
     obtain ⟨h3,h4⟩:=dC hv
     obtain ⟨v',h5,h6⟩:=hor.cell hx' (Nat.blt_eq.mp h3) h4
     refine ⟨v',?_,h6⟩
     simp [execOp,ho,Instr.loadAt,Instr.sureAddr,loadVar,hxe,mY hagg hd,h5]
   · dsimp only at hv;rw [h2] at hv;cases hv
theorem Kk (c:T Value) (o:Nat):∀ (n:Nat) (acc l:List Value),cR c o n acc=some l→l.length=n+acc.length∧(∀ j,j<n→∃ v,c.get (path (o+j))=some v∧l[j]?=some v)∧l.drop n=acc:=by
 intro n
 induction n with
 | zero=>intro acc l h;cases h;exact ⟨by simp,fun j hj=>absurd hj (by omega),rfl⟩
 | succ n ih =>
  intro acc l h
  have h':eC (c.get (path (Nat.add o n))) (fun v=>cR c o n (v::acc)) none=some l:=h
  obtain ⟨v,hv,h'⟩:=fN _ _ h'
  obtain ⟨h1,h2,h3⟩:=ih _ _ h'
  refine ⟨by rw [h1];simp;omega,fun j hj=>?_,?_⟩
  · by_cases hjn:j=n
    · subst hjn
      refine ⟨v,hv,?_⟩
      have:=congrArg (fun l=>l[0]?) h3
      simpa using this
    · exact h2 j (by omega)
  · have:=congrArg (fun l=>l.drop 1) h3
    simp at this
    simpa [Nat.add_comm] using this
theorem uG (b o k:Nat):(⟨b,o,none⟩:Addr).add k=⟨b,o+k,none⟩:=by simp [Addr.add]
theorem yE {f:Map} {i:Cn} {c:T Value} {n:Nat} {e:TypeId} {cl ro:Bool} {x:Obj} {w:World} (h:pD f i (.row c n e cl ro) x) (hx:w.heap[i.fE]?=some x) {ao m:Nat} {l:List Value} (hm:ao+m≤n) (hl:cR c ao m []=some l) :
 l.length=m∧∃ l':List Value,dA f l l'∧(∀ j v,l'[j]?=some v→w.cell? ((⟨i.fE,i.o+ao,none⟩:Addr).add j)=some v)∧(loadCells ⟨i.fE,i.o+ao,none⟩ m).run P w=.ok l'.toArray w:=by
 obtain ⟨h1,h2,_⟩:=Kk c ao m [] l hl
 have h1:l.length=m:=by simpa using h1
 have main:∀ j,j<m→∃ v',w.cell? ⟨i.fE,i.o+(ao+j),none⟩=some v'∧∀ v,l[j]?=some v→bS f v v':=fun j hj=>by
  obtain ⟨v,hv,hlj⟩:=h2 j hj
  obtain ⟨v',h3,h4⟩:=h.cell hx (k:=ao+j) (by omega) hv
  exact ⟨v',h3,fun u hu=>by rw [hlj] at hu;cases hu;exact h4⟩
 have hch:∃ g:Nat→Value,∀ j,j<m→w.cell? ⟨i.fE,i.o+(ao+j),none⟩=some (g j)∧∀ v,l[j]?=some v→bS f v (g j):=by
  refine ⟨fun j=>(w.cell? ⟨i.fE,i.o+(ao+j),none⟩).getD undef,fun j hj=>?_⟩
  obtain ⟨v',h3,h4⟩:=main j hj
  dsimp only;rw [h3];exact ⟨rfl,h4⟩
 obtain ⟨g,hg⟩:=hch
 refine ⟨h1,(List.range m).map g,⟨by simp [h1],fun j v hv=>?_⟩,fun j v hv=>?_,?_⟩
 · have hj:j<m:=by rw [← h1];exact (List.getElem?_eq_some_iff.1 hv).1
   exact ⟨g j,by simp [hj],(hg j hj).2 v hv⟩
 · have hj:j<m:=by simpa using (List.getElem?_eq_some_iff.1 hv).1
   rw [uG,Nat.add_assoc,(hg j hj).1]
   have:((List.range m).map g)[j]?=some (g j):=by simp [hj]
   rw [this] at hv;exact hv
 · rw [run_loadCells w _ m g fun j hj=>by rw [uG,Nat.add_assoc];exact (hg j hj).1]
theorem aA7 {m:Nat} {v:Value} {p:PR} (h:aDd m v=p):p=.none∨∃ ad,v=.pointer (some ad)∧p=.read ad.block fun ob=>tF ob (fun c n _ _ _=>bif Nat.ble (Nat.add ad.off m) n then eC (cR c ad.off m []) (fun l=>some (.agg ⟨l⟩)) none else none) none:=by
 unfold aDd at h
 rcases oW v (fun b o=>PR.read b fun ob=>tF ob (fun c n _ _ _=>bif Nat.ble (Nat.add o m) n then eC (cR c o m []) (fun l=>some (.agg ⟨l⟩)) none else none) none) .none with ⟨ad,e,h1⟩|h1
 · rw [h1] at h;exact .inr ⟨ad,e,h.symm⟩
 · rw [h1] at h;exact .inl h.symm
theorem aA8 {t:TypeId} {x:Operand} {d:TypeDesc} (ho:o.op=.load t x) (hd:P.underlying t=some d) (hagg:eR P t=true):rF P gs ds o (bO (sz P t) (aU gs ds x)):=by
 intro lo tm f a w hG hE
 have hx:=bJ hG hE x
 show sO P f a o w (aDd (sz P t) (bW (aU gs ds x) lo tm))
 rcases aA7 (m:=sz P t) (v:=bW (aU gs ds x) lo tm) rfl with h|⟨ad,e,h⟩
 · rw [h];trivial
 · rw [h];rw [e] at hx
   obtain ⟨_,i,hi,hxe⟩:=hx.mX
   refine ⟨i,hi,fun ob v x' hv hx' hor=>?_⟩
   rcases De ob (fun c n _ _ _=>bif Nat.ble (Nat.add ad.off (sz P t)) n then eC (cR c ad.off (sz P t) []) (fun l=>some (Value.agg ⟨l⟩)) none else none) none with ⟨c,n,e',cl,ro,rfl,h2⟩|h2
   · dsimp only at hv;rw [h2] at hv
     obtain ⟨h3,h4⟩:=dC hv
     obtain ⟨l,hl,h4⟩:=fN _ _ h4
     cases h4
     obtain ⟨_,l',h5,_,h6⟩:=yE (P:=P) hor hx' (Nat.ble_eq.mp h3) hl
     refine ⟨.agg l'.toArray,?_,bS.Cu h5⟩
     simp [execOp,ho,Instr.loadAt,Instr.sureAddr,loadVar,hxe,pK hagg,run_sizeOf hd,h6]
   · dsimp only at hv;rw [h2] at hv;cases hv
theorem aFc {s d e:TypeId} {x:Operand} {j:TypeInfo} (ho:o.op=.convert s d x) (hs:P.underlying s=some (.pointer e)) (hd:P.underlying d=some .unsafePointer) (he:P.info? e=some j) (hj:j.size≠0) :
 rF P gs ds o (aHy (aU gs ds x)):=by
 intro lo tm f a w hG hE
 have hx:=bJ hG hE x
 show sO P f a o w (aUp (bW (aU gs ds x) lo tm))
 generalize bW (aU gs ds x) lo tm=vx at *
 generalize hxe:a.eval x=ux at *
 cases hx<;>first|trivial|skip
 · exact ⟨.pointer none,by simp [execOp,ho,convert,run_underlying hs,run_underlying hd,hxe,Conv.unsafePointer],.nilPtr⟩
 · rename_i b ao i hi
   refine ⟨i,hi,fun ob v x' hv hx' hor=>?_⟩
   rcases De ob (fun _ n _ _ _=>bif Nat.blt ao n then some (bE b ao) else none) none with ⟨c,n,e',cl,ro,rfl,h2⟩|h2
   · have hv':tF (.row c n e' cl ro) (fun _ n _ _ _=>bif Nat.blt ao n then some (bE b ao) else none) none=some v:=hv
     rw [h2] at hv'
     obtain ⟨h3,h4⟩:=dC hv'
     cases h4
     have h3:=Nat.blt_eq.mp h3
     obtain ⟨e2,h5,_,h6,_⟩:=hor.shape hx'
     refine ⟨_,?_,.ptr b ao i hi⟩
     have:=Lib.run_to_unsafe (P:=P) (w:=w) ⟨i.fE,i.o+ao,none⟩ hs hd he hj h5 (by show i.o+ao<i.n;omega)
     simp [execOp,ho,hxe,this]
   · have hv':tF ob (fun _ n _ _ _=>bif Nat.blt ao n then some (bE b ao) else none) none=some v:=hv
     rw [h2] at hv';cases hv'
theorem aIe {e:TypeId} {cells off:Nat} (hs:P.cellsOf e≠0) (h1:off % P.cellsOf e=0) (h2:off+P.cellsOf e≤cells):liesAt P P.depth e (cells / P.cellsOf e) off e 1=true:=by
 have hd:P.depth=(2*(P.types.size+Made.depth)+1)+1:=rfl
 have hlt:off / P.cellsOf e+1≤cells / P.cellsOf e:=by
  have hpos:0<P.cellsOf e:=Nat.pos_of_ne_zero hs
  rw [Nat.le_div_iff_mul_le hpos,Nat.add_mul]
  have:=Nat.div_add_mod off (P.cellsOf e)
  rw [h1] at this
  have h3:off / P.cellsOf e*P.cellsOf e=off:=by rw [Nat.mul_comm];omega
  omega
 rw [hd]
 generalize 2*(P.types.size+Made.depth)+1=k at *
 have hsl:sameLayout P P.depth e e=true:=by
  rw [hd];simp [sameLayout]
 have hrow:rowAt P (sameLayout P P.depth · e) (k+1) e (cells / P.cellsOf e) off 1=true:=by
  simp only [rowAt]
  rw [if_neg hs]
  simp [h1,hlt,hsl]
 simp only [liesAt]
 rw [hd] at hrow ⊢
 simp [hrow]
theorem aFd {s d e:TypeId} {x:Operand} {j:TypeInfo} (ho:o.op=.convert s d x) (hs:P.underlying s=some .unsafePointer) (hd:P.underlying d=some (.pointer e)) (he:P.info? e=some j) (hj:sz P e≠0) (hU:e≠UNK) :
 rF P gs ds o (aHz e (sz P e) (aU gs ds x)):=by
 intro lo tm f a w hG hE
 have hx:=bJ hG hE x
 show sO P f a o w (aUq e (sz P e) (bW (aU gs ds x) lo tm))
 generalize bW (aU gs ds x) lo tm=vx at *
 generalize hxe:a.eval x=ux at *
 cases hx<;>first|trivial|skip
 · exact ⟨.pointer none,by simp [execOp,ho,convert,run_underlying hs,run_underlying hd,hxe,Conv.unsafePointer],.nilPtr⟩
 · rename_i b ao i hi
   refine ⟨i,hi,fun ob v x' hv hx' hor=>?_⟩
   have hv':tF ob (fun _ n e' cl _=>bif cl && Nat.beq e' e && Nat.blt ao n && Nat.beq (Nat.mod ao (sz P e)) 0 && Nat.ble (Nat.add ao (sz P e)) n then some (bE b ao) else none) none=some v:=hv
   rcases De ob (fun _ n e' cl _=>bif cl && Nat.beq e' e && Nat.blt ao n && Nat.beq (Nat.mod ao (sz P e)) 0 && Nat.ble (Nat.add ao (sz P e)) n then some (bE b ao) else none) none with ⟨c,n,e',cl,ro,rfl,h2⟩|h2
   · rw [h2] at hv'
     obtain ⟨h3,h4⟩:=dC hv'
     cases h4
     simp only [Bool.and_eq_true] at h3
     obtain ⟨⟨⟨⟨c1,c2⟩,c3⟩,c4⟩,c5⟩:=h3
     have c2:=Nat.eq_of_beq_eq_true c2
     have c4:ao % sz P e=0:=Nat.eq_of_beq_eq_true c4
     have c5:ao+sz P e≤n:=Nat.ble_eq.mp c5
     obtain ⟨e2,h5,h6,h7,h8⟩:=hor.shape hx'
     obtain ⟨h9,h10⟩:=h8 c1
     have hee:e2=e:=by
      rcases h6 with h|h
      · rw [← h,c2]
      · exact absurd (c2.symm.trans h) hU
     subst hee
     refine ⟨_,?_,.ptr b ao i hi⟩
     have:=Lib.run_from_unsafe (P:=P) (w:=w) ⟨i.fE,i.o+ao,none⟩ hs hd he h5 (aIe hj (by show (i.o+ao) % _=0;rw [h9,Nat.zero_add];exact c4) (by show i.o+ao+_≤i.n;rw [h9,← h10,Nat.zero_add];exact c5))
     simp [execOp,ho,hxe,this]
   · rw [h2] at hv';cases hv'
theorem Ri:∀ {l:List Value} {bs:List UInt8},cG.bytesOf l=some bs→l=bs.map xG:=by
 intro l
 induction l with
 | nil=>intro bs h;cases h;rfl
 | cons v l ih =>
  intro bs h
  have h':jQ v (fun kd x=>bif Nat.beq (kN kd) 4 then qV x (fun n=>bif Nat.blt n 256 then eC (cG.bytesOf l) (fun r=>some (UInt8.ofNat n::r)) none else none) none else none) none=some bs:=h
  rcases jV v (fun kd x=>bif Nat.beq (kN kd) 4 then qV x (fun n=>bif Nat.blt n 256 then eC (cG.bytesOf l) (fun r=>some (UInt8.ofNat n::r)) none else none) none else none) none with ⟨kd,x,rfl,e⟩|e
  · rw [e] at h'
    obtain ⟨h1,h2⟩:=dC h'
    have hk:kd=.u8:=by cases kd<;>first|rfl|cases h1
    subst hk
    rcases mW x (fun n=>bif Nat.blt n 256 then eC (cG.bytesOf l) (fun r=>some (UInt8.ofNat n::r)) none else none) none with ⟨n,rfl,e'⟩|e'
    · rw [e'] at h2
      obtain ⟨h3,h4⟩:=dC h2
      obtain ⟨r,hr,h4⟩:=fN _ _ h4
      cases h4
      have:=ih hr;subst this
      have hn:n<256:=Nat.blt_eq.mp h3
      have:(UInt8.ofNat n).toNat=n:=by simp;omega
      rw [List.map_cons]
      congr 1
      unfold xG
      rw [this];rfl
    · rw [e'] at h2;cases h2
  · rw [e] at h';cases h'
theorem dA.bytes {f:Map} {bs:List UInt8} {l':List Value} (h:dA f (bs.map xG) l'):l'=bs.map xG:=by
 induction bs generalizing l' with
 | nil=>exact h.aDb
 | cons b bs ih =>
  obtain ⟨v',r,rfl,hv,hr⟩:=h.Jr
  rw [ih hr,hv.gI];rfl
theorem Dg {ob:dY} {ao m:Nat} {cs:List Value} (h:kR ob ao m=some cs):∃ c n e cl ro,ob=.row c n e cl ro∧ao+m≤n∧cR c ao m []=some cs:=by
 unfold kR at h
 rcases De ob (fun c k _ _ _=>bif Nat.ble (Nat.add ao m) k then cR c ao m [] else none) none with ⟨c,n,e,cl,ro,rfl,h2⟩|h2
 · rw [h2] at h
   obtain ⟨h3,h4⟩:=dC h
   exact ⟨c,n,e,cl,ro,rfl,Nat.ble_eq.mp h3,h4⟩
 · rw [h2] at h;cases h
theorem Ax {f:Map} {i:Cn} {ob:dY} {x:Obj} {w:World} {ao m:Nat} {cs:List Value} {bs:List UInt8} (h:pD f i ob x) (hx:w.heap[i.fE]?=some x) (hc:kR ob ao m=some cs) (hb:cG.bytesOf cs=some bs) :
 bs.length=m∧(∀ j (b:UInt8),bs[j]?=some b→w.cell? ((⟨i.fE,i.o+ao,none⟩:Addr).add j)=some (.int .u8 (b.toNat:Int)))∧(loadCells ⟨i.fE,i.o+ao,none⟩ m).run P w=.ok (bs.map xG).toArray w:=by
 obtain ⟨c,n,e,cl,ro,rfl,hm,hl⟩:=Dg hc
 obtain ⟨h1,l',h2,h3,h4⟩:=yE (P:=P) h hx hm hl
 have:=Ri hb;subst this
 have:=h2.bytes;subst this
 refine ⟨by simpa using h1,fun j b hj=>?_,h4⟩
 exact h3 j (xG b) (by simp [hj])
theorem Kl (bs:List UInt8):(bs.map fun b:UInt8=>UInt8.ofNat ((b.toNat:Int)).toNat)=bs:=by
 induction bs with
 | nil=>rfl
 | cons b bs ih=>rw [List.map_cons,ih];simp
theorem aFe (ns:List Int):∀ (s:ByteArray),ns.foldl (fun r n=>r.push (UInt8.ofNat n.toNat)) s=⟨s.data++(ns.map fun n=>UInt8.ofNat n.toNat).toArray⟩:=by
 induction ns with
 | nil=>intro s;simp
 | cons n ns ih =>
  intro s
  rw [List.foldl_cons,ih]
  apply ByteArray.ext
  simp [ByteArray.push]
theorem Fs (l:List UInt8):(⟨ByteArray.empty.data++l.toArray⟩:ByteArray)=jM l:=by
 apply ByteArray.ext
 show (#[]:Array UInt8)++l.toArray=l.toArray
 simp
theorem bS.mD {f:Map} {v':Value} {a:Addr} {l c:Nat} (h:bS f (.slice (some a) l c) v'):∃ i A c',f a.block=some i∧v'=.slice (some A) l c'∧(0<l→A=⟨i.fE,i.o+a.off,none⟩):=by
 obtain ⟨i,hi,h|⟨lb,o',c',_,_,h1,_,h2,_,h3⟩⟩:=h.lF
 · exact ⟨i,_,c,hi,h.2.2,fun _=>rfl⟩
 · refine ⟨i,_,c',hi,h3,fun hl=>?_⟩
   rcases h2 with h2|h2
   · rw [h2]
   · omega
theorem Of {s d e:TypeId} {x:Operand} (ho:o.op=.convert s d x) (hs:P.underlying s=some (.slice e)) (he:P.underlying e=some (.int .u8)) (hd:P.underlying d=some .string):rF P gs ds o (mI (aU gs ds x)):=by
 intro lo tm f a w hG hE
 have hx:=bJ hG hE x
 have hr:∀ p l c,a.eval x=.slice p l c→(execOp a.eval o).run P w=((Conv.bytesToString (.slice p l c)).run P w).andThen fun v w=>.ok (.value v) w:=fun p l c hxe=>by
  simp only [execOp,ho,hxe,Sem.run_bind,run_convert_bytes_string w s d e p l c hs he hd]
  rfl
 have h0:∀ A c,(Conv.bytesToString (.slice (some A) 0 c)).run P w=.ok (.string (jM [])) w:=fun A c=>run_bytesToString (P:=P) w A 0 c [] (by simp [loadCells,loadCellsFrom])
 show sO P f a o w (pF (bW (aU gs ds x) lo tm))
 generalize bW (aU gs ds x) lo tm=vx at *
 have hstr:∀ s,bS f (.string s) (.string s):=fun s=>.string _
 cases vx with
 | slice p l c =>
  cases p with
  | none =>
   generalize hxe:a.eval x=ux at *
   cases hx
   exact ⟨.string (jM []),by rw [hr _ _ _ rfl];rfl,hstr _⟩
  | some ad =>
   obtain ⟨i,A,c',hi,hxe,hA⟩:=hx.mD
   have e1:pF (.slice (some ad) l c)=bif Nat.beq l 0 then .val (.string (jM [])) else .read ad.block fun ob=>eC (kR ob ad.off l) (fun cs=>eC (cG.bytesOf cs) Ad none) none:=rfl
   rw [e1]
   cases hl:Nat.beq l 0 with
   | true =>
    have:=Nat.eq_of_beq_eq_true hl;subst this
    exact ⟨.string (jM []),by rw [hr _ _ _ hxe,h0];rfl,hstr _⟩
   | false =>
    have hl0:0<l:=by
     rcases Nat.eq_zero_or_pos l with h|h
     · subst h;cases hl
     · exact h
    refine ⟨i,hi,fun ob v x' hv hx' hor=>?_⟩
    dsimp only at hv
    obtain ⟨cs,hcs,hv⟩:=fN _ _ hv
    obtain ⟨bs,hbs,hv⟩:=fN _ _ hv
    cases hv
    obtain ⟨h1,h2,h3⟩:=Ax (P:=P) hor hx' hcs hbs
    refine ⟨.string (jM bs),?_,hstr _⟩
    rw [hr _ _ _ hxe,hA hl0,run_bytesToString (P:=P) w _ l c' (bs.map fun b:UInt8=>(b.toNat:Int)) (by rw [h3];simp [xG])]
    rw [aFe,List.map_map]
    have:(fun n:Int=>UInt8.ofNat n.toNat)∘(fun b:UInt8=>(b.toNat:Int))=fun b:UInt8=>UInt8.ofNat ((b.toNat:Int)).toNat:=rfl
    rw [this,Kl,Fs]
    rfl
 | _=>trivial
theorem aNU {f:Map} {v v':Value} {w:World} (k:List UInt8→Option Value) (hv:bS f v v'):match aAJ v k with
 | .none=>True
 | .val r=>∃ bs,k bs=some r∧(Extern.Bytes.bytesOf v').run P w=.ok (jM bs) w
 | .read b g=>∃ i,f b=some i∧∀ ob r x,g ob=some r→w.heap[i.fE]?=some x→pD f i ob x→∃ bs,k bs=some r∧(Extern.Bytes.bytesOf v').run P w=.ok (jM bs) w:=by
 have hto:∀ (bs:List UInt8),(Extern.Bytes.bytesOf v').run P w=.ok (jM bs) w→match aAI (k bs) with
  | .none=>True
  | .val r=>∃ bs,k bs=some r∧(Extern.Bytes.bytesOf v').run P w=.ok (jM bs) w
  | .read b g=>∃ i,f b=some i∧∀ ob r x,g ob=some r→w.heap[i.fE]?=some x→pD f i ob x→∃ bs,k bs=some r∧(Extern.Bytes.bytesOf v').run P w=.ok (jM bs) w:=fun bs h=>by
  cases hk:k bs with
  | none=>trivial
  | some r=>exact ⟨bs,hk,h⟩
 cases v with
 | string s =>
  have:=hv.jW;subst this
  exact hto (bl s) (by rw [aAU];rfl)
 | slice p l c =>
  have e1:aAJ (.slice p l c) k=bif Nat.beq l 0 then aAI (k []) else Option.rec (motive:=fun _=>PR) .none (fun a=>.read a.block fun ob=>eC (kR ob a.off l) (fun cs=>eC (cG.bytesOf cs) k none) none) p:=rfl
  rw [e1]
  cases hl:Nat.beq l 0 with
  | true =>
   have:=Nat.eq_of_beq_eq_true hl;subst this
   refine hto [] ?_
   cases p with
   | none=>cases hv;rfl
   | some ad =>
    obtain ⟨i,A,c',hi,hxe,hA⟩:=hv.mD
    subst hxe;rfl
  | false =>
   have hl0:0<l:=by
    rcases Nat.eq_zero_or_pos l with h|h
    · subst h;cases hl
    · exact h
   cases p with
   | none=>trivial
   | some ad =>
    obtain ⟨i,A,c',hi,hxe,hA⟩:=hv.mD
    refine ⟨i,hi,fun ob r x' hr hx' hor=>?_⟩
    dsimp only at hr
    obtain ⟨cs,hcs,hr⟩:=fN _ _ hr
    obtain ⟨bs,hbs,hr⟩:=fN _ _ hr
    obtain ⟨h1,h2,h3⟩:=Ax (P:=P) hor hx' hcs hbs
    refine ⟨bs,hr,?_⟩
    subst hxe
    rw [hA hl0]
    have:=Lib.run_loadBytesX (P:=P) w (bs.map fun b:UInt8=>(b.toNat:Int)) ⟨i.fE,i.o+ad.off,none⟩ .empty (fun j z hj=>by
     rw [List.getElem?_map] at hj
     cases hb:bs[j]? with
     | none=>rw [hb] at hj;cases hj
     | some b=>rw [hb] at hj;cases hj;exact h2 j b hb)
    have e2:Lib.bytesOf (bs.map fun b:UInt8=>(b.toNat:Int))=bs:=by
     unfold Lib.bytesOf
     rw [List.map_map]
     exact Kl bs
    rw [e2,Fs,List.length_map,h1] at this
    exact this
 | _=>trivial
theorem aIf {R:Type} (v:Value) (k:Nat→R) (z:R):(∃ c:Nat,c<256∧v=.int .u8 (c:Int)∧Ai v k z=k c)∨Ai v k z=z:=by
 unfold Ai
 rcases jV v (fun kd c=>bif Nat.beq (kN kd) 4 then qV c (fun c=>bif Nat.blt c 256 then k c else z) z else z) z with ⟨kd,x,rfl,e⟩|e
 · rw [e]
   cases hk:Nat.beq (kN kd) 4 with
   | false=>exact .inr rfl
   | true =>
    have hk':kd=.u8:=by cases kd<;>first|rfl|cases hk
    subst hk'
    rcases mW x (fun c=>bif Nat.blt c 256 then k c else z) z with ⟨n,rfl,e'⟩|e'
    · rw [e']
      cases hb:Nat.blt n 256 with
      | false=>exact .inr rfl
      | true=>exact .inl ⟨n,Nat.blt_eq.mp hb,rfl,rfl⟩
    · rw [e'];exact .inr rfl
 · exact .inr e
theorem aNV (c:Nat) (hc:c<256) (l:List UInt8) (a:Nat):aE0 c l a=a+Lib.countByte l (UInt8.ofNat c):=by
 induction l generalizing a with
 | nil=>simp [Lib.countByte];rfl
 | cons b l ih =>
  have e:aE0 c (b::l) a=bif Nat.beq b.toNat c then bN (Nat.succ a) (aE0 c l) else aE0 c l a:=rfl
  rw [e,bD,ih,ih]
  have h:Nat.beq b.toNat c=(b == UInt8.ofNat c):=by
   rw [Bool.eq_iff_iff,Nat.beq_eq,beq_iff_eq,← UInt8.toNat_inj]
   simp [Nat.mod_eq_of_lt hc]
  rw [h]
  unfold Lib.countByte
  rw [List.count_cons]
  cases b == UInt8.ofNat c<;>simp<;>omega
theorem aIg (c:Nat) (hc:c<256) (l:List UInt8) (i:Nat):Pd c l i=if Lib.indexByte l (UInt8.ofNat c)=-1 then -1 else Lib.indexByte l (UInt8.ofNat c)+i:=by
 induction l generalizing i with
 | nil=>rfl
 | cons b l ih =>
  have e:Pd c (b::l) i=bif Nat.beq b.toNat c then .ofNat i else bN (Nat.succ i) (Pd c l):=rfl
  rw [e,bD,ih]
  have h:Nat.beq b.toNat c=(b == UInt8.ofNat c):=by
   rw [Bool.eq_iff_iff,Nat.beq_eq,beq_iff_eq,← UInt8.toNat_inj]
   simp [Nat.mod_eq_of_lt hc]
  rw [h]
  have hge:=Lib.indexByte_ge l (UInt8.ofNat c)
  have e2:Lib.indexByte (b::l) (UInt8.ofNat c)=if b == UInt8.ofNat c then 0 else if Lib.indexByte l (UInt8.ofNat c) == -1 then -1 else Lib.indexByte l (UInt8.ofNat c)+1:=rfl
  rw [e2]
  generalize Lib.indexByte l (UInt8.ofNat c)=n at *
  cases b == UInt8.ofNat c with
  | true=>simp
  | false =>
   by_cases h2:n=-1
   · subst h2;simp
   · have h3:¬ n+1=-1:=by omega
     simp [h2,h3];omega
theorem Vp {g:FuncId} {k:Nat} {xs:List (Nat×Nat)} {x y:Operand} {args:Array Operand} {ats:Array TypeId} {fn:DR} {val:Nat→List UInt8→Option Value} {ent:Array Value→Sem Value}
 (ho:o.op=.call { callee:=.value (.func g),args:=args,argTypes:=ats }) (ha:args.toList=[x,y]) (hX:XOk P xs) (hk:xk xs g=some k)
 (hkind:∀ fn e,xI fn k e→e=ent) (hfn:fn=fun lo tm=>aAJ (bW (aU gs ds x) lo tm) (fun l=>Ai (bW (aU gs ds y) lo tm) (fun c=>val c l) none))
 (hent:∀ v s (c:Nat) w r,c<256→val c s=some r→(Extern.Bytes.bytesOf v).run P w=.ok (jM s) w→(ent #[v,.int .u8 (c:Int)]).run P w=.ok r w∧gG r=true):rF P gs ds o fn:=by
 intro lo tm f a w hG hE
 have hx:=bJ hG hE x
 have hy:=bJ hG hE y
 have:=vD ha;subst this
 obtain ⟨fn',e,_,he,hr⟩:=vE (P:=P) (ρ:=a.eval) w ho rfl hX hk
 have he:=hkind _ _ he
 subst he
 subst hfn
 have main:∀ bs r,Ai (bW (aU gs ds y) lo tm) (fun c=>val c bs) none=some r→(Extern.Bytes.bytesOf (a.eval x)).run P w=.ok (jM bs) w→∃ v',(execOp a.eval o).run P w=.ok (.value v') w∧bS f r v':=fun bs r h1 h2=>by
  rcases aIf (bW (aU gs ds y) lo tm) (fun c=>val c bs) none with ⟨c,hc,e1,e2⟩|e2
  · rw [e2] at h1;rw [e1] at hy
    obtain ⟨h3,h4⟩:=hent _ _ c w r hc h1 h2
    refine ⟨r,?_,bS.plain h4⟩
    rw [hr,show (#[x,y]:Array Operand).map a.eval=#[a.eval x,a.eval y] by simp,hy.gI,h3]
    rfl
  · rw [e2] at h1;cases h1
 have h:=aNU (P:=P) (w:=w) (fun l=>Ai (bW (aU gs ds y) lo tm) (fun c=>val c l) none) hx
 revert h
 show _→sO P f a o w (aAJ (bW (aU gs ds x) lo tm) (fun l=>Ai (bW (aU gs ds y) lo tm) (fun c=>val c l) none))
 cases aAJ (bW (aU gs ds x) lo tm) (fun l=>Ai (bW (aU gs ds y) lo tm) (fun c=>val c l) none) with
 | none=>exact fun _=>trivial
 | val r=>exact fun ⟨bs,h1,h2⟩=>main bs r h1 h2
 | read b g=>exact fun ⟨i,hi,h⟩=>⟨i,hi,fun ob r x' hv hx' hor=>let ⟨bs,h1,h2⟩:=h ob r x' hv hx' hor;main bs r h1 h2⟩
theorem aFf {g:FuncId} {xs:List (Nat×Nat)} {x y:Operand} {args:Array Operand} {ats:Array TypeId} (ho:o.op=.call { callee:=.value (.func g),args:=args,argTypes:=ats }) (ha:args.toList=[x,y]) (hX:XOk P xs) (hk:xk xs g=some 2) :
 rF P gs ds o (aRm (aU gs ds x) (aU gs ds y)) :=
 Vp (val:=fun c l=>jS .i64 (aE0 c l 0)) (ent:=Extern.BytealgCount.count) ho ha hX hk (fun fn e h=>h) rfl fun v s c w r hc hr hb=>by
  rw [lY] at hr;cases hr
  refine ⟨?_,rfl⟩
  have h:=Lib.run_countString (P:=P) (jM s) c w
  change Sem.run P (do
   let b ← Extern.Bytes.bytesOf (.string (jM s))
   let c' ← Extern.Bytes.asByte (.int .u8 c)
   pure (goInt (b.foldl (fun n x=>if x == c' then n+1 else n) (0:Nat)))) w=_ at h
  change Sem.run P (do
   let b ← Extern.Bytes.bytesOf v
   let c' ← Extern.Bytes.asByte (.int .u8 c)
   pure (goInt (b.foldl (fun n x=>if x == c' then n+1 else n) (0:Nat)))) w=_
  rw [aNV c hc,Nat.zero_add]
  simp only [Sem.run_bind,hb,Result.andThen_ok]
  simp only [Extern.Bytes.bytesOf,Sem.run_bind,Sem.run_pure,Result.andThen_ok] at h
  exact h
theorem aFg {g:FuncId} {xs:List (Nat×Nat)} {x y:Operand} {args:Array Operand} {ats:Array TypeId} (ho:o.op=.call { callee:=.value (.func g),args:=args,argTypes:=ats }) (ha:args.toList=[x,y]) (hX:XOk P xs) (hk:xk xs g=some 3) :
 rF P gs ds o (aRn (aU gs ds x) (aU gs ds y)) :=
 Vp (val:=fun c l=>nU .i64 (Pd c l 0)) (ent:=Extern.BytealgIndexByte.indexByte) ho ha hX hk (fun fn e h=>h) rfl fun v s c w r hc hr hb=>by
  have:=kD hr;subst this
  refine ⟨?_,rfl⟩
  have h:=Lib.run_indexByteString (P:=P) (jM s) c w
  change Sem.run P (do
   let b ← Extern.Bytes.bytesOf (.string (jM s))
   let c' ← Extern.Bytes.asByte (.int .u8 c)
   match (List.range b.size).find? fun i=>b[i]! == c' with
   | some i=>pure (goInt i)
   | none=>pure (goInt (-1))) w=_ at h
  change Sem.run P (do
   let b ← Extern.Bytes.bytesOf v
   let c' ← Extern.Bytes.asByte (.int .u8 c)
   match (List.range b.size).find? fun i=>b[i]! == c' with
   | some i=>pure (goInt i)
   | none=>pure (goInt (-1))) w=_
  have e:Pd c s 0=Lib.indexByte s (UInt8.ofNat c):=by
   rw [aIg c hc]
   split
   · rename_i h;exact h.symm
   · simp
  rw [e]
  simp only [Sem.run_bind,hb,Result.andThen_ok]
  simp only [Extern.Bytes.bytesOf,Sem.run_bind,Sem.run_pure,Result.andThen_ok] at h
  exact h
end
end cG
end Go
