/-
Symbolic runs of the evaluator: what its parts answer; the equations gathered.
Conditions: none.
-/
import Derived.Test.YtefdgihgbhbibaaGreatDoorEvalD
set_option linter.unusedVariables false
set_option linter.unusedSimpArgs false
set_option linter.defProp false
set_option maxRecDepth 10000
namespace Go
namespace cG
@[congr] theorem aYi {α R:Type} {o o':Option α} {k:α→R} {z:R} (h:o=o'):eC o k z=eC o' k z:=by rw [h]
@[congr] theorem aXp {R:Type} {v v':Value} {k:IntKind→Int→R} {z:R} (h:v=v'):jQ v k z=jQ v' k z:=by rw [h]
@[congr] theorem aYj {R:Type} {v v':Value} {k:Nat→Nat→Nat→Nat→R} {kn:Nat→Nat→R} {z:R} (h:v=v'):rW v k kn z=rW v' k kn z:=by rw [h]
@[congr] theorem aXq {R:Type} {v v':Value} {k:ByteArray→R} {z:R} (h:v=v'):pT v k z=pT v' k z:=by rw [h]
@[congr] theorem aUI {R:Type} {v v':Value} {k:Bool→R} {z:R} (h:v=v'):kZ v k z=kZ v' k z:=by rw [h]
@[congr] theorem aXr {R:Type} {v v':Value} {k:Nat→Nat→R} {z:R} (h:v=v'):kO v k z=kO v' k z:=by rw [h]
@[congr] theorem aXs {R:Type} {v v':Value} {k:List Value→R} {z:R} (h:v=v'):uX v k z=uX v' k z:=by rw [h]
@[congr] theorem aXt {R:Type} {v v':Value} {k:Nat→R} {z:R} (h:v=v'):lP v k z=lP v' k z:=by rw [h]
@[congr] theorem aTR {R:Type} {v v':Value} {w:Bool} {y n z:R} (h:v=v'):iB v w y n z=iB v' w y n z:=by rw [h]
@[congr] theorem aYk {r r':eL} {kn:T Value→Df→Hp→eL} {ke:Nat→T Value→Df→Hp→eL} (h:r=r'):mT r kn ke=mT r' kn ke:=by rw [h]
@[congr] theorem aXu {tm:T Value} {df:Df} {k:Value→Hp→eL} {r r':fV} (h:r=r'):Uw tm df k r=Uw tm df k r':=by rw [h]
@[congr] theorem aXv {k:Value→Hp→eL} {r r':fV} (h:r=r'):aAM k r=aAM k r':=by rw [h]
@[congr] theorem aYl {hp:Hp} {k:Value→eL} {r r':PR} (h:r=r'):prK hp r k=prK hp r' k:=by rw [h]
@[congr] theorem aXw {R:Type} {a b:R} {c c':Bool} (h:c=c'):cond c a b=cond c' a b:=by rw [h]
@[congr] theorem aYm {l:CD} {cm:Nat→Nat→Bool} {call:Call} {d d':Dn} {lo:List Value} {tm tm':T Value} {df:Df} {h h':Hp} (h0:d=d') (h1:tm=tm') (h2:h=h'):qA l cm call d lo tm df h=qA l cm call d' lo tm' df h':=by rw [h0,h1,h2]
@[congr] theorem aYn {l:CL} {call:Call} {lo:List Value} {tm tm':T Value} {df:Df} {h h':Hp} (h1:tm=tm') (h2:h=h'):oV l call lo tm df h=oV l call lo tm' df h':=by rw [h1,h2]
@[congr] theorem aYo {l:CC} {call:Call} {tm tm':T Value} {df:Df} {h h':Hp} (h1:tm=tm') (h2:h=h'):iP l call tm df h=iP l call tm' df h':=by rw [h1,h2]
noncomputable def aBp {R:Type} (a b:R) (t:Bool):R:=Bool.rec (motive:=fun _=>R) a b t
@[congr] theorem aXx {R:Type} {a b:R} {c c':Bool} (h:c=c'):aBp a b c=aBp a b c':=by rw [h]
theorem aIK {R:Type} (a b:R):aBp a b true=b:=rfl
theorem aUJ {R:Type} (a b:R):aBp a b false=a:=rfl
noncomputable def prD {R:Type} (z:R) (k:Value→R) (kr:Nat→(dY→Option Value)→R) (p:PR):R:=PR.rec (motive:=fun _=>R) z k kr p
@[congr] theorem aYp {R:Type} {z:R} {k:Value→R} {kr:Nat→(dY→Option Value)→R} {p p':PR} (h:p=p'):prD z k kr p=prD z k kr p':=by rw [h]
theorem rH {α R:Type} (v:α) (k:α→R) (z:R):eC (some v) k z=k v:=rfl
theorem aRF {R:Type} (kd:IntKind) (n:Int) (k:IntKind→Int→R) (z:R):jQ (.int kd n) k z=k kd n:=rfl
theorem aUL {R:Type} (b o l c:Nat) (k:Nat→Nat→Nat→Nat→R) (kn:Nat→Nat→R) (z:R):rW (.slice (some ⟨b,o,none⟩) l c) k kn z=k b o l c:=rfl
theorem yH {R:Type} (b o l c:Nat) (k:Nat→Nat→Nat→Nat→R) (kn:Nat→Nat→R) (z:R):rW (cB b o l c) k kn z=k b o l c:=rfl
theorem aIL {R:Type} (l c:Nat) (k:Nat→Nat→Nat→Nat→R) (kn:Nat→Nat→R) (z:R):rW (.slice none l c) k kn z=kn l c:=rfl
theorem aRG {R:Type} (s:ByteArray) (k:ByteArray→R) (z:R):pT (.string s) k z=k s:=rfl
theorem zN {R:Type} (b:Bool) (k:Bool→R) (z:R):kZ (.bool b) k z=k b:=rfl
theorem aRH {R:Type} (b o:Nat) (k:Nat→Nat→R) (z:R):kO (bE b o) k z=k b o:=rfl
theorem aRI {R:Type} (a:List Value) (k:List Value→R) (z:R):uX (.agg ⟨a⟩) k z=k a:=rfl
theorem aRJ {R:Type} (a:List Value) (k:List Value→R) (z:R):aHs (.tuple ⟨a⟩) k z=k a:=rfl
theorem tM {R:Type} (kd:IntKind) (n:Nat) (k:Nat→R) (z:R):lP (.int kd (.ofNat n)) k z=k n:=rfl
theorem Wl {R:Type} (y n z:R):iB (.bool true) true y n z=y:=rfl
theorem Wm {R:Type} (y n z:R):iB (.bool true) false y n z=n:=rfl
theorem Wn {R:Type} (y n z:R):iB (.bool false) true y n z=n:=rfl
theorem Wo {R:Type} (y n z:R):iB (.bool false) false y n z=y:=rfl
theorem aBq {R:Type} (want:Bool) (y n z:R):iB undef want y n z=n:=rfl
theorem Dr (a b:CC) (call:Call) (tm:T Value) (df:Df) (h:Hp):iP (.seq a b) call tm df h=mT (iP a call tm df h) (iP b call) (fun i tm df h=>.ok (.exit i) tm df h):=rfl
theorem aIM (l:CL) (call:Call) (tm:T Value) (df:Df) (h:Hp):iP (.region l) call tm df h=oV l call [] tm df h:=rfl
theorem aRK (an:T Nat) (l:CD) (call:Call) (tm:T Value) (df:Df) (h:Hp):iP (.draw an l) call tm df h=qA l (comp an) call ⟨[],[],[]⟩ [] tm df h:=rfl
theorem aIN (call:Call) (tm:T Value) (df:Df) (h:Hp):iP .skip call tm df h=.ok .normal tm df h:=rfl
theorem aUM (call:Call) (tm:T Value) (df:Df) (h:Hp):iP .ret call tm df h=.ok .ret tm df h:=rfl
theorem aIO (i:Nat) (call:Call) (tm:T Value) (df:Df) (h:Hp):iP (.exit i) call tm df h=.ok (.exit i) tm df h:=rfl
theorem Gb (c:OD) (a b:CC) (call:Call) (tm:T Value) (df:Df) (h:Hp):iP (.cond c a b) call tm df h=kZ (bW c [] tm) (fun b'=>aBp (iP b call tm df h) (iP a call tm df h) b') .none:=rfl
theorem Jc (id:Nat) (b:CC) (call:Call) (tm:T Value) (df:Df) (h:Hp):iP (.block id b) call tm df h=mT (iP b call tm df h) (fun tm df h=>.ok .normal tm df h) (fun i tm df h=>bif Nat.beq i id then .ok .normal tm df h else .ok (.exit i) tm df h):=rfl
theorem aIP (b:CC) (call:Call) (tm:T Value) (df:Df) (h:Hp):iP (.loop b) call tm df h=Hq (iP b) 1000000 call tm df h:=rfl
theorem aDD (a:D) (n:Nat) (call:Call) (tm:T Value) (df:Df) (h:Hp):Hq a (n+1) call tm df h=mT (a call tm df h) (Hq a n call) (fun i tm df h=>.ok (.exit i) tm df h):=rfl
theorem Ry (tm:T Value) (df:Df) (h:Hp) (kn:T Value→Df→Hp→eL) (ke:Nat→T Value→Df→Hp→eL):mT (.ok .normal tm df h) kn ke=kn tm df h:=rfl
theorem aYr (i:Nat) (tm:T Value) (df:Df) (h:Hp) (kn:T Value→Df→Hp→eL) (ke:Nat→T Value→Df→Hp→eL):mT (.ok (.exit i) tm df h) kn ke=ke i tm df h:=rfl
theorem aYs (tm:T Value) (df:Df) (h:Hp) (kn:T Value→Df→Hp→eL) (ke:Nat→T Value→Df→Hp→eL):mT (.ok .ret tm df h) kn ke=.ok .ret tm df h:=rfl
theorem z_P (f:DP) (r:CL) (call:Call) (lo:List Value) (tm:T Value) (df:Df) (h:Hp):oV (.aA f r) call lo tm df h=eC (f lo tm) (fun v=>oV r call (v::lo) tm df h) .none:=rfl
theorem z_R (f:DR) (r:CL) (call:Call) (lo:List Value) (tm:T Value) (df:Df) (h:Hp):oV (.aN f r) call lo tm df h=prK h (f lo tm) (fun v=>oV r call (v::lo) tm df h):=rfl
theorem z_G (fl:Fl) (f:DO) (r:CL) (call:Call) (lo:List Value) (tm:T Value) (df:Df) (h:Hp):oV (.aD fl f r) call lo tm df h=Uw (fl.go lo tm) df (fun v h=>oV r call (v::lo) tm df h) (f call lo tm h):=rfl
theorem z_F (i:Nat) (p:List Bool) (r:CL) (call:Call) (lo:List Value) (tm:T Value) (df:Df) (h:Hp):oV (.flush i p r) call lo tm df h=oV r call lo (T.set p tm (some (nth lo i))) df h:=T.iA _ _ _ _
theorem z_N (call:Call) (lo:List Value) (tm:T Value) (df:Df) (h:Hp):oV .nil call lo tm df h=.ok .normal tm df h:=rfl
theorem aYt (fl:Fl) (g:OD) (want:Bool) (f:DP) (r:CL) (call:Call) (lo:List Value) (tm:T Value) (df:Df) (h:Hp):oV (.guard fl g want (.p f) r) call lo tm df h=iB (bW g lo tm) want (eC (f lo tm) (fun v=>oV r call (v::lo) tm df h) .none) (oV r call (undef::lo) tm df h) .none:=rfl
theorem aYu (fl:Fl) (g:OD) (want:Bool) (f:DR) (r:CL) (call:Call) (lo:List Value) (tm:T Value) (df:Df) (h:Hp):oV (.guard fl g want (.r f) r) call lo tm df h=iB (bW g lo tm) want (prK h (f lo tm) (fun v=>oV r call (v::lo) tm df h)) (oV r call (undef::lo) tm df h) .none:=rfl
theorem aYv (fl:Fl) (g:OD) (want:Bool) (f:DO) (r:CL) (call:Call) (lo:List Value) (tm:T Value) (df:Df) (h:Hp):oV (.guard fl g want (.g f) r) call lo tm df h=iB (bW g lo tm) want (Uw (fl.go lo tm) df (fun v h=>oV r call (v::lo) tm df h) (f call lo tm h)) (oV r call (undef::lo) tm df h) .none:=rfl
theorem aUN (tm:T Value) (df:Df) (k:Value→Hp→eL) (v:Value) (h:Hp):Uw tm df k (.val v h)=k v h:=rfl
theorem aUO (h:Hp) (v:Value) (k:Value→eL):prK h (.val v) k=k v:=rfl
theorem aQw (h:Hp) (b:Nat) (g:dY→Option Value) (k:Value→eL):prK h (.read b g) k=eC (h.at b) (fun o=>eC (g o) k .none) .none:=rfl
theorem Az {R:Type} (c:T Value) (n:Nat) (e:TypeId) (cl ro:Bool) (k:T Value→Nat→TypeId→Bool→Bool→R) (z:R):tF (.row c n e cl ro) k z=k c n e cl ro:=rfl
theorem aYw (f:DP) (r:CD) (cm:Nat→Nat→Bool) (call:Call) (d:Dn) (lo:List Value) (tm:T Value) (df:Df) (h:Hp):qA (.aA f r) cm call d lo tm df h=eC (f lo tm) (fun v=>qA r cm call d (v::lo) tm df h) .none:=rfl
theorem aYx (i:Nat) (p:List Bool) (r:CD) (cm:Nat→Nat→Bool) (call:Call) (d:Dn) (lo:List Value) (tm:T Value) (df:Df) (h:Hp):qA (.flush i p r) cm call d lo tm df h=qA r cm call d lo (T.set p tm (some (nth lo i))) df h:=T.iA _ _ _ _
theorem aYy (cm:Nat→Nat→Bool) (call:Call) (d:Dn) (lo:List Value) (tm:T Value) (df:Df) (h:Hp):qA .nil cm call d lo tm df h=.ok .normal tm df h:=rfl
theorem aYz (k:Nat) (f:DR) (r:CD) (cm:Nat→Nat→Bool) (call:Call) (d:Dn) (lo:List Value) (tm:T Value) (df:Df) (h:Hp):qA (.aN k f r) cm call d lo tm df h=prD .none (fun v=>qA r cm call d (v::lo) tm df h)
 (fun b g=>bif kT cm k b d.ws then eC (h.at b) (fun o=>eC (g o) (fun v=>qA r cm call ⟨d.ns,(k,b)::d.rs,d.ws⟩ (v::lo) tm df h) .none) .none else .none) (f lo tm):=rfl
theorem aUP {R:Type} (z:R) (k:Value→R) (kr:Nat→(dY→Option Value)→R) (v:Value):prD z k kr (.val v)=k v:=rfl
theorem aUQ {R:Type} (z:R) (k:Value→R) (kr:Nat→(dY→Option Value)→R) (b:Nat) (g:dY→Option Value):prD z k kr (.read b g)=kr b g:=rfl
theorem aYA (n:Nat) (bar:Bool) (own:List (Nat×Bool)) (f:DO) (r:CD) (cm:Nat→Nat→Bool) (call:Call) (d:Dn) (lo:List Value) (tm:T Value) (df:Df) (h:Hp):qA (.aD n bar own f r) cm call d lo tm df h =
 aAM (fun v h1=>bif allowed cm n bar own d h1.log then qA r cm call ⟨(h.next,n)::d.ns,d.rs,wrote n h1.log d.ws⟩ (v::lo) tm df (aS h1 h.base (below h.base h1.log h.log)) else .none) (f call lo tm (aS h h.next [])):=rfl
theorem aRL (k:Value→Hp→eL) (v:Value) (h:Hp):aAM k (.val v h)=k v h:=rfl
theorem aIQ (g:OD) (want:Bool) (f:DP) (r:CD) (cm:Nat→Nat→Bool) (call:Call) (d:Dn) (lo:List Value) (tm:T Value) (df:Df) (h:Hp):qA (.fC g want f r) cm call d lo tm df h=iB (bW g lo tm) want (eC (f lo tm) (fun v=>qA r cm call d (v::lo) tm df h) .none) (qA r cm call d (undef::lo) tm df h) .none:=rfl
theorem aIR (k:Nat) (g:OD) (want:Bool) (f:DR) (r:CD) (cm:Nat→Nat→Bool) (call:Call) (d:Dn) (lo:List Value) (tm:T Value) (df:Df) (h:Hp):qA (.mS k g want f r) cm call d lo tm df h=iB (bW g lo tm) want (qA (.aN k f r) cm call d lo tm df h) (qA r cm call d (undef::lo) tm df h) .none:=rfl
theorem yI (cm:Nat→Nat→Bool) (k b:Nat):kT cm k b []=true:=rfl
theorem aDE (cm:Nat→Nat→Bool) (k:Nat) (bar:Bool) (own:List (Nat×Bool)) (d:Dn):allowed cm k bar own d []=true:=rfl
theorem aDF (k:Nat) (ws:List (Nat×Nat)):wrote k [] ws=ws:=rfl
theorem aDG (b:Nat) (dL:List Nat):below b [] dL=dL:=rfl
theorem z_l (i:Nat) (lo:List Value) (tm:T Value):bW (.loc i) lo tm=nth lo i:=rfl
theorem z_t (p:List Bool) (lo:List Value) (tm:T Value):bW (.tmp p) lo tm=pS (tm.get p):=rfl
theorem z_v (v:Value) (lo:List Value) (tm:T Value):bW (.val v) lo tm=v:=rfl
theorem z_o (v:Value):pS (some v)=v:=rfl
theorem aUR (v:Value) (l:List Value):nth (v::l) 0=v:=rfl
theorem aUS (v:Value) (l:List Value) (i:Nat):nth (v::l) (i+1)=nth l i:=rfl
theorem aIS (lo:List Value) (tm:T Value):Co [] lo tm=[]:=rfl
theorem aIT (o:OD) (l:List OD) (lo:List Value) (tm:T Value):Co (o::l) lo tm=bW o lo tm::Co l lo tm:=rfl
theorem aIU (x:OD) (lo:List Value) (tm:T Value):aC x lo tm=some (bW x lo tm):=rfl
theorem aIV (x:OD) (lo:List Value) (tm:T Value):cW x lo tm=rW (bW x lo tm) (fun _ _ l _=>some (.int .i64 (.ofNat l))) (fun l _=>some (.int .i64 (.ofNat l))) none:=by
 unfold cW;simp only [lY];rfl
theorem aIW (x:OD) (lo:List Value) (tm:T Value):Kb x lo tm=pT (bW x lo tm) (fun s=>some (.int .i64 (.ofNat (bl s).length))) none:=by
 unfold Kb;simp only [lY,eF];rfl
theorem aDH (g:G) (x y:OD) (lo:List Value) (tm:T Value):aE g x y lo tm=jQ (bW x lo tm) (fun kd a=>jQ (bW y lo tm) (fun kd' b=>bif kEq kd kd' then g kd a b else none) none) none:=rfl
theorem aQx (k:IntKind):kEq k k=true:=by cases k<;>rfl
theorem aUT (kd:IntKind) (x y:Int):oL kd x y=some (.bool (uB x y)):=rD _
theorem aUU (kd:IntKind) (x y:Int):gLe kd x y=some (.bool (!uB y x)):=rD _
theorem aUV (kd:IntKind) (x y:Int):Oc kd x y=some (.bool (uB y x)):=rD _
theorem aUW (kd:IntKind) (x y:Int):gGe kd x y=some (.bool (!uB x y)):=rD _
theorem aUX (kd:IntKind) (x y:Int):kX kd x y=some (.bool (Pb x y)):=rD _
theorem aUY (kd:IntKind) (x y:Int):Ar kd x y=some (.bool (!Pb x y)):=rD _
theorem aQy (kd:IntKind) (x y:Int):dW kd x y=some (.int kd (aR kd (kB x y))):=by unfold dW;rw [jC]
theorem aUZ (kd:IntKind) (x y:Int):gP kd x y=some (.int kd (aR kd (x - y))):=by unfold gP;rw [jC]
theorem aDI (a b:Nat):kB (.ofNat a) (.ofNat b)=.ofNat (a+b):=rfl
theorem Rz (a b:Nat):uB (.ofNat a) (.ofNat b)=Nat.blt a b:=rfl
theorem aIX (a b:Nat):Pb (.ofNat a) (.ofNat b)=Nat.beq a b:=rfl
theorem bF {a:Nat} (h:a<9223372036854775808):aR .i64 (.ofNat a)=.ofNat a:=by
 show (bif Nat.blt a 9223372036854775808 then _ else _)=_
 rw [Nat.blt_eq.mpr h];rfl
theorem bU {a b:Nat} (h:a<b):Nat.blt a b=true:=Nat.blt_eq.mpr h
theorem cI {a b:Nat} (h:b≤a):Nat.blt a b=false:=by
 cases e:Nat.blt a b with
 | false=>rfl
 | true=>have:=Nat.blt_eq.mp e;omega
theorem cX {a b:Nat} (h:a≤b):Nat.ble a b=true:=Nat.ble_eq.mpr h
theorem eN {a b:Nat} (h:b<a):Nat.ble a b=false:=by
 cases e:Nat.ble a b with
 | false=>rfl
 | true=>have:=Nat.ble_eq.mp e;omega
theorem aIY (s:Nat) (x i:OD) (lo:List Value) (tm:T Value):dZ s x i lo tm=lP (bW i lo tm) (fun i=>rW (bW x lo tm) (fun b o l _=>bif Nat.blt i l then some (bE b (o+i*s)) else none) (fun _ _=>none) none) none:=by
 unfold dZ;simp only [bD];rfl
theorem aIZ (off:Nat) (x:OD) (lo:List Value) (tm:T Value):aO off x lo tm=kO (bW x lo tm) (fun b o=>some (bE b (o+off))) none:=by
 unfold aO;simp only [bD];rfl
theorem aDJ (a:OD) (lo:List Value) (tm:T Value):aI a lo tm=kO (bW a lo tm) (fun b o=>.read b fun ob=>tF ob (fun c n _ _ _=>bif Nat.blt o n then c.get (path o) else none) none) .none:=rfl
theorem aDK (m:Nat) (a:OD) (lo:List Value) (tm:T Value):bO m a lo tm=kO (bW a lo tm) (fun b o=>.read b fun ob=>tF ob (fun c n _ _ _=>bif Nat.ble (o+m) n then eC (cR c o m []) (fun l=>some (.agg ⟨l⟩)) none else none) none) .none:=rfl
theorem aDL (op:BinOp) (x y:OD) (lo:List Value) (tm:T Value):uY op x y lo tm=pT (bW x lo tm) (fun a=>pT (bW y lo tm) (fun b=>xF op (bl a) (bl b)) none) none:=rfl
theorem aI0 (x y:List UInt8):xF .eql x y=some (.bool (Uk x y)):=rD _
theorem aI1 (x y:List UInt8):xF .neq x y=some (.bool (!Uk x y)):=rD _
theorem aI2 (x y:List UInt8):xF .lss x y=some (.bool (lLt x y)):=rD _
theorem aI3 (x y:List UInt8):xF .geq x y=some (.bool (!lLt x y)):=rD _
theorem aRO {x y:List UInt8} (h:x.length+y.length<9223372036854775808):xF .add x y=some (.string (jM (x++y))):=by
 show (bif Nat.blt (Nat.add (len x) (len y)) 9223372036854775808 then Ad (x++y) else none)=_
 rw [eF,eF]
 show (bif Nat.blt (x.length+y.length) 9223372036854775808 then Ad (x++y) else none)=_
 rw [bU h];rfl
theorem aI4 (c a b:OD) (lo:List Value) (tm:T Value):dG c a b lo tm=kZ (bW c lo tm) (fun t=>aBp (some (bW b lo tm)) (some (bW a lo tm)) t) none:=rfl
theorem aQz (x:OD) (lo:List Value) (tm:T Value):mO x lo tm=kZ (bW x lo tm) (fun b=>some (.bool (!b))) none:=by
 unfold mO;simp only [rD]
theorem aDM (g:FuncId) (l:List OD) (call:Call) (lo:List Value) (tm:T Value) (h:Hp):aW g l call lo tm h=call g (Co l lo tm) h:=rfl
section
def bC (r:eL) (φ:Ex→T Value→Df→Hp→Prop):Prop:=match r with|.none=>False|.ok e tm df h=>φ e tm df h
theorem Wp (e:Ex) (tm:T Value) (df:Df) (h:Hp) (φ:Ex→T Value→Df→Hp→Prop):bC (.ok e tm df h) φ=φ e tm df h:=rfl
theorem bC.mono {r:eL} {φ ψ:Ex→T Value→Df→Hp→Prop} (h:bC r φ) (hi:∀ e tm df h,φ e tm df h→ψ e tm df h):bC r ψ:=by
 cases r with
 | none=>exact h
 | ok e tm df h'=>exact hi _ _ _ _ h
theorem bC.mT {r:eL} {φ ψ:Ex→T Value→Df→Hp→Prop} {kn:T Value→Df→Hp→eL} {ke:Nat→T Value→Df→Hp→eL} (h:bC r φ) (hi:∀ e tm df h,φ e tm df h→bC (cG.mT (.ok e tm df h) kn ke) ψ):bC (cG.mT r kn ke) ψ:=by
 cases r with
 | none=>exact h
 | ok e tm df h'=>exact hi _ _ _ _ h
def yJ (I:Nat→T Value→Df→Hp→Prop) (φ:Ex→T Value→Df→Hp→Prop) (i:Nat) (e:Ex) (tm:T Value) (df:Df) (h:Hp):Prop:=(e=.normal∧I (i+1) tm df h)∨(e≠.normal∧φ e tm df h)
theorem yJ.go {I:Nat→T Value→Df→Hp→Prop} {φ:Ex→T Value→Df→Hp→Prop} {i:Nat} {tm:T Value} {df:Df} {h:Hp} (hI:I (i+1) tm df h):yJ I φ i .normal tm df h:=.inl ⟨rfl,hI⟩
theorem yJ.ex {I:Nat→T Value→Df→Hp→Prop} {φ:Ex→T Value→Df→Hp→Prop} {i k:Nat} {tm:T Value} {df:Df} {h:Hp} (hI:φ (.exit k) tm df h):yJ I φ i (.exit k) tm df h:=.inr ⟨by simp,hI⟩
theorem yJ.ret {I:Nat→T Value→Df→Hp→Prop} {φ:Ex→T Value→Df→Hp→Prop} {i:Nat} {tm:T Value} {df:Df} {h:Hp} (hI:φ .ret tm df h):yJ I φ i .ret tm df h:=.inr ⟨by simp,hI⟩
def aOl (φ:Ex→T Value→Df→Hp→Prop) (e:Ex) (tm:T Value) (df:Df) (h:Hp):Prop:=e≠.normal∧φ e tm df h
theorem aOl.ex {φ:Ex→T Value→Df→Hp→Prop} {k:Nat} {tm:T Value} {df:Df} {h:Hp} (hI:φ (.exit k) tm df h):aOl φ (.exit k) tm df h:=⟨by simp,hI⟩
theorem aI5 {a:D} {call:Call} {n:Nat} (I:Nat→T Value→Df→Hp→Prop) {φ:Ex→T Value→Df→Hp→Prop}
 (hstep:∀ i tm df h,i<n→I i tm df h→bC (a call tm df h) (yJ I φ i))
 (hend:∀ tm df h,I n tm df h→bC (a call tm df h) (aOl φ)) :
 ∀ (fuel i:Nat) (tm:T Value) (df:Df) (h:Hp),n<i+fuel→i≤n→I i tm df h→bC (Hq a fuel call tm df h) φ:=by
 have out:∀ (e:Ex) (tm:T Value) (df:Df) (h:Hp) (fuel:Nat),e≠.normal→φ e tm df h→bC (cG.mT (.ok e tm df h) (Hq a fuel call) (fun i tm df h=>.ok (.exit i) tm df h)) φ:=fun e tm df h fuel hn hp=>by
  cases e with
  | normal=>exact absurd rfl hn
  | exit i=>exact hp
  | ret=>exact hp
  | panic c=>exact hp
 intro fuel
 induction fuel with
 | zero=>intro i tm df h h1 h2;omega
 | succ fuel ih =>
  intro i tm df h h1 h2 hI
  rw [aDD]
  by_cases hi:i<n
  · refine (hstep i tm df h hi hI).mT fun e tm' df' h' hh=>?_
    rcases hh with ⟨rfl,hh⟩|⟨hn,hh⟩
    · rw [Ry];exact ih (i+1) tm' df' h' (by omega) (by omega) hh
    · exact out e tm' df' h' fuel hn hh
  · have:i=n:=by omega
    subst this
    exact (hend tm df h hI).mT fun e tm' df' h' hh=>out e tm' df' h' fuel hh.1 hh.2
theorem cT {b:CC} {call:Call} {n:Nat} (hn:n<1000000) (I:Nat→T Value→Df→Hp→Prop) {φ:Ex→T Value→Df→Hp→Prop} {tm:T Value} {df:Df} {h:Hp}
 (hstep:∀ i tm df h,i<n→I i tm df h→bC (iP b call tm df h) (yJ I φ i))
 (hend:∀ tm df h,I n tm df h→bC (iP b call tm df h) (aOl φ)) (h0:I 0 tm df h):bC (iP (.loop b) call tm df h) φ:=by
 rw [aIP]
 exact aI5 I hstep hend 1000000 0 tm df h (by omega) (Nat.zero_le _) h0
def Yields (r:fV) (φ:Value→Hp→Prop):Prop:=match r with|.val v h=>φ v h|_=>False
theorem Kz (v:Value) (h:Hp) (φ:Value→Hp→Prop):Yields (.val v h) φ=φ v h:=rfl
theorem Yields.get {r:fV} {φ:Value→Hp→Prop} (h:Yields r φ):∃ v h',r=.val v h'∧φ v h':=by
 cases r with
 | val v h'=>exact ⟨v,h',rfl,h⟩
 | none=>exact h.elim
 | panic c h'=>exact h.elim
theorem Yields.mono {r:fV} {φ ψ:Value→Hp→Prop} (h:Yields r φ) (hi:∀ v h,φ v h→ψ v h):Yields r ψ:=by
 cases r with
 | val v h'=>exact hi _ _ h
 | none=>exact h
 | panic c h'=>exact h
def Ip (rs:List CR) (φ:Value→Hp→Prop) (e:Ex) (tm:T Value) (df:Df) (h:Hp):Prop:=(e=.normal∨e=.ret)∧df=[]∧Yields (Hr rs tm h) φ
theorem Ip.ret {rs:List CR} {φ:Value→Hp→Prop} {tm:T Value} {h:Hp} (hy:Yields (Hr rs tm h) φ):Ip rs φ .ret tm [] h:=⟨.inr rfl,rfl,hy⟩
theorem Ip.end {rs:List CR} {φ:Value→Hp→Prop} {tm:T Value} {h:Hp} (hy:Yields (Hr rs tm h) φ):Ip rs φ .normal tm [] h:=⟨.inl rfl,rfl,hy⟩
theorem eS (p:List Bool) (tm:T Value) (h:Hp):Hr [.tmp p] tm h=.val (pS (tm.get p)) h:=rfl
theorem aP {nt na:Nat} {b:CC} {rs:List CR} {call:Call} {cd:cE} {args:List Value} {h:Hp} {φ:Value→Hp→Prop} (hn:(Nat.beq (len args) na && Nat.ble na nt)=true)
 (hb:bC (iP b call (aL args 0 .nil fun t=>t) [] h) (Ip rs φ)):Yields (dD (.mk nt na b rs) call cd args h) φ:=by
 show Yields (bif Nat.beq (len args) na && Nat.ble na nt then Al args 0 .nil fun tm=>eL.rec (motive:=fun _=>fV) .none (fun e tm df h=>Ex.rec (motive:=fun _=>fV) (leave cd rs df tm .ret h) (fun _=>.none) (leave cd rs df tm .ret h) (fun c=>leave cd rs df tm (.qB c) h) e) (iP b call tm [] h) else .none) φ
 rw [hn,cond_true,rG,kL]
 revert hb
 cases iP b call (aL args 0 .nil fun t=>t) [] h with
 | none=>intro h;exact h.elim
 | ok e tm df h' =>
  intro hb
  obtain ⟨he,hdf,hy⟩:=hb
  subst hdf
  rcases he with rfl|rfl<;>exact hy
variable {P:Program}
def mE (P:Program) (gs:List Nat) (g:FuncId) (args:List Value) (h:Hp) (r:fV):Prop:=∀ (args':List Value) (f:Map) (w:World),mC gs f→gX f h w→dA f args args'→match r with
 | .none=>True
 | .val v h'=>Enters P g∧Calls P g args'.toArray w fun | .returned v',w'=>∃ f',cV h h'∧cY f h w f' h' w'∧bS f' v v' | _,_=>False
 | .panic c h'=>Enters P g∧Calls P g args'.toArray w fun | .panicked c',w'=>∃ f',cV h h'∧cY f h w f' h' w'∧lQ f' c c' | _,_=>False
theorem oP {gs:List Nat} {call:Call}:gW P gs call↔∀ g args h,mE P gs g args h (call g args h) :=
 ⟨fun H g args h args' f w a b c=>H g args args' f h w a b c,fun H g args args' f h w a b c=>H g args h args' f w a b c⟩
theorem yK {gs:List Nat} {g:FuncId} {args:List Value} {h:Hp}:mE P gs g args h .none:=fun _ _ _ _ _ _=>trivial
theorem bS.Pv {f g:Map} {v v':Value} (hp:gG v=true) (h:bS f v v'):bS g v v':=by
 cases h<;>first|(cases hp;done)|(constructor;done)|exact .bool _|exact .int _ _|exact .string _
def tN (v:Value):Bool:=match v with|.agg a=>a.toList.all gG|v=>gG v
theorem bS.vM {f g:Map} {v v':Value} (hp:tN v=true) (h:bS f v v'):bS g v v':=by
 cases h with
 | agg a a' hs h =>
  refine .agg a a' hs fun i hi=>(h i hi).Pv ?_
  have:a.toList.all gG=true:=hp
  have h1:=List.all_eq_true.1 this (a[i]) (by simp)
  rw [iD (v:=a[i]) (by simp [hi])]
  exact h1
 | bool b=>exact .bool b
 | int k n=>exact .int k n
 | string s=>exact .string s
 | nilPtr=>exact .nilPtr
 | iF l c=>exact .iF l c
 | pR=>exact .pR
 | nilFunc=>exact .nilFunc
 | nilIface=>exact .nilIface
 | top v=>cases hp
 | ptr b o i h=>cases hp
 | slice b o l c i h hc hl=>cases hp
 | iM b o l c lb i o' c' h hc hlb hl hb ho hn=>cases hp
 | map b i h=>cases hp
 | func g a c a' c' ha hc va vc=>cases hp
 | iface t v v' h=>cases hp
 | tuple a a' hs h=>cases hp
noncomputable def quiet (r:fV) (h:Hp):fV:=match r with
 | .val v h1=>bif tN v then (match h1.log with | []=>.val v h | _=>.none) else .none
 | _=>.none
end
noncomputable def aT (l:List Value) (n:Nat) (e:TypeId) (cl:Bool):dY:=.row (aL l 0 .nil fun t=>t) n e cl false
theorem aF (h:Hp) (o:dY):(h.new o).next=h.next+1:=rfl
theorem dX (h:Hp) (o:dY):(h.new o).base=h.base:=rfl
theorem Gc (h:Hp) (o:dY):(h.new o).log=h.log:=rfl
theorem aV (h:Hp) (b:Nat) (o:Option dY):(h.put b o).next=h.next:=rfl
theorem mF (h:Hp) (b:Nat) (o:Option dY):(h.put b o).base=h.base:=rfl
theorem kM {h:Hp} {b:Nat} {o:Option dY} (hb:h.base≤b):(h.put b o).log=h.log:=by
 show jN h.base h.log b=h.log
 unfold jN
 rw [cI hb];rfl
theorem aM (h:Hp) (c:Nat) (o:dY):(h.new o).at c=if h.next=c then some o else h.at c:=Hp.tE h c o
theorem aJ (h:Hp) (b c:Nat) (o:Option dY):(h.put b o).at c=if b=c then o else h.at c:=Hp.uW h b c o
theorem dM (h:Hp) (n:Nat) (l:List Nat) (b:Nat):(aS h n l).at b=h.at b:=rfl
theorem cL (h:Hp) (n:Nat) (l:List Nat):(aS h n l).next=h.next:=rfl
theorem mL (h:Hp) (n:Nat) (l:List Nat):(aS h n l).base=n:=rfl
theorem Ds (h:Hp) (n:Nat) (l:List Nat):(aS h n l).log=l:=rfl
theorem aDN (h:Hp) (n m:Nat) (l k:List Nat):aS (aS h n l) m k=aS h m k:=rfl
theorem uL (h:Hp):aS h h.base h.log=h:=rfl
theorem Ws (h:Hp) (n:Nat) (l:List Nat) (o:dY):(aS h n l).new o=aS (h.new o) n l:=rfl
theorem An (h:Hp) (o:dY):aS (h.new o) h.base h.log=h.new o:=rfl
theorem aI7 (n:Nat):(n+1=n)=False:=by simp
theorem aI8 (n:Nat):(n+1+1=n)=False:=by simp;omega
theorem aI9 (n:Nat):(n+1+1+1=n)=False:=by simp;omega
theorem aJa (n:Nat):(n=n+1)=False:=by simp
theorem aJb (n:Nat):(n=n+1+1)=False:=by simp;omega
theorem aJc (n:Nat):(n=n+1+1+1)=False:=by simp;omega
theorem aQA (e:TypeId) (x:OD) (call:Call) (lo:List Value) (tm:T Value) (h:Hp):eM e x call lo tm h=aHw e (bW x lo tm) h:=rfl
theorem aJd (e:TypeId) (l:List Value) (h:Hp):aHw e (.agg ⟨l⟩) h=.val (bE h.next 0) (h.new (aT l l.length e true)):=by
 show gT h e l (len l) true (fun b h=>fV.val (bE b 0) h)=_
 rw [eG,eF];rfl
theorem aDO (e:TypeId) (z:List Value) (n:Nat) (call:Call) (lo:List Value) (tm:T Value) (h:Hp):cO e z n call lo tm h=.val (bE h.next 0) (h.new (aT z n e true)):=eG _ _ _ _ _ _
theorem Wt (a x:OD) (call:Call) (lo:List Value) (tm:T Value) (h:Hp):cD a x call lo tm h=kO (bW a lo tm) (fun b o=>jR h b o [bW x lo tm] (fun h=>.val undef h) .none) .none:=rfl
theorem Wu (n:Nat) (a x:OD) (call:Call) (lo:List Value) (tm:T Value) (h:Hp):bL n a x call lo tm h=kO (bW a lo tm) (fun b o=>uX (bW x lo tm) (fun l=>bif Nat.beq l.length n then jR h b o l (fun h=>.val undef h) .none else .none) .none) .none:=by
 unfold bL;simp only [eF]
theorem Dt {R:Type} (h:Hp) (b o:Nat) (l:List Value) (k:Hp→R) (z:R):jR h b o l k z=eC (h.at b) (fun ob=>tF ob (fun c n e cl ro=>bif ro then z else bif bY l then bif Nat.ble (o+l.length) n then k (h.put b (some (.row (aL l o c fun t=>t) n e cl false))) else z else z) z) z:=by
 unfold jR pU
 simp only [eF,Hp.qD]
 show eC (h.at b) _ z=eC (h.at b) _ z
 congr 1
 funext ob
 cases ob with
 | row c n e cl ro =>
  show (bif ro then z else bif bY l then bif Nat.ble (Nat.add o l.length) n then aL l o c fun c=>k (h.put b (some (.row c n e cl false))) else z else z)=_
  rw [kL];rfl
 | iter s p=>rfl
 | mp es=>rfl
theorem aOm {R:Type} (l:List Value) (n:Nat) (e:TypeId) (cl:Bool) (k:T Value→Nat→TypeId→Bool→Bool→R) (z:R):tF (aT l n e cl) k z=k (aL l 0 .nil fun t=>t) n e cl false:=rfl
theorem bM (l:List Value) (i:Nat) (c:T Value) (k:Nat):(aL l i c fun t=>t).get (path k)=if i≤k∧k<i+l.length then l[k - i]? else c.get (path k):=oN l i c k
theorem dQ (a:Value):(aL [a] 0 .nil fun t=>t).get []=some a:=rfl
theorem cN (a b:Value):(aL [a,b] 0 .nil fun t=>t).get []=some a:=rfl
theorem cP (a b:Value):(aL [a,b] 0 .nil fun t=>t).get [true]=some b:=rfl
theorem m0 (a b c:Value):(aL [a,b,c] 0 .nil fun t=>t).get []=some a:=rfl
theorem m8 (a b c:Value):(aL [a,b,c] 0 .nil fun t=>t).get [true]=some b:=rfl
theorem pW (a b c:Value):(aL [a,b,c] 0 .nil fun t=>t).get [false]=some c:=rfl
theorem aU1 (c:T Value) (o:Nat):cR c o 2 []=eC (c.get (path (o+1))) (fun v1=>eC (c.get (path (o+0))) (fun v0=>some [v0,v1]) none) none:=rfl
theorem aU2 (c:T Value) (o:Nat):cR c o 3 []=eC (c.get (path (o+2))) (fun v2=>eC (c.get (path (o+1))) (fun v1=>eC (c.get (path (o+0))) (fun v0=>some [v0,v1,v2]) none) none) none:=rfl
theorem aQB (ls:List (Nat×Nat)) (neg:Bool) (x y:OD) (lo:List Value) (tm:T Value):Uq ls neg x y lo tm=uX (bW x lo tm) (fun a=>uX (bW y lo tm) (fun b=>eC (jF ls a b) (fun t=>some (.bool (pG neg (!t)))) none) none) none:=by
 unfold Uq;simp only [rD]
theorem aDP (a b c d:ByteArray):jF [(0,3),(1,3)] [.string a,.string b] [.string c,.string d]=some (Uk (bl a) (bl c) && Uk (bl b) (bl d)):=by
 show Bool.rec (motive:=fun _=>Option Bool) (some false) (Bool.rec (motive:=fun _=>Option Bool) (some false) (some true) (Uk (bl b) (bl d))) (Uk (bl a) (bl c))=_
 cases Uk (bl a) (bl c)<;>cases Uk (bl b) (bl d)<;>rfl
theorem aJe (t:Bool):pG true t=t:=by cases t<;>rfl
theorem aJf (t:Bool):pG false t=!t:=by cases t<;>rfl
theorem aJg (e:TypeId) (n:Nat) (z:List Value) (parts:List (Nat×Nat×OD)) (call:Call) (lo:List Value) (tm:T Value) (h:Hp) :
 dK e n z parts call lo tm h=jO parts lo tm z (fun l=>.val (cB h.next 0 n n) (h.new (aT l l.length e true))) .none:=by
 unfold dK
 simp only [eG,eF]
 rfl
theorem Du (z:List Value) (parts:List (Nat×Nat×OD)) (lo:List Value) (tm:T Value):cZ z parts lo tm=jO parts lo tm z (fun l=>some (.agg ⟨l⟩)) none:=rfl
theorem Dv {R:Type} (lo:List Value) (tm:T Value) (z:List Value) (k:List Value→R) (no:R):jO [] lo tm z k no=k z:=rfl
theorem zO {R:Type} (p:Nat×Nat×OD) (r:List (Nat×Nat×OD)) (lo:List Value) (tm:T Value) (z:List Value) (k:List Value→R) (no:R):jO (p::r) lo tm z k no=oE p.1 p.2.1 (bW p.2.2 lo tm) z (fun z=>jO r lo tm z k no) no:=rfl
theorem Sa {R:Type} (o n:Nat) (l z:List Value) (k:List Value→R) (no:R):oE o n (.agg ⟨l⟩) z k no=bif Nat.beq l.length n then bif Nat.ble (o+n) z.length then k (over z o l) else no else no:=by
 show (bif false then no else bif Nat.beq (len l) n then bif Nat.ble (Nat.add o n) (len z) then k (over z o l) else no else no)=_
 rw [eF,eF];rfl
theorem aOn {R:Type} (o n:Nat) (s:ByteArray) (z:List Value) (k:List Value→R) (no:R):oE o n (.string s) z k no=bif Nat.beq 1 n then bif Nat.ble (o+n) z.length then k (over z o [.string s]) else no else no:=by
 show (bif false then no else bif Nat.beq 1 n then bif Nat.ble (Nat.add o n) (len z) then k (over z o [.string s]) else no else no)=_
 rw [eF];rfl
theorem aDQ (a b c d:Value):over [a,b] 0 [c,d]=[c,d]:=rfl
theorem aJh (s:ByteArray):bY [.string s]=true:=rfl
theorem aJi (s t:ByteArray):bY [.string s,.string t]=true:=rfl
theorem aDR (kd:IntKind) (x:OD) (lo:List Value) (tm:T Value):eA kd x lo tm=jQ (bW x lo tm) (fun _ a=>some (.int kd (aR kd a))) none:=by
 unfold eA;simp only [jC]
theorem La (kd:IntKind) (a b:Nat) (hb:Nat.beq b 0=false):iZ kd (.ofNat a) (.ofNat b)=some (.int kd (.ofNat (a % b))):=by
 have e:Pb (.ofNat b) 0=Nat.beq b 0:=rfl
 unfold iZ
 rw [e,hb,cond_false,jC];rfl
theorem Lb (kd:IntKind) (a:Nat):iZ kd (.ofNat a) (.ofNat 60001)=some (.int kd (.ofNat (a % 60001))):=La kd a 60001 rfl
theorem aJj (kd:IntKind) (a:Nat):iZ kd (.ofNat a) (.ofNat 8)=some (.int kd (.ofNat (a % 8))):=La kd a 8 rfl
theorem aJk (kd:IntKind) (a:Nat):iZ kd (.ofNat a) (.ofNat 5)=some (.int kd (.ofNat (a % 5))):=La kd a 5 rfl
theorem aJl (kd:IntKind) (a:Nat):iZ kd (.ofNat a) (.ofNat 4)=some (.int kd (.ofNat (a % 4))):=La kd a 4 rfl
theorem aDS (n s:Nat) (x i:OD) (lo:List Value) (tm:T Value):eQ n s x i lo tm=lP (bW i lo tm) (fun i=>kO (bW x lo tm) (fun b o=>bif Nat.blt i n then some (bE b (o+i*s)) else none) none) none:=by
 unfold eQ;simp only [bD];rfl
theorem aDT (a b c d:Value):over [a,b,c] 0 [d]=[d,b,c]:=rfl
theorem Jd {R:Type} (o n:Nat) (kd:IntKind) (s:Int) (z:List Value) (k:List Value→R) (no:R):oE o n (.int kd s) z k no=bif Nat.beq 1 n then bif Nat.ble (o+n) z.length then k (over z o [.int kd s]) else no else no:=by
 show (bif false then no else bif Nat.beq 1 n then bif Nat.ble (Nat.add o n) (len z) then k (over z o [.int kd s]) else no else no)=_
 rw [eF];rfl
theorem aJm (kd:IntKind) (n:Int) (r:List Value):bY (.int kd n::r)=bY r:=rfl
theorem aJn (s:ByteArray) (r:List Value):bY (.string s::r)=bY r:=rfl
theorem aJo (b:Bool) (r:List Value):bY (.bool b::r)=bY r:=rfl
theorem aJp (a:Option Addr) (l c:Nat) (r:List Value):bY (.slice a l c::r)=bY r:=rfl
theorem aDU (b o l c:Nat) (r:List Value):bY (cB b o l c::r)=bY r:=rfl
theorem aJq (b o:Nat) (r:List Value):bY (bE b o::r)=bY r:=rfl
theorem aJr:bY []=true:=rfl
theorem Lc (h:Hp) (n:Nat) (l:List Nat) (b:Nat) (o:Option dY):(aS h n l).put b o=aS (h.put b o) n (jN n l b):=rfl
theorem aDV {b n:Nat} (hb:Nat.blt b n=true):jN n [] b=[b]:=by unfold jN;rw [hb];rfl
theorem Pw (cm:Nat→Nat→Bool) (k:Nat) (bar:Bool) (own:List (Nat×Bool)) (d:Dn) (b:Nat):allowed cm k bar own d [b]=bif Option.rec (motive:=fun _=>Bool) bar (rB own) (owner d.ns b) then (bif kT cm k b d.rs then true else false) else false:=rfl
theorem Wv (n:Nat×Nat) (r:List (Nat×Nat)) (b:Nat):owner (n::r) b=bif Nat.ble n.1 b then some n.2 else owner r b:=rfl
theorem Ww (b:Nat):owner [] b=none:=rfl
theorem Wy (cm:Nat→Nat→Bool) (k b:Nat) (p:Nat×Nat) (l:List (Nat×Nat)):kT cm k b (p::l)=bif Nat.beq p.2 b then (bif cm p.1 k then kT cm k b l else false) else kT cm k b l:=rfl
theorem Ld {base b:Nat} {dL:List Nat} (hb:base≤b):below base [b] dL=dL:=by
 show (bif Nat.blt b base then _ else _)=_
 rw [cI hb];rfl
theorem aQC (k b:Nat) (ws:List (Nat×Nat)):wrote k [b] ws=(k,b)::ws:=rfl
class BL (x:List UInt8) (n:outParam Nat):Prop where
 le:x.length≤n
instance aZz:BL [] 0:=⟨Nat.le_refl _⟩
instance aYB (a:UInt8) (l:List UInt8) (n:Nat) [h:BL l n]:BL (a::l) (n+1):=⟨by have:=h.le;simp;omega⟩
instance aU3 (x y:List UInt8) (a b:Nat) [h:BL x a] [k:BL y b]:BL (x++y) (a+b):=⟨by have:=h.le;have:=k.le;simp;omega⟩
theorem aDW {x y:List UInt8} {a b:Nat} [h:BL x a] [k:BL y b] (hl:a+b<9223372036854775808):xF .add x y=some (.string (jM (x++y))):=aRO (by have:=h.le;have:=k.le;omega)
theorem aJs (l:List UInt8):bl (jM l)=l:=rfl
theorem aDX (x:OD) (l h:Option OD) (lo:List Value) (tm:T Value):xX x l h lo tm=pT (bW x lo tm) (fun s=>gQ h lo tm (bl s).length (bl s).length (fun hi=>gQ l lo tm 0 hi (fun lw=>some (.string (jM (xW (hi - lw) (Pc lw (bl s)))))) none) none) none:=by
 unfold xX;simp only [eF];rfl
theorem pX {R:Type} (x:OD) (lo:List Value) (tm:T Value) (d t:Nat) (k:Nat→R) (z:R):gQ (some x) lo tm d t k z=lP (bW x lo tm) (fun i=>bif Nat.ble i t then k i else z) z:=by
 unfold gQ;simp only [bD]
theorem yL {R:Type} (lo:List Value) (tm:T Value) (d t:Nat) (k:Nat→R) (z:R):gQ none lo tm d t k z=k d:=rfl
theorem aQD (x:OD) (lo:List Value) (tm:T Value):aEW x lo tm=jQ (bW x lo tm) (fun kd a=>some (.int kd (aR kd (-a)))) none:=by
 unfold aEW;simp only [jC]
theorem aJt (a b c x:Value):over [a,b,c] 0 [x]=[x,b,c]:=rfl
theorem aJu (a b c x:Value):over [a,b,c] 1 [x]=[a,x,c]:=rfl
theorem aJv (a b c x:Value):over [a,b,c] 2 [x]=[a,b,x]:=rfl
theorem aJw (a b c d x:Value):over [a,b,c,d] 0 [x]=[x,b,c,d]:=rfl
theorem aJx (a b c d x:Value):over [a,b,c,d] 1 [x]=[a,x,c,d]:=rfl
theorem aJy (a b c d x:Value):over [a,b,c,d] 2 [x]=[a,b,x,d]:=rfl
theorem aJz (a b c d x:Value):over [a,b,c,d] 3 [x]=[a,b,c,x]:=rfl
theorem aJA (a b x:Value):over [a,b] 1 [x]=[a,x]:=rfl
theorem aJB (a b x:Value):over [a,b] 0 [x]=[x,b]:=rfl
theorem aJC (a x:Value):over [a] 0 [x]=[x]:=rfl
theorem gM (a b c d:Value):[a,b,c,d].length=4:=rfl
theorem aDY (x:OD) (lo:List Value) (tm:T Value):Fg 32 1 x none none none lo tm=kO (bW x lo tm) (fun b o=>some (cB b o 32 32)) none:=by
 unfold Fg
 show kO (bW x lo tm) (fun b o=>qW b o 1 0 32 32) none=_
 congr 1
 funext b o
 unfold qW xV
 simp only [bD];rfl
theorem aQE:Nat.ble 1 2=true:=rfl
theorem aQF:Nat.ble 2 2=true:=rfl
theorem aQG:Nat.ble 1 3=true:=rfl
theorem aQH:Nat.ble 2 3=true:=rfl
theorem aQI:Nat.ble 3 3=true:=rfl
theorem aQJ:Nat.ble 1 4=true:=rfl
theorem aQK:Nat.ble 2 4=true:=rfl
theorem aQL:Nat.ble 3 4=true:=rfl
theorem aQM:Nat.ble 4 4=true:=rfl
theorem Sb:([]:List Value).length=0:=rfl
theorem aJD (a:Value):[a].length=1:=rfl
theorem tO (a b:Value):[a,b].length=2:=rfl
theorem aJE (a b c:Value):[a,b,c].length=3:=rfl
theorem aJF (n:Nat):Nat.beq n n=true:=Nat.beq_refl n
theorem Le {c:T Value} {o:Nat}:∀ (n:Nat) (l acc:List Value),l.length=n→(∀ j,j<n→c.get (path (o+j))=l[j]?)→cR c o n acc=some (l++acc):=by
 intro n
 induction n with
 | zero=>intro l acc hl _;have:=List.eq_nil_of_length_eq_zero hl;subst this;rfl
 | succ n ih =>
  intro l acc hl hc
  show eC (c.get (path (o+n))) (fun v=>cR c o n (v::acc)) none=_
  rw [hc n (by omega),List.getElem?_eq_getElem (by omega)]
  show cR c o n (l[n]::acc)=_
  rw [ih (l.take n) (l[n]::acc) (by simp;omega) fun j hj=>by rw [hc j (by omega),List.getElem?_take,if_pos hj]]
  congr 1
  have:l=l.take n++[l[n]]:=by
   have h1:=List.take_append_drop n l
   rw [List.drop_eq_getElem_cons (by omega),List.drop_of_length_le (by omega)] at h1
   exact h1.symm
  rw [List.append_cons]
  congr 1
  exact this.symm
theorem Dy (s n:Nat) (hn:n<eY):sure (cM s n)=n∧eU (cM s n)=true∧esz (cM s n)=s+1:=by
 have hO:0<eY:=by decide
 have e:cM s n=eY*(s+1)+n:=rfl
 have h1:eU (cM s n)=true:=by
  unfold eU
  rw [e]
  refine cX ?_
  have:eY*1≤eY*(s+1):=Nat.mul_le_mul_left _ (by omega)
  omega
 refine ⟨?_,h1,?_⟩
 · unfold sure
   rw [h1,cond_true,e]
   show (eY*(s+1)+n) % eY=n
   rw [Nat.mul_add_mod]
   exact Nat.mod_eq_of_lt hn
 · unfold esz
   rw [e]
   show (eY*(s+1)+n) / eY=s+1
   rw [Nat.mul_add_div hO,Nat.div_eq_of_lt hn]
def aQ:=A2 @Dr <| A2 @aIM <| A2 @aRK <| A2 @z_P <| A2 @z_F <| A2 @z_N <| A2 @z_R <| A2 @z_G <| A2 @aYw <| A2 @aYx <| A2 @aYy <| A2 @aYz <| A2 @aYA <| A2 @aIQ <| A2 @aIR <| A2 @aUP <| A2 @aUQ <| A2 @aRL <| A2 @aYt <| A2 @aYu <| A2 @aYv <| A2 @aUN <| A2 @aUO <| A2 @aQw <| A2 @rH <| A2 @yH <| A2 @aUL <| A2 @aIL <| A2 @aRF <| A2 @cond_true.{1} <| A2 @cond_false.{1} <| A2 @Ry <| A2 @aYr <| A2 @aYs <| A2 @Gb <| A2 @Jc <| A2 @aUM <| A2 @aIO <| A2 @zN <| A2 @aIK <| A2 @aUJ <| A2 @aIN <| A2 @tM <| A2 @aRH <| A2 @Az <| A2 @aRG <| A2 @Wl <| A2 @Wm <| A2 @Wn <| A2 @Wo <| A2 @aBq <| A2 @aRI <| A2 @aRJ <| @aOm
def dH:=A2 @yI <| A2 @aDE <| A2 @aDF <| A2 @aDG <| A2 @aIU <| A2 @z_t <| A2 @z_l <| A2 @z_v <| A2 @z_o <| A2 @aIV <| A2 @aIW <| A2 @aUR <| A2 @aUS <| A2 @aDH <| A2 @aQx <| A2 @aUT <| A2 @aUU <| A2 @aUV <| A2 @aUW <| A2 @aUX <| A2 @aUY <| A2 @Rz <| A2 @aIX <| A2 @T.aB <| A2 @aIY <| A2 @aIZ <| A2 @aDJ <| A2 @aDK <| A2 @aDL <| A2 @aI0 <| A2 @aI1 <| A2 @aI2 <| A2 @aI3 <| A2 @aQy <| A2 @aDI <| A2 @aI4 <| A2 @aQz <| A2 @aDM <| A2 @aIS <| A2 @aIT <| A2 @Wp <| A2 @aF <| A2 @dX <| A2 @Gc <| A2 @aV <| A2 @mF <| A2 @aM <| A2 @aJ <| A2 @dM <| A2 @cL <| A2 @mL <| A2 @Ds <| A2 @aDN <| A2 @uL <| A2 @Ws <| A2 @An <| A2 @aI7 <| A2 @aI8 <| A2 @aI9 <| A2 @aJa <| A2 @aJb <| A2 @aJc <| A2 @aQA <| A2 @aJd <| A2 @aDO <| A2 @Wt <| A2 @Wu <| A2 @Dt <| A2 @dQ <| A2 @cN <| A2 @cP <| A2 @m0 <| A2 @m8 <| A2 @pW <| A2 @aU1 <| A2 @aU2 <| A2 @aQB <| A2 @aDP <| A2 @aJe <| A2 @aJf <| A2 @Du <| A2 @Dv <| A2 @aDQ <| A2 @aJh <| A2 @aJi <| A2 @eS <| A2 @Kz <| A2 @Sb <| A2 @aJD <| A2 @tO <| A2 @aJE <| A2 @aJF <| A2 @aDR <| A2 @Lb <| A2 @aJj <| A2 @aJk <| A2 @aJl <| A2 @aDS <| A2 @aDT <| A2 @aJm <| A2 @aJn <| A2 @aJo <| A2 @aJp <| A2 @aDU <| A2 @aJq <| A2 @aJr <| A2 @Lc <| A2 @Pw <| A2 @Wv <| A2 @Ww <| A2 @Wy <| A2 @aQC <| A2 @aDW <| A2 @aJs <| A2 @aDX <| A2 @pX <| A2 @yL <| A2 @aQD <| A2 @aJt <| A2 @aJu <| A2 @aJv <| A2 @aJw <| A2 @aJx <| A2 @aJy <| A2 @aJz <| A2 @aJA <| A2 @aJB <| A2 @aJC <| A2 @gM <| A2 @aDY <| A2 @aQE <| A2 @aQF <| A2 @aQG <| A2 @aQH <| A2 @aQI <| A2 @aQJ <| A2 @aQK <| A2 @aQL <| @aQM
def bP:=A2 @aJg <| A2 @zO <| A2 @Sa <| A2 @aOn <| @Jd
def bQ:=A2 @Bool.not_true <| A2 @Bool.not_false <| A2 @if_true.{1} <| A2 @List.cons.injEq.{0} <| A2 @Bool.true_eq_false <| A2 @Bool.false_eq_true <| A2 @and_false <| A2 @false_and <| A2 @and_true <| A2 @true_and <| A2 @and_self <| @if_false.{1}
def A3:=A2 aQ (A2 dH (A2 bQ bP))
end cG
end Go
