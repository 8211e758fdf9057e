/-
Arithmetic of the range coder; memory that is kept, slices that are read.
Conditions: none.
-/
import Derived.Test.YtefdgihgbhbibaaGreatDoorRunA
set_option linter.unusedVariables false
set_option linter.unusedSimpArgs false
namespace Go
namespace cG
attribute [simp] T.aB
abbrev R6:List Value:=[Value.bool false,A0 0,A1 0]
abbrev M3:List Value:=[A0 0,A0 0,A0 0,A1 0,Value.slice none 0 0]
abbrev D5:List Value:=[Value.bool false,A0 0,A0 0,Value.slice none 0 0]
abbrev M7:List Value:=[A0 0,A0 0,Value.string (jM []),Value.slice none 0 0]
abbrev LB:List Value:=[A0 0,A0 0]
def eW (n:Nat) (v:Value):List Value:=List.replicate n v
theorem fO (n:Nat) (v:Value):(eW n v).length=n:=List.length_replicate
theorem yM {n k:Nat} {v:Value} (h:k<n):(eW n v)[k]?=some v:=by
 unfold eW
 rw [List.getElem?_replicate,if_pos h]
theorem dO {a b:Nat} (h:a≠b):Nat.beq a b=false:=by
 cases e:Nat.beq a b with
 | false=>rfl
 | true=>exact absurd (Nat.eq_of_beq_eq_true e) h
theorem kQ {n b:Nat} (h:b<n):jN n [] b=[b]:=by
 unfold jN;rw [bU h];rfl
theorem pY {n b:Nat} (h:n≤b) (l:List Nat):below n [b] l=l:=by
 show (bif Nat.blt b n then b::l else l)=l
 rw [cI h];rfl
theorem aBr {h:Hp} {b:Nat} {o:Option dY} (hb:h.base≤b):aS (h.put b o) h.base h.log=h.put b o:=by
 have h1:=kM (o:=o) hb
 have h2:=mF h b o
 calc aS (h.put b o) h.base h.log=aS (h.put b o) (h.put b o).base (h.put b o).log:=by rw [h1,h2]
  _=h.put b o:=uL _
structure Ho (φ:Ex→T Value→Df→Hp→Prop) (e:Ex) (tm:T Value) (df:Df) (H:Hp):Prop where
 out:φ e tm df H
@[congr] theorem aYC {R:Type} {v v':Value} {k:FuncId→List Value→List Value→R} {z:R} (h:v=v'):vFn v k z=vFn v' k z:=by rw [h]
@[congr] theorem aTT {R:Type} {v v':Value} {k:TypeId→Value→R} {kn z:R} (h:v=v'):lA v k kn z=lA v' k kn z:=by rw [h]
theorem aJG {R:Type} (g:FuncId) (a c:List Value) (k:FuncId→List Value→List Value→R) (z:R):vFn (.func (.func g) ⟨a⟩ ⟨c⟩) k z=k g a c:=rfl
theorem Xb {R:Type} (t:TypeId) (v:Value) (k:TypeId→Value→R) (kn z:R):lA (.iface t v) k kn z=k t v:=rfl
theorem Dz (f:OD) (l:List OD) (call:Call) (lo:List Value) (tm:T Value) (h:Hp):xZ f l call lo tm h=vFn (bW f lo tm) (fun g first cap=>call g (first++(Co l lo tm++cap)) h) .none:=rfl
theorem iX (i:Nat) (x:OD) (lo:List Value) (tm:T Value):dS i x lo tm=aHs (bW x lo tm) (xH i) none:=rfl
theorem nW (a b:Value):xH 0 [a,b]=some a:=rfl
theorem oD (a b:Value):xH 1 [a,b]=some b:=rfl
theorem dI (x:OD) (lo:List Value) (tm:T Value):bI x lo tm=Qu (bW x lo tm):=rfl
theorem dJ (b o:Nat):Qu (bE b o)=some (bE b o):=rfl
theorem zP (isn:Value→Option Bool) (neg:Bool) (x:OD) (lo:List Value) (tm:T Value):jT isn neg x lo tm=eC (isn (bW x lo tm)) (fun t=>some (.bool (pG neg (!t)))) none:=by
 unfold jT;simp only [rD]
theorem Ea (g:G) (x y:OD) (lo:List Value) (tm:T Value):pV g x y lo tm=jQ (bW x lo tm) (fun kd a=>jQ (bW y lo tm) (fun _ b=>g kd a b) none) none:=rfl
theorem Sc {k:IntKind} {m:Nat} (hm:iE k=m) (hh:half k=m) (h0:0<m) (a:Nat):aR k (.ofNat a)=.ofNat (a % m):=by
 show (bif Nat.blt a (half k) then Int.ofNat a else fin (iE k) (half k) (Nat.mod a (iE k)))=_
 rw [hm,hh]
 cases h:Nat.blt a m with
 | true=>rw [cond_true,Nat.mod_eq_of_lt (Nat.blt_eq.mp h)]
 | false =>
  rw [cond_false]
  unfold fin
  rw [show Nat.blt (Nat.mod a m) m=true from Nat.blt_eq.mpr (Nat.mod_lt a h0),cond_true]
  rfl
theorem aJH (a:Nat):aR .u32 (.ofNat a)=.ofNat (a % 4294967296):=Sc (m:=4294967296) rfl rfl (by decide) a
theorem nD (a:Nat):aR .u8 (.ofNat a)=.ofNat (a % 256):=Sc (m:=256) rfl rfl (by decide) a
theorem aJI (a:Nat):aR .u64 (.ofNat a)=.ofNat (a % 18446744073709551616):=Sc (m:=18446744073709551616) rfl rfl (by decide) a
theorem Eb {a:Nat} (h:a<18446744073709551616):aR .u64 (.ofNat a)=.ofNat a:=by rw [aJI,Nat.mod_eq_of_lt h]
theorem w32 {a:Nat} (h:a<4294967296):aR .u32 (.ofNat a)=.ofNat a:=by rw [aJH,Nat.mod_eq_of_lt h]
theorem w8 {a:Nat} (h:a<256):aR .u8 (.ofNat a)=.ofNat a:=by rw [nD,Nat.mod_eq_of_lt h]
theorem aOo (a k:Nat):Jt .u64 (.ofNat a) (.ofNat k)=some (.int .u64 (.ofNat (a / 2 ^ xU k 64))):=by
 show nU .u64 (aEV (.ofNat a) (xU k 64))=_
 rw [jC];rfl
theorem lD (k:IntKind) (a b:Nat):iU k (.ofNat a) (.ofNat b)=some (.int k (aR k (.ofNat (a*b)))):=by
 unfold iU
 rw [jC];rfl
theorem tP (k:IntKind) {a b:Nat} (hb:b≠0):pE k (.ofNat a) (.ofNat b)=some (.int k (aR k (.ofNat (a / b)))):=by
 show (bif Pb (.ofNat b) 0 then none else nU k (aR k (aHu (.ofNat a) (.ofNat b))))=_
 rw [show Pb (.ofNat b) 0=Nat.beq b 0 from rfl,dO hb,cond_false,jC];rfl
theorem lN (k:IntKind) {a b:Nat} (hb:b≠0):iZ k (.ofNat a) (.ofNat b)=some (.int k (.ofNat (a % b))):=La _ _ _ (dO hb)
theorem jI (k:IntKind) {a b:Nat} (h:b≤a):gP k (.ofNat a) (.ofNat b)=some (.int k (aR k (.ofNat (a - b)))):=by
 rw [aUZ]
 have e:(Int.ofNat a - Int.ofNat b:Int)=Int.ofNat (a - b):=by
  show (a:Int) - (b:Int)=((a - b:Nat):Int)
  omega
 rw [e]
structure Wf (h:Hp):Prop where
 dead:∀ b,h.next≤b→h.at b=none
 base:h.base≤h.next
theorem Wf.lt {h:Hp} (hw:Wf h) {b:Nat} {o:dY} (hb:h.at b=some o):b<h.next:=by
 rcases Nat.lt_or_ge b h.next with h1|h1
 · exact h1
 · rw [hw.dead b h1] at hb;cases hb
theorem Wf.new {h:Hp} (hw:Wf h) (o:dY):Wf (h.new o):=⟨fun b hb=>by
 rw [aF] at hb
 rw [aM,if_neg (by omega)]
 exact hw.dead b (by omega),by rw [dX,aF];have:=hw.base;omega⟩
theorem Wf.put {h:Hp} (hw:Wf h) {b:Nat} (hb:b<h.next) (o:Option dY):Wf (h.put b o):=⟨fun c hc=>by
 rw [aV] at hc
 rw [aJ,if_neg (by omega)]
 exact hw.dead c hc,by rw [mF,aV];exact hw.base⟩
theorem Wf.sb {h:Hp} (hw:Wf h) (l:List Nat):Wf (aS h h.next l):=⟨hw.dead,Nat.le_refl _⟩
theorem Wf.Iq {h:Hp} (hw:Wf h) {n:Nat} (hn:n≤h.next) (l:List Nat):Wf (aS h n l):=⟨hw.dead,hn⟩
structure Fr (P:Nat→Prop) (h H:Hp):Prop where
 base:H.base=h.base
 log:H.log=h.log
 next:h.next≤H.next
 at_:∀ b,b<h.next→¬ P b→H.at b=h.at b
theorem Fr.refl (P:Nat→Prop) (h:Hp):Fr P h h:=⟨rfl,rfl,Nat.le_refl _,fun _ _ _=>rfl⟩
theorem Fr.trans {P Q:Nat→Prop} {a b c:Hp} (x:Fr P a b) (y:Fr Q b c) (hq:∀ k,k<a.next→Q k→P k):Fr P a c :=
 ⟨y.base.trans x.base,y.log.trans x.log,Nat.le_trans x.next y.next,fun k hk hp=>(y.at_ k (Nat.lt_of_lt_of_le hk x.next) fun h=>hp (hq k hk h)).trans (x.at_ k hk hp)⟩
theorem Fr.mono {P Q:Nat→Prop} {a b:Hp} (x:Fr P a b) (h:∀ k,k<a.next→P k→Q k):Fr Q a b:=⟨x.base,x.log,x.next,fun k hk hq=>x.at_ k hk fun hp=>hq (h k hk hp)⟩
theorem Fr.new {P:Nat→Prop} {h:Hp} (o:dY):Fr P h (h.new o):=⟨rfl,rfl,by rw [aF];omega,fun b hb _=>by rw [aM,if_neg (by omega)]⟩
theorem Fr.put {P:Nat→Prop} {h:Hp} {b:Nat} (o:Option dY) (hp:P b) (hb:h.base≤b):Fr P h (h.put b o):=⟨rfl,kM hb,Nat.le_refl _,fun c _ hc=>by rw [aJ,if_neg (fun e=>hc (by rw [← e];exact hp))]⟩
theorem Fr.dE {P:Nat→Prop} {a b:Hp} (x:Fr P a b) (o:dY):Fr P a (b.new o):=x.trans (Fr.new (P:=fun _=>False) o) fun _ _ h=>h.elim
theorem Fr.cJ {P:Nat→Prop} {a b:Hp} (x:Fr P a b) {c:Nat} (o:Option dY) (hp:c<a.next→P c) (hb:a.base≤c):Fr P a (b.put c o) :=
 x.trans (Fr.put (P:=fun k=>k=c) o rfl (by rw [x.base];exact hb)) fun k hk e=>by subst e;exact hp hk
theorem dV {c:T Value} {o:Nat} {vs:List Value} (h:∀ k,k<vs.length→c.get (path (o+k))=vs[k]?):cR c o vs.length []=some vs:=by
 have:=Le vs.length vs [] rfl h
 rw [List.append_nil] at this
 exact this
def Has (h:Hp) (b o:Nat) (vs:List Value):Prop:=∃ c m e cl ro,h.at b=some (.row c m e cl ro)∧o+vs.length≤m∧∀ k,k<vs.length→c.get (path (o+k))=vs[k]?
theorem Has.cells {h:Hp} {b o:Nat} {vs:List Value} (hb:Has h b o vs) {n:Nat} (hn:n=vs.length):cellsOf h b o n=some vs:=by
 subst hn
 obtain ⟨c,m,e,cl,ro,hat,hm,hc⟩:=hb
 show eC (h.at b) (fun ob=>kR ob o vs.length) none=_
 rw [hat]
 show (bif Nat.ble (o+vs.length) m then cR c o vs.length [] else none)=_
 rw [cX hm,cond_true,dV hc]
theorem Has.bT {h H:Hp} {b o:Nat} {vs:List Value} (hb:Has h b o vs) (e:H.at b=h.at b):Has H b o vs:=by
 obtain ⟨c,m,e',cl,ro,hat,h2⟩:=hb
 exact ⟨c,m,e',cl,ro,by rw [e];exact hat,h2⟩
theorem Has.lt {h:Hp} {b o:Nat} {vs:List Value} (hb:Has h b o vs) (hw:Wf h):b<h.next:=by
 obtain ⟨c,m,e',cl,ro,hat,_⟩:=hb
 exact hw.lt hat
theorem Has.drop {h:Hp} {b o:Nat} {vs:List Value} (hb:Has h b o vs) {k:Nat} (hk:k≤vs.length):Has h b (o+k) (vs.drop k):=by
 obtain ⟨c,m,e',cl,ro,hat,h2,h3⟩:=hb
 refine ⟨c,m,e',cl,ro,hat,by rw [List.length_drop];omega,fun j hj=>?_⟩
 rw [List.length_drop] at hj
 rw [Nat.add_assoc,h3 _ (by omega),List.getElem?_drop]
theorem Has.take {h:Hp} {b o:Nat} {vs:List Value} (hb:Has h b o vs) (k:Nat):Has h b o (vs.take k):=by
 obtain ⟨c,m,e',cl,ro,hat,h2,h3⟩:=hb
 refine ⟨c,m,e',cl,ro,hat,by rw [List.length_take];omega,fun j hj=>?_⟩
 rw [List.length_take] at hj
 rw [h3 _ (by omega),List.getElem?_take,if_pos (by omega)]
theorem fS {h:Hp} {b:Nat} {vs:List Value} {n:Nat} {e:TypeId} {cl:Bool} (hat:h.at b=some (aT vs n e cl)) (hn:vs.length≤n):Has h b 0 vs :=
 ⟨_,_,_,_,_,hat,by omega,fun k hk=>by rw [bM,if_pos ⟨by omega,by omega⟩];congr 1;omega⟩
theorem Has.get {h:Hp} {b o:Nat} {vs:List Value} (hb:Has h b o vs) {k:Nat} {v:Value} (hk:vs[k]?=some v):∃ c m e cl ro,h.at b=some (.row c m e cl ro)∧o+k<m∧c.get (path (o+k))=some v:=by
 obtain ⟨c,m,e',cl,ro,hat,h2,h3⟩:=hb
 have hl:=(List.getElem?_eq_some_iff.1 hk).1
 exact ⟨c,m,e',cl,ro,hat,by omega,by rw [h3 _ hl];exact hk⟩
noncomputable def dR (l:List Nat):List Value:=l.map fun x=>A1 x
theorem eZ (l:List Nat):(dR l).length=l.length:=by simp [dR]
theorem iH {l:List Nat} {k x:Nat} (h:l[k]?=some x):(dR l)[k]?=some (A1 x):=by simp [dR,h]
theorem lO (a b:List Nat):dR (a++b)=dR a++dR b:=by simp [dR]
theorem jJ (l:List Nat):bY (dR l)=true:=by
 induction l with
 | nil=>rfl
 | cons x l ih=>exact ih
theorem Ec (l:List Nat) (k:Nat):(dR l).take k=dR (l.take k):=by simp [dR]
theorem Sd (l:List Nat) (k:Nat):(dR l).drop k=dR (l.drop k):=by simp [dR]
def Sl (s:Nat) (h:Hp) (v:Value) (n:Nat) (vs:List Value):Prop:=vs.length=n*s∧((n=0∧(v=.slice none 0 0∨∃ b o c,v=cB b o 0 c))∨∃ b o c,v=cB b o n c∧0<n∧Has h b o vs)
theorem Sl.len {s:Nat} {h:Hp} {v:Value} {n:Nat} {vs:List Value} (ho:Sl s h v n vs):rW v (fun _ _ l _=>some (A0 l)) (fun l _=>some (A0 l)) none=some (A0 n):=by
 obtain ⟨_,⟨rfl,rfl|⟨b,o,c,rfl⟩⟩|⟨b,o,c,rfl,_⟩⟩:=ho<;>rfl
theorem Sl.pos {s:Nat} {h:Hp} {v:Value} {n:Nat} {vs:List Value} (ho:Sl s h v n vs) (hn:0<n):∃ b o c,v=cB b o n c∧Has h b o vs:=by
 obtain ⟨_,⟨rfl,_⟩|⟨b,o,c,rfl,_,h1⟩⟩:=ho
 · omega
 · exact ⟨b,o,c,rfl,h1⟩
def gY (v:Value) (c:Nat):Prop:=∃ o l k,v=cB c o l k
theorem fB {b o l k c:Nat}:gY (cB b o l k) c→c=b:=fun ⟨_,_,_,h⟩=>by cases h;rfl
theorem aDZ {c:Nat}:¬ gY (.slice none 0 0) c:=fun ⟨_,_,_,h⟩=>by cases h
theorem Sl.bT {s:Nat} {h H:Hp} {v:Value} {n:Nat} {vs:List Value} (ho:Sl s h v n vs) (e:∀ c,0<n→gY v c→H.at c=h.at c):Sl s H v n vs:=by
 obtain ⟨hl,h1|⟨b,o,c,rfl,h0,h1⟩⟩:=ho
 · exact ⟨hl,.inl h1⟩
 · exact ⟨hl,.inr ⟨b,o,c,rfl,h0,h1.bT (e b h0 ⟨o,n,c,rfl⟩)⟩⟩
theorem Sl.lt {s:Nat} {h:Hp} {v:Value} {n:Nat} {vs:List Value} (ho:Sl s h v n vs) (hw:Wf h) (hn:0<n) {c:Nat} (hc:gY v c):c<h.next:=by
 obtain ⟨b,o,k,rfl,h1⟩:=ho.pos hn
 have:=fB hc
 subst this
 exact h1.lt hw
def vN (e:TypeId) (h:Hp) (b:Nat) (vs:List Value):Prop:=∃ c,h.at b=some (.row c vs.length e false false)∧∀ k,k<vs.length→c.get (path k)=vs[k]?
theorem vN.has {e:TypeId} {h:Hp} {b:Nat} {vs:List Value} (ho:vN e h b vs):Has h b 0 vs:=by
 obtain ⟨c,h1,h2⟩:=ho
 exact ⟨c,_,_,_,_,h1,by omega,fun k hk=>by rw [Nat.zero_add];exact h2 k hk⟩
theorem vN.bT {e:TypeId} {h H:Hp} {b:Nat} {vs:List Value} (ho:vN e h b vs) (he:H.at b=h.at b):vN e H b vs:=by
 obtain ⟨c,h1,h2⟩:=ho
 exact ⟨c,by rw [he];exact h1,h2⟩
theorem vN.lt {e:TypeId} {h:Hp} {b:Nat} {vs:List Value} (ho:vN e h b vs) (hw:Wf h):b<h.next:=by
 obtain ⟨c,h1,h2⟩:=ho
 exact hw.lt h1
theorem nE {e:TypeId} {h:Hp} {vs:List Value} {b:Nat} (hb:b=h.next):vN e (h.new (aT vs vs.length e false)) b vs:=by
 refine ⟨_,by rw [aM,if_pos hb.symm];rfl,fun k hk=>?_⟩
 rw [bM,if_pos ⟨Nat.zero_le _,by omega⟩,Nat.sub_zero]
def Out (e:TypeId) (s:Nat) (P:Nat→Prop) (h:Hp) (v:Value) (n:Nat) (vs:List Value):Prop :=
 vs.length=n*s∧bY vs=true∧((n=0∧((∃ b,v=cB b 0 0 0)∨v=.slice none 0 0))∨∃ b,v=cB b 0 n (cM s n)∧0<n∧vN e h b vs∧P b)
theorem Out.nil {e:TypeId} {s:Nat} {P:Nat→Prop} {h:Hp}:Out e s P h (.slice none 0 0) 0 []:=⟨by simp,rfl,.inl ⟨rfl,.inr rfl⟩⟩
theorem Out.sl {e:TypeId} {s:Nat} {P:Nat→Prop} {h:Hp} {v:Value} {n:Nat} {vs:List Value} (ho:Out e s P h v n vs):Sl s h v n vs:=by
 obtain ⟨hl,_,⟨rfl,⟨b,rfl⟩|rfl⟩|⟨b,rfl,h1,h2,_⟩⟩:=ho
 · exact ⟨hl,.inl ⟨rfl,.inr ⟨b,0,0,rfl⟩⟩⟩
 · exact ⟨hl,.inl ⟨rfl,.inl rfl⟩⟩
 · exact ⟨hl,.inr ⟨b,0,_,rfl,h1,h2.has⟩⟩
theorem Out.bT {e:TypeId} {s:Nat} {P:Nat→Prop} {h H:Hp} {v:Value} {n:Nat} {vs:List Value} (ho:Out e s P h v n vs) (he:∀ c,P c→gY v c→H.at c=h.at c):Out e s P H v n vs:=by
 obtain ⟨hl,h1,h2|⟨b,rfl,h3,h4,h5⟩⟩:=ho
 · exact ⟨hl,h1,.inl h2⟩
 · exact ⟨hl,h1,.inr ⟨b,rfl,h3,h4.bT (he b h5 ⟨0,n,_,rfl⟩),h5⟩⟩
theorem Out.mono {e:TypeId} {s:Nat} {P Q:Nat→Prop} {h:Hp} {v:Value} {n:Nat} {vs:List Value} (ho:Out e s P h v n vs) (hp:∀ c,P c→Q c):Out e s Q h v n vs:=by
 obtain ⟨hl,h1,h2|⟨b,rfl,h3,h4,h5⟩⟩:=ho
 · exact ⟨hl,h1,.inl h2⟩
 · exact ⟨hl,h1,.inr ⟨b,rfl,h3,h4,hp b h5⟩⟩
theorem Out.fE {e:TypeId} {s:Nat} {P:Nat→Prop} {h:Hp} {v:Value} {n:Nat} {vs:List Value} (ho:Out e s P h v n vs) (hn:0<n) {c:Nat} (hc:gY v c):P c:=by
 obtain ⟨hl,h1,⟨rfl,_⟩|⟨b,rfl,h3,h4,h5⟩⟩:=ho
 · omega
 · have:=fB hc
   subst this;exact h5
noncomputable def mQ (e:TypeId) (s:Nat) (x y:Value) (h:Hp):fV:=Ut h s y (fun n new=>rW x (oM e s h n new) (tH e s h n new) .none) .none
theorem gE (e:TypeId) (s:Nat) (x y:OD) (call:Call) (lo:List Value) (tm:T Value) (h:Hp):iN e s x y call lo tm h=mQ e s (bW x lo tm) (bW y lo tm) h:=rfl
theorem Lf {R:Type} (h:Hp) (s b o l c:Nat) (k:Nat→List Value→R) (z:R):Ut h s (cB b o l c) k z=bif Nat.beq l 0 then k 0 [] else eC (cellsOf h b o (l*s)) (k l) z:=rfl
theorem Se {R:Type} (h:Hp) (b:Nat) (k:T Value→Nat→TypeId→Bool→Bool→R) (z:R):pU h b k z=eC (h.at b) (fun ob=>tF ob k z) z:=rfl
theorem Je (e:TypeId) (s:Nat) (l:List Value) (n:Nat) (H:Hp):opened e s l n H=.val (cB H.next 0 n (cM s n)) (H.new (aT l l.length e false)):=by
 unfold opened
 rw [eG,bD,eF]
 rfl
theorem Ba {new:List Value} (hone:bY new=true):∀ l:List Value,bY l=true→bY (l++new)=true:=by
 intro l
 induction l with
 | nil=>intro _;exact hone
 | cons a l ih =>
  intro hl
  show (bif xT a then false else bY (l++new))=true
  have hl':(bif xT a then false else bY l)=true:=hl
  cases ha:xT a with
  | true=>rw [ha] at hl';cases hl'
  | false=>rw [ha,cond_false] at hl';rw [cond_false];exact ih hl'
theorem zQ {e:TypeId} {s:Nat} {h:Hp} {yb yo yc n:Nat} {x:Value} {new:List Value} (hx:(∃ b,x=cB b 0 0 0)∨x=.slice none 0 0) (h0:0<n) (h1:n≤100000) (hc:cellsOf h yb yo (n*s)=some new) :
 mQ e s x (cB yb yo n yc) h=.val (cB h.next 0 n (cM s n)) (h.new (aT new new.length e false)):=by
 have hb:Nat.beq n 0=false:=dO (by omega)
 unfold mQ
 rw [Lf,hb,cond_false,hc]
 show rW x (oM e s h n new) (tH e s h n new) .none=_
 rcases hx with ⟨b,rfl⟩|rfl
 · rw [yH]
   unfold oM
   rw [bD,show Nat.add 0 n=n from Nat.zero_add n,show sure 0=0 from rfl,eN h0,cond_false,cX (by omega:n≤16777216),cond_true]
   exact Je e s new n h
 · rw [aIL]
   unfold tH
   rw [hb,cond_false,cX (by omega:n≤16777216),cond_true]
   exact Je e s new n h
theorem Ed {e:TypeId} {s:Nat} {h:Hp} {b yb yo yc n m:Nat} {vs new:List Value} (h0:0<m) (h1:n+m≤100000) (hl:0<n) (hvs:vs.length=n*s) (hone:bY new=true) (hc:cellsOf h yb yo (m*s)=some new) (ho:vN e h b vs) :
 mQ e s (cB b 0 n (cM s n)) (cB yb yo m yc) h=.val (cB h.next 0 (n+m) (cM s (n+m))) ((h.put b none).new (aT (vs++new) (vs++new).length e false)):=by
 have hb:Nat.beq m 0=false:=dO (by omega)
 have hb0:Nat.beq n 0=false:=dO (by omega)
 have hold:cellsOf h b 0 (n*s)=some vs:=ho.has.cells hvs.symm
 obtain ⟨c,hat,_⟩:=ho
 obtain ⟨s1,s2,s3⟩:=Dy s n (by unfold eY;omega)
 revert s1 s2 s3
 have hO:=Je e s (vs++new) (n+m) (h.put b none)
 revert hO
 generalize cM s (n+m)=k2
 generalize cM s n=k1
 intro hO s1 s2 s3
 unfold mQ
 rw [Lf,hb,cond_false,hc]
 show rW (cB b 0 n k1) (oM e s h m new) (tH e s h m new) .none=_
 rw [yH]
 unfold oM
 rw [bD]
 rw [show Nat.add n m=n+m from rfl,s1,eN (by omega),cond_false,cX (by omega),cond_true,hb0,cond_false,show Nat.mul n s=n*s from rfl,hold,rH,s2,cond_true,Se,hat,rH,Az,cond_false,s3,hone,Nat.beq_refl e,show Nat.beq (s+1) (Nat.succ s)=true from Nat.beq_refl _,Bool.and_true,Bool.and_true,cond_true,Hp.qD]
 exact hO
theorem vO {e:TypeId} {s:Nat} {P:Nat→Prop} {h:Hp} {x y:Value} {n m:Nat} {vs new:List Value} (hw:Wf h) (ho:Out e s P h x n vs) (hy:Sl s h y m new) (hone:bY new=true) (hm:0<m) (hnm:n+m≤100000) (hP:∀ b,P b→h.base≤b) (hPn:P h.next) :
 ∃ v' H,mQ e s x y h=.val v' H∧Out e s P H v' (n+m) (vs++new)∧Wf H∧H.next=h.next+1∧Fr (fun c=>0<n∧gY x c) h H∧(∃ k,v'=cB h.next 0 (n+m) k):=by
 obtain ⟨yb,yo,yc,rfl,hhas⟩:=hy.pos hm
 have hln:=hy.1
 have hc:=hhas.cells hln.symm
 have hlen:(vs++new).length=(n+m)*s:=by rw [List.length_append,ho.1,hln,Nat.add_mul]
 have hall:bY (vs++new)=true:=Ba hone vs ho.2.1
 obtain ⟨hl,h1,⟨hn,hx⟩|⟨b,rfl,hn0,hown,hPb⟩⟩:=ho
 · have hv:vs=[]:=List.eq_nil_of_length_eq_zero (by rw [hl,hn,Nat.zero_mul])
   have e1:=zQ (e:=e) (yc:=yc) hx hm (by omega) hc
   have en:n+m=m:=by omega
   rw [en,hv,List.nil_append]
   rw [en,hv,List.nil_append] at hlen
   refine ⟨_,_,e1,⟨hlen,hone,.inr ⟨_,rfl,hm,?_,hPn⟩⟩,hw.new _,rfl,Fr.new _,⟨_,rfl⟩⟩
   exact nE rfl
 · have hlt:b<h.next:=hown.lt hw
   refine ⟨_,_,Ed (yc:=yc) hm hnm hn0 hl hone hc hown,⟨hlen,hall,.inr ⟨_,rfl,by omega,?_,hPn⟩⟩,(hw.put hlt _).new _,rfl,?_,⟨_,rfl⟩⟩
   · exact nE rfl
   · exact ((Fr.refl _ _).cJ none (fun _=>⟨hn0,_,_,_,rfl⟩) (hP b hPb)).dE _
namespace Rc
def gO (t:List Nat) (c:Nat):Nat:=1+32*t.count c
def iW (t:List Nat):Nat:=256+32*t.length
def jK (t:List Nat) (c:Nat):Nat:=c+32*t.countP fun x=>decide (x<c)
theorem Lk (t:List Nat):jK t 0=0:=by
 unfold jK
 have:(t.countP fun x=>decide (x<0))=0:=by
  rw [List.countP_eq_zero]
  intro x _
  simp
 omega
theorem rI (t:List Nat) (c:Nat):jK t (c+1)=jK t c+gO t c:=by
 unfold jK gO
 have:(t.countP fun x=>decide (x<c+1))=(t.countP fun x=>decide (x<c))+t.count c:=by
  induction t with
  | nil=>rfl
  | cons x t ih =>
   rw [List.countP_cons,List.countP_cons,List.count_cons,ih]
   by_cases h1:x<c
   · rw [if_pos (by simp;omega),if_pos (by simp;omega),if_neg (by simp;omega)];omega
   · by_cases h2:x=c
     · rw [if_pos (by simp;omega),if_neg (by simp;omega),if_pos (by simp;omega)];omega
     · rw [if_neg (by simp;omega),if_neg (by simp;omega),if_neg (by simp;omega)];omega
 omega
theorem aOp {t:List Nat} (h:∀ x∈t,x<256):jK t 256=iW t:=by
 unfold jK iW
 have:(t.countP fun x=>decide (x<256))=t.length:=by
  rw [List.countP_eq_length]
  intro x hx
  simpa using h x hx
 omega
theorem Xe (t:List Nat) {a b:Nat} (h:a≤b):jK t a≤jK t b:=by
 induction b with
 | zero=>have:a=0:=by omega
         subst this;exact Nat.le_refl _
 | succ b ih =>
  rcases Nat.lt_or_ge a (b+1) with h1|h1
  · have:=ih (by omega)
    rw [rI];omega
  · have:a=b+1:=by omega
    subst this;exact Nat.le_refl _
theorem aOq (t:List Nat) (c:Nat):0<gO t c:=by unfold gO;omega
theorem Jg (t:List Nat):0<iW t:=by unfold iW;omega
structure En where
 N:Nat
 j:Nat
 s:Nat
def norm:Nat→En→En
 | 0,e=>e
 | n+1,e=>if e.s<16777216 then norm n ⟨e.N*256,e.j+1,e.s*256⟩ else e
def sB (t:List Nat) (e:En) (c:Nat):En:=⟨e.N+e.s / iW t*jK t c,e.j,e.s / iW t*gO t c⟩
def step (t:List Nat) (e:En) (c:Nat):En:=norm 4 (sB t e c)
structure Ok (e:En):Prop where
 lo:16777216≤e.s
 hi:e.s<4294967296
 top:e.N+e.s≤4294967296*256 ^ e.j
def In (e f:En):Prop:=∃ d,f.j=e.j+d∧e.N*256 ^ d≤f.N∧f.N+f.s≤(e.N+e.s)*256 ^ d
theorem In.refl (e:En):In e e:=⟨0,rfl,by simp,by simp⟩
theorem In.trans {e f g:En} (h:In e f) (k:In f g):In e g:=by
 obtain ⟨d,h1,h2,h3⟩:=h
 obtain ⟨d',k1,k2,k3⟩:=k
 refine ⟨d+d',by omega,?_,?_⟩
 · calc e.N*256 ^ (d+d')=e.N*256 ^ d*256 ^ d':=by rw [Nat.pow_add,Nat.mul_assoc]
    _≤f.N*256 ^ d':=Nat.mul_le_mul_right _ h2
    _≤g.N:=k2
 · calc g.N+g.s≤(f.N+f.s)*256 ^ d':=k3
    _≤(e.N+e.s)*256 ^ d*256 ^ d':=Nat.mul_le_mul_right _ h3
    _=(e.N+e.s)*256 ^ (d+d'):=by rw [Nat.pow_add,Nat.mul_assoc]
theorem In.j {e f:En} (h:In e f):e.j≤f.j:=by obtain ⟨d,h1,_⟩:=h;omega
theorem Sh:∀ (n:Nat) (e:En),In e (norm n e):=by
 intro n
 induction n with
 | zero=>intro e;exact In.refl e
 | succ n ih =>
  intro e
  show In e (if e.s<16777216 then norm n ⟨e.N*256,e.j+1,e.s*256⟩ else e)
  split
  · exact In.trans ⟨1,rfl,by simp,by simp [Nat.add_mul]⟩ (ih _)
  · exact In.refl e
theorem aOr:∀ (n:Nat) (e:En),16777216≤e.s*256 ^ n→e.s<4294967296→e.N+e.s≤4294967296*256 ^ e.j→Ok (norm n e):=by
 intro n
 induction n with
 | zero=>intro e h1 h2 h3;rw [Nat.pow_zero,Nat.mul_one] at h1;exact ⟨h1,h2,h3⟩
 | succ n ih =>
  intro e h1 h2 h3
  show Ok (if e.s<16777216 then norm n ⟨e.N*256,e.j+1,e.s*256⟩ else e)
  split
  · rename_i h4
    refine ih _ ?_ ?_ ?_
    · show 16777216≤e.s*256*256 ^ n
      rw [Nat.mul_assoc,← Nat.pow_succ'];exact h1
    · show e.s*256<4294967296
      omega
    · show e.N*256+e.s*256≤4294967296*256 ^ (e.j+1)
      rw [← Nat.add_mul,Nat.pow_succ,← Nat.mul_assoc]
      exact Nat.mul_le_mul_right _ h3
  · exact ⟨by omega,h2,h3⟩
theorem aU8 {t:List Nat} {e:En} (he:Ok e) (ht:iW t≤65536):0<e.s / iW t:=by
 have:=he.lo
 exact Nat.div_pos (by omega) (Jg t)
theorem zR {t:List Nat} {e:En} {c:Nat} (hb:∀ x∈t,x<256) (hc:c<256):e.s / iW t*jK t c+e.s / iW t*gO t c≤e.s:=by
 rw [← Nat.mul_add,← rI]
 have h1:=Xe t (show c+1≤256 by omega)
 rw [aOp hb] at h1
 exact Nat.le_trans (Nat.mul_le_mul_left _ h1) (Nat.div_mul_le_self _ _)
theorem aRQ {t:List Nat} {e:En} {c:Nat} (hb:∀ x∈t,x<256) (hc:c<256):In e (sB t e c):=by
 have:=zR (e:=e) hb hc
 refine ⟨0,rfl,?_,?_⟩
 · rw [Nat.pow_zero,Nat.mul_one];exact Nat.le_add_right _ _
 · rw [Nat.pow_zero,Nat.mul_one]
   show e.N+e.s / iW t*jK t c+e.s / iW t*gO t c≤e.N+e.s
   omega
theorem aD0 {t:List Nat} {e:En} {c:Nat} (he:Ok e) (ht:iW t≤65536) (hb:∀ x∈t,x<256) (hc:c<256):0<(sB t e c).s∧(sB t e c).s<4294967296:=by
 have h1:=zR (e:=e) hb hc
 have h2:=he.hi
 have h3:=Nat.mul_pos (aU8 he ht) (aOq t c)
 show 0<e.s / iW t*gO t c∧e.s / iW t*gO t c<4294967296
 omega
theorem aOs {t:List Nat} {e:En} {c:Nat} (he:Ok e) (ht:iW t≤65536) (hb:∀ x∈t,x<256) (hc:c<256):Ok (step t e c):=by
 obtain ⟨h1,h2⟩:=aD0 he ht hb hc
 have h3:=zR (e:=e) hb hc
 have h4:=he.top
 refine aOr 4 _ ?_ h2 ?_
 · have:(256:Nat) ^ 4=4294967296:=by decide
   rw [this];omega
 · show e.N+e.s / iW t*jK t c+e.s / iW t*gO t c≤4294967296*256 ^ e.j
   omega
theorem aOt {t:List Nat} {e:En} {c:Nat} (hb:∀ x∈t,x<256) (hc:c<256):In e (step t e c):=(aRQ hb hc).trans (Sh 4 _)
def run (h:List Nat→List Nat):List Nat→List Nat→En→En
 | _,[],e=>e
 | w,c::r,e=>run h (w++[c]) r (step (h w) e c)
def start:En:=⟨0,0,4294967295⟩
theorem aJJ:Ok start:=⟨by decide,by decide,by decide⟩
structure Good (h:List Nat→List Nat):Prop where
 len:∀ w,(h w).length≤w.length
 byte:∀ w,(∀ x∈w,x<256)→∀ x∈h w,x<256
theorem Good.iW {h:List Nat→List Nat} (hg:Good h) {w:List Nat} (hw:w.length≤2000):iW (h w)≤65536:=by
 have:=hg.len w
 unfold Rc.iW
 omega
theorem aJK {h:List Nat→List Nat} (hg:Good h):∀ (r w:List Nat) (e:En),Ok e→(∀ x∈w,x<256)→(∀ x∈r,x<256)→w.length+r.length≤2000→Ok (run h w r e)∧In e (run h w r e):=by
 intro r
 induction r with
 | nil=>intro w e he _ _ _;exact ⟨he,In.refl e⟩
 | cons c r ih =>
  intro w e he hw hr hl
  have hc:=hr c (by simp)
  have hl':w.length+(r.length+1)≤2000:=by simpa using hl
  have hb:=hg.byte w hw
  have hw':∀ x∈w++[c],x<256:=fun x hx=>by
   rcases List.mem_append.1 hx with h|h
   · exact hw x h
   · rw [List.mem_singleton] at h;omega
  obtain ⟨h1,h2⟩:=ih (w++[c]) (step (h w) e c) (aOs he (hg.iW (by omega)) hb hc) hw' (fun x hx=>hr x (by simp [hx])) (by simp;omega)
  exact ⟨h1,(aOt hb hc).trans h2⟩
def Bd (V J j:Nat):Nat:=V / 256 ^ (J - j)
theorem aJL {e f:En} (h:In e f) (hs:0<f.s):e.N≤Bd f.N f.j e.j∧Bd f.N f.j e.j<e.N+e.s:=by
 obtain ⟨d,h1,h2,h3⟩:=h
 have hd:f.j - e.j=d:=by omega
 unfold Bd
 rw [hd]
 have hp:0<256 ^ d:=Nat.pow_pos (by decide)
 exact ⟨(Nat.le_div_iff_mul_le hp).2 h2,(Nat.div_lt_iff_lt_mul hp).2 (by omega)⟩
theorem aJM {V J j:Nat} (h:j<J):Bd V J (j+1)=Bd V J j*256+V / 256 ^ (J - j - 1) % 256:=by
 unfold Bd
 have e:J - j=(J - j - 1)+1:=by omega
 have e2:J - (j+1)=J - j - 1:=by omega
 rw [e2]
 conv=>rhs;rw [e,Nat.pow_succ,← Nat.div_div_eq_div_mul]
 have e3:J - j - 1+1 - 1=J - j - 1:=by omega
 rw [e3]
 omega
theorem found {t:List Nat} {e f:En} {c:Nat} (hm:In (sB t e c) f) (hs:0<f.s):e.s / iW t*jK t c≤Bd f.N f.j e.j - e.N∧Bd f.N f.j e.j - e.N<e.s / iW t*jK t (c+1)∧Bd f.N f.j e.j - e.N - e.s / iW t*jK t c<(sB t e c).s:=by
 have h:=aJL hm hs
 have h1:e.N+e.s / iW t*jK t c≤Bd f.N f.j e.j:=h.1
 have h2:Bd f.N f.j e.j<e.N+e.s / iW t*jK t c+e.s / iW t*gO t c:=h.2
 rw [rI,Nat.mul_add]
 refine ⟨by omega,by omega,?_⟩
 show _<e.s / iW t*gO t c
 omega
def pZ (j n:Nat):List Nat:=(List.range j).map fun i=>n / 256 ^ (j - 1 - i) % 256
theorem iK (j n:Nat):(pZ j n).length=j:=by simp [pZ]
theorem Si {j n i:Nat} (h:i<j):(pZ j n)[i]?=some (n / 256 ^ (j - 1 - i) % 256):=by
 unfold pZ
 rw [List.getElem?_map,List.getElem?_range h];rfl
theorem aJN (j n:Nat):∀ x∈pZ j n,x<256:=by
 intro x hx
 obtain ⟨i,_,rfl⟩:=List.mem_map.1 hx
 exact Nat.mod_lt _ (by decide)
theorem rJ (j n:Nat):pZ (j+1) n=pZ j (n / 256)++[n % 256]:=by
 apply List.ext_getElem?
 intro i
 by_cases h:i<j+1
 · rw [Si h]
   by_cases h2:i<j
   · rw [List.getElem?_append_left (by rw [iK];exact h2),Si h2]
     have e:j+1 - 1 - i=(j - 1 - i)+1:=by omega
     rw [e,Nat.pow_succ',← Nat.div_div_eq_div_mul]
   · have:i=j:=by omega
     subst this
     rw [List.getElem?_append_right (by rw [iK];omega),iK,Nat.sub_self]
     simp
 · rw [List.getElem?_eq_none (by rw [iK];omega),List.getElem?_eq_none (by rw [List.length_append,iK];simp;omega)]
end Rc
namespace Rc
theorem aJO (h:List Nat→List Nat) (c:Nat):∀ (r w:List Nat) (e:En),run h w (r++[c]) e=step (h (w++r)) (run h w r e) c:=by
 intro r
 induction r with
 | nil=>intro w e;show step (h w) e c=_;rw [List.append_nil];rfl
 | cons x r ih =>
  intro w e
  show run h (w++[x]) (r++[c]) (step (h w) e x)=_
  rw [ih,List.append_assoc];rfl
theorem Iy (h:List Nat→List Nat):∀ (a b w:List Nat) (e:En),run h w (a++b) e=run h (w++a) b (run h w a e):=by
 intro a
 induction a with
 | nil=>intro b w e;rw [List.append_nil];rfl
 | cons x a ih =>
  intro b w e
  show run h (w++[x]) (a++b) (step (h w) e x)=_
  rw [ih,List.append_assoc];rfl
def st (h:List Nat→List Nat) (w:List Nat):En:=run h [] w start
theorem Eg (h:List Nat→List Nat) (w:List Nat) (c:Nat):st h (w++[c])=step (h w) (st h w) c:=by
 unfold st
 rw [aJO,List.nil_append]
section
variable {h:List Nat→List Nat}
theorem Ll (hg:Good h) {w:List Nat} (hw:∀ x∈w,x<256) (hl:w.length≤2000):Ok (st h w) :=
 (aJK hg w [] start aJJ (fun x hx=>by simp at hx) hw (by simpa using hl)).1
theorem aQO (hg:Good h) {w r:List Nat} (hw:∀ x∈w++r,x<256) (hl:(w++r).length≤2000):In (st h w) (st h (w++r)):=by
 have hw1:∀ x∈w,x<256:=fun x hx=>hw x (by simp [hx])
 have e:st h (w++r)=run h w r (st h w):=by
  unfold st
  rw [Iy,List.nil_append]
 rw [e]
 rw [List.length_append] at hl
 exact (aJK hg r w (st h w) (Ll hg hw1 (by omega)) hw1 (fun x hx=>hw x (by simp [hx])) hl).2
end
def eD (l:List Nat):List Nat:=(l.reverse.dropWhile (· == 0)).reverse
theorem aBv:∀ l:List Nat,∃ k,l=List.replicate k 0++l.dropWhile (· == 0):=by
 intro l
 induction l with
 | nil=>exact ⟨0,rfl⟩
 | cons x l ih =>
  by_cases hx:x=0
  · subst hx
    obtain ⟨k,hk⟩:=ih
    refine ⟨k+1,?_⟩
    rw [List.dropWhile_cons_of_pos (by rfl),List.replicate_succ,List.cons_append,← hk]
  · exact ⟨0,by rw [List.dropWhile_cons_of_neg (by simpa using hx)];rfl⟩
theorem oQ (l:List Nat):∃ k,l=eD l++List.replicate k 0:=by
 obtain ⟨k,hk⟩:=aBv l.reverse
 refine ⟨k,?_⟩
 have:=congrArg List.reverse hk
 rw [List.reverse_reverse,List.reverse_append,List.reverse_replicate] at this
 exact this
theorem aFD (l:List Nat) (i:Nat):(eD l).getD i 0=l.getD i 0:=by
 obtain ⟨k,hk⟩:=oQ l
 conv=>rhs;rw [hk]
 rw [List.getD_eq_getElem?_getD,List.getD_eq_getElem?_getD]
 by_cases hi:i<(eD l).length
 · rw [List.getElem?_append_left hi]
 · rw [List.getElem?_append_right (by omega),List.getElem?_eq_none (by omega),List.getElem?_replicate]
   split<;>rfl
def enc (h:List Nat→List Nat) (w:List Nat):List Nat:=eD (pZ ((st h w).j+4) (st h w).N)
theorem aOu (h:List Nat→List Nat) (w:List Nat) {i:Nat} (hi:i<(st h w).j+4):(enc h w).getD i 0=(st h w).N / 256 ^ ((st h w).j+4 - 1 - i) % 256:=by
 unfold enc
 rw [aFD,List.getD_eq_getElem?_getD,Si hi];rfl
theorem aFE {l:List Nat} {x:Nat} (h:x∈eD l):x∈l:=by
 obtain ⟨k,hk⟩:=oQ l
 rw [hk]
 exact List.mem_append_left _ h
theorem Eh (h:List Nat→List Nat) (w:List Nat):∀ x∈enc h w,x<256:=fun x hx=>aJN _ _ x (aFE hx)
theorem Px (l:List Nat):(eD l).length≤l.length:=by
 obtain ⟨k,hk⟩:=oQ l
 have:=congrArg List.length hk
 rw [List.length_append] at this
 omega
theorem aFF {j q:Nat}:pZ (j+1) (q+1)=if q % 256=255 then pZ j (q / 256+1)++[0] else pZ j (q / 256)++[q % 256+1]:=by
 rw [rJ]
 split
 · have h1:(q+1) / 256=q / 256+1:=by omega
   have h2:(q+1) % 256=0:=by omega
   rw [h1,h2]
 · have h1:(q+1) / 256=q / 256:=by omega
   have h2:(q+1) % 256=q % 256+1:=by omega
   rw [h1,h2]
end Rc
end cG
end Go
