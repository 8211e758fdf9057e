/-
Symbolic runs of the law's functions and of the program's, part 1.
Conditions: none.
-/
import Derived.Test.YtefdgihgbhbibaaGreatDoorRunLit
import Derived.Test.YtefdgihgbhbibaaGreatDoorRunBase
set_option linter.unusedVariables false
set_option linter.unusedSimpArgs false
set_option linter.defProp false
set_option maxRecDepth 10000
namespace Go
namespace cG
theorem uM {n b:Nat} {p:List Bool} {tm:T Value} {h:Hp} {c:T Value} {m:Nat} {e:TypeId} {cl ro:Bool} {l:List Value} (ht:tm.get p=some (bE b 0)) (hat:h.at b=some (.row c m e cl ro)) (hm:n≤m) (hl:cR c 0 n []=some l):Ae (.cell true n p) tm h=some (.agg ⟨l⟩):=by
 show kO (pS (tm.get p)) (fun b o=>pU h b (fun c m _ _ _=>bif Nat.ble (Nat.add o n) m then eC (cR c o n []) (fun l=>some (Value.agg ⟨l⟩)) none else none) none) none=_
 rw [ht]
 show pU h b (fun c m _ _ _=>bif Nat.ble (Nat.add 0 n) m then eC (cR c 0 n []) (fun l=>some (Value.agg ⟨l⟩)) none else none) none=_
 rw [Se,hat,rH,Az,show Nat.add 0 n=n from Nat.zero_add n,cX hm,cond_true,hl];rfl
theorem aJP {n b:Nat} {p:List Bool} {tm:T Value} {h:Hp} {c:T Value} {m:Nat} {e:TypeId} {cl ro:Bool} {l:List Value} (ht:tm.get p=some (bE b 0)) (hat:h.at b=some (.row c m e cl ro)) (hm:n≤m) (hl:cR c 0 n []=some l):Hr [.cell true n p] tm h=.val (.agg ⟨l⟩) h:=by
 have h2:aAR [.cell true n p] tm h=some [.agg ⟨l⟩]:=by
  show eC (Ae (.cell true n p) tm h) (fun v=>eC (some ([]:List Value)) (fun l=>some (v::l)) none) none=_
  rw [uM ht hat hm hl];rfl
 unfold Hr
 rw [h2];rfl
theorem iO (p q:List Bool) (tm:T Value) (h:Hp):Hr [.tmp p,.tmp q] tm h=.val (.tuple ⟨[pS (tm.get p),pS (tm.get q)]⟩) h:=rfl
theorem rK (tm:T Value) (h:Hp):Hr [] tm h=.val (.tuple ⟨[]⟩) h:=rfl
theorem aJQ (n:Nat) (k:IntKind) (z:Int):bY (eW n (.int k z))=true:=by
 unfold eW
 induction n with
 | zero=>rfl
 | succ n ih=>exact ih
def iR (h:Hp) (b m:Nat) (f:Nat→Value):Prop:=∃ c e cl,h.at b=some (.row c m e cl false)∧∀ k,k<m→c.get (path k)=some (f k)
theorem iR.bT {h H:Hp} {b m:Nat} {f:Nat→Value} (hr:iR h b m f) (e:H.at b=h.at b):iR H b m f:=by
 obtain ⟨c,e',cl,h1,h2⟩:=hr
 exact ⟨c,e',cl,by rw [e];exact h1,h2⟩
theorem iR.lt {h:Hp} {b m:Nat} {f:Nat→Value} (hr:iR h b m f) (hw:Wf h):b<h.next:=by
 obtain ⟨c,e',cl,h1,h2⟩:=hr
 exact hw.lt h1
theorem iR.congr {h:Hp} {b m:Nat} {f g:Nat→Value} (hr:iR h b m f) (hg:∀ k,k<m→f k=g k):iR h b m g:=by
 obtain ⟨c,e',cl,h1,h2⟩:=hr
 exact ⟨c,e',cl,h1,fun k hk=>by rw [h2 k hk,hg k hk]⟩
theorem iI {h:Hp} {b m:Nat} {f:Nat→Value} {c:T Value} {e:TypeId} {cl:Bool} (hc:∀ k,k<m→c.get (path k)=some (f k)) (k:Nat) (v:Value):iR (h.put b (some (.row (aL [v] k c fun t=>t) m e cl false))) b m (fun j=>if j=k then v else f j):=by
 refine ⟨_,e,cl,by rw [aJ,if_pos rfl],fun j hj=>?_⟩
 rw [bM]
 by_cases ej:j=k
 · subst ej
   rw [if_pos ⟨Nat.le_refl _,by simp⟩,Nat.sub_self]
   show some v=some (if j=j then v else f j)
   rw [if_pos rfl]
 · rw [if_neg (by simp;omega)]
   show _=some (if j=k then v else f j)
   rw [if_neg ej]
   exact hc j hj
theorem rL {h:Hp} {vs:List Value} {n:Nat} {e:TypeId} {cl:Bool} {f:Nat→Value} (hn:vs.length=n) (hf:∀ k,k<n→vs[k]?=some (f k)):iR (h.new (aT vs n e cl)) h.next n f:=by
 refine ⟨_,e,cl,by rw [aM,if_pos rfl];rfl,fun k hk=>?_⟩
 rw [bM,if_pos ⟨by omega,by omega⟩,Nat.sub_zero]
 exact hf k hk
def jE (m:Nat) (f:Nat→Value):List Value:=(List.range m).map f
theorem Sj (m:Nat) (f:Nat→Value):(jE m f).length=m:=by simp [jE]
theorem aD1 {m k:Nat} {f:Nat→Value} (h:k<m):(jE m f)[k]?=some (f k):=by
 unfold jE
 rw [List.getElem?_map,List.getElem?_range h];rfl
theorem aJR {c:T Value} {m:Nat} {f:Nat→Value} (hc:∀ k,k<m→c.get (path k)=some (f k)):cR c 0 m []=some (jE m f):=by
 have:=dV (c:=c) (o:=0) (vs:=jE m f) fun k hk=>by rw [Sj] at hk;rw [Nat.zero_add,aD1 hk];exact hc k hk
 rwa [Sj] at this
theorem aOv {m:Nat} {f:Nat→Value} {v:Value} (h:∀ k,k<m→f k=v):jE m f=eW m v:=by
 apply List.ext_getElem?
 intro k
 by_cases hk:k<m
 · rw [aD1 hk,yM hk,h k hk]
 · rw [List.getElem?_eq_none (by rw [Sj];omega),List.getElem?_eq_none (by rw [fO];omega)]
noncomputable def lM:Value:=K6 1
noncomputable def aRR:Value:=K6 0
structure On (h h2:Hp) (i:Nat) (tm:T Value) (df:Df) (H:Hp):Prop where
 df:df=[]
 t0:tm.get []=some (bE h.next 0)
 t1:tm.get [true]=some (bE (h.next+1) 0)
 t3:tm.get [true,true]=some (A0 i)
 wf:Wf H
 fr:Fr (fun k=>k=h.next+1) h2 H
 row:iR H (h.next+1) 256 fun k=>if k<i then lM else aRR
theorem aJS {call:Call} {cd:cE} {h:Hp} (hw:Wf h):Yields (dD Sf call cd [] h) (fun v H=>v=.agg ⟨eW 256 lM⟩∧Wf H∧Fr (fun _=>False) h H):=by
 refine aP rfl ?_
 have hb:=hw.base
 simp only [↓aQ,A3,reduceCtorEq]
 generalize hh2:(h.new (aT (eW 256 (K6 0)) 256 330 true)).new (aT (eW 256 (K6 0)) 256 330 true)=h2
 have hw2:Wf h2:=by rw [← hh2];exact (hw.new _).new _
 have hn2:h2.next=h.next+2:=by rw [← hh2];rfl
 have hb2:h2.base=h.base:=by rw [← hh2];rfl
 have hf2:Fr (fun _=>False) h h2:=by rw [← hh2];exact (Fr.new _).dE _
 have a0:h2.at h.next=some (aT (eW 256 (K6 0)) 256 330 true):=by rw [← hh2,aM,aF,if_neg (by omega),aM,if_pos rfl]
 refine bC.mT (φ:=fun e tm df H=>e=.normal∧On h h2 256 tm df H) (bC.mT (φ:=fun e tm df H=>e=.exit 0∧On h h2 256 tm df H) ?_ ?_) ?_
 · refine cT (n:=256) (by omega) (On h h2) ?_ ?_ ?_
   · intro i tm df H hi p
     obtain ⟨rfl,t0,t1,t3,wf,fr,⟨c,e,cl,hat,hc⟩⟩:=p
     have e1:Nat.blt i 256=true:=bU hi
     have e2:Nat.ble (i+1) 256=true:=cX hi
     have w1:aR .i64 (.ofNat (i+1))=.ofNat (i+1):=bF (by omega)
     simp only [↓aQ,A3,reduceCtorEq,Bb,t0,t1,t3,hat,e1,e2,w1,Nat.mul_one,Nat.zero_add]
     refine .go ⟨rfl,by simp [t0],by simp [t1],by simp,wf.put (wf.lt hat) _,fr.cJ _ (fun _=>rfl) (by omega),?_⟩
     refine (iI hc i lM).congr fun k hk=>?_
     by_cases e:k=i
     · rw [if_pos e,if_pos (by omega)]
     · rw [if_neg e]
       by_cases e':k<i
       · rw [if_pos e',if_pos (by omega)]
       · rw [if_neg e',if_neg (by omega)]
   · intro tm df H p
     obtain ⟨rfl,t0,t1,t3,wf,fr,row⟩:=p
     have e1:Nat.blt 256 256=false:=rfl
     simp only [↓aQ,A3,reduceCtorEq,Bb,t3,e1]
     exact .ex ⟨rfl,rfl,by simp [t0],by simp [t1],by simp [t3],wf,fr,row⟩
   · refine ⟨rfl,by simp,by simp,by simp,hw2,Fr.refl _ _,?_⟩
     rw [← hh2]
     refine rL (h:=h.new _) (fO _ _) fun k hk=>?_
     rw [yM hk,if_neg (by omega)];rfl
 · rintro e tm df H ⟨rfl,rest⟩;exact ⟨rfl,rest⟩
 rintro ex tm df H ⟨rfl,⟨hdf,t0,t1,t3,wf,fr,⟨c,e,cl,hat,hc⟩⟩⟩
 subst hdf
 have hld:cR c 0 256 []=some (eW 256 lM):=by rw [aJR hc,aOv fun k hk=>if_pos hk]
 have a0':H.at h.next=some (aT (eW 256 (K6 0)) 256 330 true):=by rw [fr.at_ _ (by omega) (by omega)];exact a0
 have hl:=fO 256 lM
 have ho:bY (eW 256 lM)=true:=aJQ _ _ _
 have q:Nat.ble 256 256=true:=rfl
 simp only [↓aQ,A3,reduceCtorEq,t0,t1,hat,a0',hld,hl,ho,q,Nat.zero_add]
 refine .ret ?_
 have hg:cR (aL (eW 256 lM) 0 (aL (eW 256 (K6 0)) 0 .nil fun t=>t) fun t=>t) 0 256 []=some (eW 256 lM):=by
  have:=dV (c:=aL (eW 256 lM) 0 (aL (eW 256 (K6 0)) 0 .nil fun t=>t) fun t=>t) (o:=0) (vs:=eW 256 lM) fun k hk=>by
   rw [bM,if_pos ⟨by omega,by omega⟩];congr 1;omega
  rwa [fO] at this
 rw [aJP (b:=h.next) (l:=eW 256 lM) t0 (by rw [aJ,if_pos rfl]) (Nat.le_refl _) hg]
 refine ⟨rfl,wf.put (by have:=fr.next;omega) _,?_⟩
 have f1:=fr.cJ (c:=h.next) (some (.row (aL (eW 256 lM) 0 (aL (eW 256 (K6 0)) 0 .nil fun t=>t) fun t=>t) 256 330 true false))
 refine ((hf2.trans (P:=fun _=>False) (Q:=fun k=>k=h.next+1) fr fun k hk e=>by omega).trans (Q:=fun k=>k=h.next) (Fr.put _ rfl ?_) fun k hk e=>by omega)
 rw [fr.base,hb2];exact hb
theorem Lm {t:List Nat} (h:t.length≤2000):Rc.iW t≤65000:=by unfold Rc.iW;omega
theorem vP {t:List Nat} (h:t.length≤2000) {k:Nat} (hk:k≤256):Rc.jK t k≤65000:=by
 unfold Rc.jK
 have:(t.countP fun x=>decide (x<k))≤t.length:=List.countP_le_length
 omega
theorem yO {t:List Nat} (h:t.length≤2000) (k:Nat):Rc.gO t k≤65000:=by
 unfold Rc.gO
 have:t.count k≤t.length:=List.count_le_length
 omega
noncomputable def aBw (t:List Nat) (k:Nat):Value:=K6 (Rc.gO t k)
def aJT (h:Hp) (b:Nat) (t:List Nat):Prop:=∃ c m e cl ro,h.at b=some (.row c m e cl ro)∧256≤m∧∀ k,k<256→c.get (path k)=some (aBw t k)
noncomputable def adF (t:List Nat) (k:Nat):Value:=if k<256 then aBw t k else .int .u64 (.ofNat (Rc.iW t))
def AdR (h:Hp) (b:Nat) (t:List Nat):Prop:=iR h b 257 (adF t)
theorem AdR.jE {h:Hp} {b:Nat} {t:List Nat} (hr:AdR h b t):aJT h b t:=by
 obtain ⟨c,e,cl,h1,h2⟩:=hr
 exact ⟨c,257,e,cl,false,h1,by omega,fun k hk=>by rw [h2 k (by omega)];unfold adF;rw [if_pos hk]⟩
structure Cs (v:Value) (t:List Nat) (n:Nat) (h:Hp) (i:Nat) (tm:T Value) (df:Df) (H:Hp):Prop where
 df:df=[]
 hh:H=h
 t3:tm.get [true,true]=some (.int .u64 (.ofNat (Rc.jK t i)))
 t6:tm.get [false,false]=some v
 t7:tm.get [true,true,true]=some (A0 n)
 t8:tm.get [false,true,true]=some (A0 i)
theorem aJU {call:Call} {cd:cE} {h:Hp} {b n:Nat} {t:List Nat} (hr:aJT h b t) (ht:t.length≤2000) (hn:n≤256):dD Jf call cd [cB b 0 n 256] h=.val (.int .u64 (.ofNat (Rc.jK t n))) h:=by
 have key:Yields (dD Jf call cd [cB b 0 n 256] h) (fun v H=>v=.int .u64 (.ofNat (Rc.jK t n))∧H=h):=by
  obtain ⟨c,m,e,cl,ro,hat,hm,hc⟩:=hr
  refine aP rfl ?_
  simp only [↓aQ,A3,reduceCtorEq]
  refine bC.mT (φ:=fun e tm df H=>e=.normal∧Cs (cB b 0 n 256) t n h n tm df H) (bC.mT (φ:=fun e tm df H=>e=.exit 0∧Cs (cB b 0 n 256) t n h n tm df H) ?_ ?_) ?_
  · refine cT (n:=n) (by omega) (Cs (cB b 0 n 256) t n h) ?_ ?_ ?_
    · intro i tm df H hi p
      obtain ⟨rfl,rfl,t3,t6,t7,t8⟩:=p
      have e1:Nat.blt i n=true:=bU hi
      have e2:Nat.blt (0+i*1) m=true:=bU (by omega)
      have e3:c.get (path (0+i*1))=some (K6 (Rc.gO t i)):=by
       rw [show 0+i*1=i by omega];exact hc i (by omega)
      have w1:aR .i64 (.ofNat (i+1))=.ofNat (i+1):=bF (by omega)
      have l1:=yO ht i
      have l2:=vP ht (k:=i) (by omega)
      have w2:aR .u64 (.ofNat (Rc.gO t i))=.ofNat (Rc.gO t i):=Eb (by omega)
      have w3:aR .u64 (.ofNat (Rc.jK t i+Rc.gO t i))=.ofNat (Rc.jK t i+Rc.gO t i):=Eb (by omega)
      simp only [↓aQ,A3,reduceCtorEq,Bc,t3,t6,t7,t8,hat,e1,e2,e3,w1,w2,w3]
      exact .go ⟨rfl,rfl,by simp [Rc.rI],by simp [t6],by simp [t7],by simp⟩
    · intro tm df H p
      obtain ⟨rfl,rfl,t3,t6,t7,t8⟩:=p
      have e1:Nat.blt n n=false:=cI (Nat.le_refl _)
      simp only [↓aQ,A3,reduceCtorEq,Bc,t7,t8,e1]
      exact .ex ⟨rfl,rfl,rfl,by simp [t3],by simp [t6],by simp [t7],by simp [t8]⟩
    · exact ⟨rfl,rfl,by simp [Rc.Lk],by simp [dQ],by simp,by simp⟩
  · rintro e tm df H ⟨rfl,rest⟩;exact ⟨rfl,rest⟩
  rintro ex tm df H ⟨rfl,⟨rfl,rfl,t3,t6,t7,t8⟩⟩
  simp only [↓aQ,A3,reduceCtorEq,t3]
  refine .ret ?_
  simp only [↓aQ,A3,reduceCtorEq]
 obtain ⟨v,H,e,rfl,rfl⟩:=key.get
 exact e
theorem Sk {call:Call} {cd:cE} {h:Hp} {b:Nat} {t:List Nat} (hr:AdR h b t):dD sR call cd [bE b 0] h=.val (.tuple ⟨[bE b 0,.int .u64 (.ofNat (Rc.iW t))]⟩) h:=by
 have key:Yields (dD sR call cd [bE b 0] h) (fun v H=>v=.tuple ⟨[bE b 0,.int .u64 (.ofNat (Rc.iW t))]⟩∧H=h):=by
  obtain ⟨c,e,cl,hat,hc⟩:=hr
  have e1:c.get (path (0+256))=some (.int .u64 (.ofNat (Rc.iW t))):=by
   rw [hc (0+256) (by omega)];rfl
  have e2:Nat.blt (0+256) 257=true:=rfl
  refine aP rfl ?_
  simp only [↓aQ,A3,reduceCtorEq,dQ,dI,dJ,hat,e1,e2,Nat.add_zero]
  refine .ret ?_
  simp only [iO,↓aQ,A3,reduceCtorEq]
 obtain ⟨v,H,e,rfl,rfl⟩:=key.get
 exact e
theorem aOw (t:List Nat) {x:Nat} (hx:x<256) (k:Nat) (hk:k<257):(if k=256 then Value.int .u64 (.ofNat (Rc.iW t+32)) else if k=x then K6 (Rc.gO t x+32) else adF t k)=adF (t++[x]) k:=by
 by_cases h1:k=256
 · rw [if_pos h1]
   have e:adF (t++[x]) k=.int .u64 (.ofNat (Rc.iW (t++[x]))):=if_neg (by omega)
   have:Rc.iW (t++[x])=Rc.iW t+32:=by unfold Rc.iW;simp;omega
   rw [e,this]
 · rw [if_neg h1]
   have e:adF (t++[x]) k=aBw (t++[x]) k:=if_pos (by omega)
   rw [e]
   by_cases h2:k=x
   · rw [if_pos h2,h2]
     have:Rc.gO (t++[x]) x=Rc.gO t x+32:=by unfold Rc.gO;rw [List.count_append,List.count_singleton_self];omega
     unfold aBw
     rw [this]
   · rw [if_neg h2]
     have e2:adF t k=aBw t k:=if_pos (by omega)
     have:Rc.gO (t++[x]) k=Rc.gO t k:=by
      unfold Rc.gO
      rw [List.count_append,List.count_singleton,if_neg (by simp;omega)];rfl
     unfold aBw at e2 ⊢
     rw [e2,this]
theorem aFG {call:Call} {cd:cE} {h:Hp} {b x:Nat} {t:List Nat} (hw:Wf h) (hb:h.base≤b) (hr:AdR h b t) (ht:t.length<2000) (hx:x<256):Yields (dD Lh call cd [bE b 0,A1 x] h) (fun v H=>v=.tuple ⟨[]⟩∧Wf H∧Fr (fun k=>k=b) h H∧H.next=h.next∧AdR H b (t++[x])):=by
 have hlt:=hr.lt hw
 obtain ⟨c,e,cl,hat,hc⟩:=hr
 have l1:=yO (Nat.le_of_lt ht) x
 have l2:=Lm (Nat.le_of_lt ht)
 have e1:c.get (path (0+0+x*1))=some (K6 (Rc.gO t x)):=by
  rw [show 0+0+x*1=x by omega,hc x (by omega)];unfold adF;rw [if_pos hx];rfl
 have e2:Nat.blt (0+0+x*1) 257=true:=bU (by omega)
 have e3:Nat.blt x 256=true:=bU hx
 have e4:Nat.ble (0+0+x*1+1) 257=true:=cX (by omega)
 have w1:aR .u32 (.ofNat (Rc.gO t x+32))=.ofNat (Rc.gO t x+32):=w32 (by omega)
 have w2:aR .u64 (.ofNat (Rc.iW t+32))=.ofNat (Rc.iW t+32):=Eb (by omega)
 have k1:comp Lg 5 10=true:=rfl
 have hlog:jN h.next [] b=[b]:=kQ hlt
 have hbl:∀ l,below h.base [b] l=l:=pY hb
 have kb:Nat.beq b b=true:=Nat.beq_refl b
 have hlog2:=aBr (h:=h) (o:=some (dY.row (aL [K6 (Rc.gO t x+32)] (0+0+x*1) c fun t=>t) 257 e cl false)) hb
 refine aP rfl ?_
 rw [Dr]
 refine bC.mT (φ:=Ho fun ex tm df H=>ex=.normal∧df=[]∧tm.get []=some (bE b 0)∧Wf H∧Fr (fun k=>k=b) h H∧H.next=h.next∧iR H b 257 (fun k=>if k=x then K6 (Rc.gO t x+32) else adF t k)) ?_ ?_
 · simp only [↓aQ,A3,reduceCtorEq,cN,cP,dI,dJ,hat,e1,e2,e3,e4,w1,k1,hlog,hbl,kb,hlog2]
   refine ⟨?_⟩
   refine ⟨rfl,rfl,by simp [cN],hw.put hlt _,Fr.put _ rfl hb,rfl,?_⟩
   have:=iI (h:=h) (b:=b) (e:=e) (cl:=cl) hc x (K6 (Rc.gO t x+32))
   rw [show 0+0+x*1=x by omega]
   exact this
 rintro ex tm df H ⟨⟨rfl,rfl,t0,wf,fr,hn,⟨c2,e',cl',hat2,hc2⟩⟩⟩
 rw [Ry]
 have e5:c2.get (path (0+256))=some (.int .u64 (.ofNat (Rc.iW t))):=by
  refine (hc2 (0+256) (by omega)).trans ?_
  show some (if 0+256=x then _ else adF t (0+256))=_
  rw [if_neg (by omega)];rfl
 have e6:Nat.blt (0+256) 257=true:=rfl
 have e7:Nat.ble (0+256+1) 257=true:=rfl
 have e8:(aL [Value.int .u64 (.ofNat (Rc.iW t+32))] (0+256) c2 fun t=>t).get (path (0+256))=some (.int .u64 (.ofNat (Rc.iW t+32))):=by
  rw [bM,if_pos ⟨by omega,by simp⟩,Nat.sub_self];rfl
 have e9:Nat.blt 65536 (Rc.iW t+32)=false:=cI (by omega)
 simp only [↓aQ,A3,reduceCtorEq,t0,dI,dJ,hat2,e5,e6,e7,e8,e9,w2]
 refine .ret ?_
 rw [rK]
 refine ⟨rfl,wf.put (by omega) _,fr.cJ _ (fun _=>rfl) hb,hn,?_⟩
 exact (iI hc2 256 (.int .u64 (.ofNat (Rc.iW t+32)))).congr fun k hk=>aOw t hx k hk
theorem aQP (call:Call) (lo:List Value) (tm:T Value) (h:Hp):aEX call lo tm h=.val (.map (some h.next)) (h.new (.mp [])):=Hp.zG _ _ _
@[congr] theorem aXC {R:Type} {v v':Value} {k:Nat→R} {kn z:R} (h:v=v'):Jy v k kn z=Jy v' k kn z:=by rw [h]
theorem Sm {R:Type} (b:Nat) (k:Nat→R) (kn z:R):Jy (.map (some b)) k kn z=k b:=rfl
theorem Sn {R:Type} (es:List (Value×Value)) (k:List (Value×Value)→R) (z:R):Il (.mp es) k z=k es:=rfl
theorem aJV (tag:Nat) (m k v:OD) (call:Call) (lo:List Value) (tm:T Value) (h:Hp):sH tag m k v call lo tm h=Jy (bW m lo tm) (fun b=>eC (h.at b) (fun ob=>Il ob (fun es =>
 bif Nat.beq (Ac (bW k lo tm)) tag then eC (xL tag (bW k lo tm) (bW v lo tm) es) (fun es=>.val undef (h.put b (some (.mp es)))) .none else .none) .none) .none) .none .none:=by
 unfold sH
 simp only [Hp.qD]
 rfl
theorem aBx (tag:Nat) (z:Value) (ok:Bool) (x k:OD) (lo:List Value) (tm:T Value):Jz tag z ok x k lo tm=Jy (bW x lo tm)
 (fun b=>.read b fun ob=>Il ob (fun es=>p9 tag (bW k lo tm) es (fun v=>pH ok v true) (pH ok z false) none) none) (aAI (pH ok z false)) .none:=rfl
noncomputable def mpL (l:List (Nat×Nat)):List (Value×Value):=l.map fun p=>(A1 p.1,bE p.2 0)
theorem aU9 (n m:Nat):rZ 2 (A1 n) (A1 m)=some (Nat.beq n m):=by
 show some (Pb (.ofNat n) (.ofNat m))=_
 rfl
theorem aOx {R:Type} (n:Nat) (y:Value→R) (no z:R):∀ l:List (Nat×Nat),p9 2 (A1 n) (mpL l) y no z=match l.lookup n with|some b=>y (bE b 0)|none=>no:=by
 intro l
 induction l with
 | nil=>rfl
 | cons p l ih =>
  show eC (rZ 2 (A1 n) (A1 p.1)) (fun t=>Bool.rec (motive:=fun _=>R) (p9 2 (A1 n) (mpL l) y no z) (y (bE p.2 0)) t) z=_
  rw [aU9,rH,ih]
  obtain ⟨a,b⟩:=p
  rw [List.lookup_cons]
  by_cases e:n=a
  · subst e
    rw [show (n == n)=true from beq_self_eq_true n]
    show Bool.rec (motive:=fun _=>R) _ _ (Nat.beq n n)=_
    rw [Nat.beq_refl]
  · rw [show (n == a)=false from beq_false_of_ne e]
    show Bool.rec (motive:=fun _=>R) _ _ (Nat.beq n a)=_
    rw [dO e]
theorem aRS (n b:Nat):∀ l:List (Nat×Nat),l.lookup n=none→xL 2 (A1 n) (bE b 0) (mpL l)=some (mpL (l++[(n,b)])):=by
 intro l
 induction l with
 | nil=>intro _;rfl
 | cons p l ih =>
  intro hl
  obtain ⟨a,b'⟩:=p
  rw [List.lookup_cons] at hl
  by_cases e:n=a
  · subst e
    rw [show (n == n)=true from beq_self_eq_true n] at hl
    cases hl
  · rw [show (n == a)=false from beq_false_of_ne e] at hl
    show eC (rZ 2 (A1 n) (A1 a)) (fun t=>Bool.rec (motive:=fun _=>Option (List (Value×Value))) (eC (xL 2 (A1 n) (bE b 0) (mpL l)) (fun l=>some ((A1 a,bE b' 0)::l)) none) (some ((A1 a,bE b 0)::mpL l)) t) none=_
    rw [aU9,rH,dO e,ih hl]
    rfl
theorem Xf (l:List (Nat×Nat)) (n b m:Nat) (h:l.lookup n=none):(l++[(n,b)]).lookup m=if m=n then some b else l.lookup m:=by
 induction l with
 | nil =>
  rw [List.nil_append,List.lookup_cons]
  by_cases e:m=n
  · rw [if_pos e,e,show (n == n)=true from beq_self_eq_true n]
  · rw [if_neg e,show (m == n)=false from beq_false_of_ne e]
 | cons p l ih =>
  obtain ⟨a,b'⟩:=p
  rw [List.lookup_cons] at h
  rw [List.cons_append,List.lookup_cons,List.lookup_cons]
  by_cases e:n=a
  · subst e
    rw [show (n == n)=true from beq_self_eq_true n] at h
    cases h
  · rw [show (n == a)=false from beq_false_of_ne e] at h
    by_cases e2:m=a
    · subst e2
      rw [show (m == m)=true from beq_self_eq_true m,if_neg (fun h=>e h.symm)]
    · rw [show (m == a)=false from beq_false_of_ne e2]
      exact ih h
structure AfR (h:Hp) (a mb:Nat) (l:List (Nat×Nat)) (p:Nat) (hs:Nat→List Nat):Prop where
 row:iR h a 2 fun k=>if k=0 then .map (some mb) else A1 p
 map:h.at mb=some (.mp (mpL l))
 jE:∀ n b,l.lookup n=some b→AdR h b (hs n)
 non:∀ n,l.lookup n=none→hs n=[]
 inj:∀ n m b,l.lookup n=some b→l.lookup m=some b→n=m
 last:p<256
theorem AfR.bT {h H:Hp} {a mb p:Nat} {l:List (Nat×Nat)} {hs:Nat→List Nat} (hr:AfR h a mb l p hs) (e1:H.at a=h.at a) (e2:H.at mb=h.at mb) (e3:∀ n b,l.lookup n=some b→H.at b=h.at b):AfR H a mb l p hs :=
 ⟨hr.row.bT e1,e2.trans hr.map,fun n b hn=>(hr.jE n b hn).bT (e3 n b hn),hr.non,hr.inj,hr.last⟩
theorem aD2 (k:Nat) (hk:k<257):(over (over (eW 256 (K6 0)++[.int .u64 (.ofNat 0)]) 0 (eW 256 lM)) 256 [.int .u64 (.ofNat 256)])[k]?=some (adF [] k):=by
 have l1:(eW 256 (K6 0)++[Value.int .u64 (.ofNat 0)]).length=257:=by rw [List.length_append,fO];rfl
 rw [rE _ _ _ _ (by rw [kE,l1];exact Nat.le_refl _),rE _ _ _ _ (by rw [l1,fO];omega),fO]
 by_cases h1:k=256
 · subst h1
   rw [if_pos ⟨Nat.le_refl _,by show 256<256+1;omega⟩,Nat.sub_self]
   rfl
 · rw [if_neg (by show ¬ (256≤k∧k<256+1);omega),if_pos ⟨Nat.zero_le _,by omega⟩,Nat.sub_zero,yM (by omega)]
   have:adF [] k=aBw [] k:=if_pos (by omega)
   rw [this];rfl
def aJW (call:Call):Prop:=∀ H,Wf H→∃ H',call 171 [] H=.val (.agg ⟨eW 256 lM⟩) H'∧Wf H'∧Fr (fun _=>False) H H'
theorem Xg (v:Value) (b:Bool):pH true v b=some (.tuple ⟨[v,.bool b]⟩):=rfl
theorem aOy (n:Int):Ac (.int .u8 n)=2:=rfl
theorem aFI {call:Call} {cd:cE} {h:Hp} {a mb p:Nat} {l:List (Nat×Nat)} {hs:Nat→List Nat} (hones:aJW call) (hw:Wf h) (hb:h.base≤mb) (hr:AfR h a mb l p hs) :
 Yields (dD Lj call cd [bE a 0] h) (fun v H=>∃ b l',v=bE b 0∧AfR H a mb l' p hs∧l'.lookup p=some b∧Wf H∧Fr (fun k=>k=mb) h H∧∀ n c,l'.lookup n=some c→l.lookup n=some c∨(h.next≤c∧c<H.next)):=by
 obtain ⟨⟨c,e,cl,hat,hc⟩,hm,htab,hnon,hinj,hp⟩:=id hr
 have c0:c.get (path (0+0))=some (.map (some mb)):=hc 0 (by omega)
 have c1:c.get (path (0+1))=some (A1 p):=hc 1 (by omega)
 have q0:Nat.blt (0+0) 2=true:=rfl
 have q1:Nat.blt (0+1) 2=true:=rfl
 have hla:=hw.lt hat
 have hlm:=hw.lt hm
 have hne:a≠mb:=fun e=>by subst e;rw [hat] at hm;cases hm
 refine aP rfl ?_
 have hf:∀ {R:Type} (y:Value→R) (no z:R),p9 2 (A1 p) (mpL l) y no z=match l.lookup p with|some b=>y (bE b 0)|none=>no:=fun y no z=>aOx p y no z l
 cases hl:l.lookup p with
 | some b =>
  rw [hl] at hf
  have hf':∀ {R:Type} (y:Value→R) (no z:R),p9 2 (A1 p) (mpL l) y no z=y (bE b 0):=hf
  simp only [↓aQ,A3,reduceCtorEq,dQ,dI,dJ,hat,c0,c1,q0,q1,aBx,Sm,hm,Sn,hf',Xg,iX,nW,oD]
  refine .ret ?_
  simp only [↓aQ,A3,reduceCtorEq]
  exact ⟨b,l,rfl,hr,hl,hw,Fr.refl _ _,fun n c hn=>.inl hn⟩
 | none =>
  rw [hl] at hf
  have hf':∀ {R:Type} (y:Value→R) (no z:R),p9 2 (A1 p) (mpL l) y no z=no:=hf
  obtain ⟨H1,e1,w1,f1⟩:=hones h hw
  have n1:=f1.next
  have hat1:H1.at a=some (.row c 2 e cl false):=by rw [f1.at_ a hla (fun h=>h)];exact hat
  have hm1:H1.at mb=some (.mp (mpL l)):=by rw [f1.at_ mb hlm (fun h=>h)];exact hm
  generalize hov:over (over (eW 256 (K6 0)++[.int .u64 (.ofNat 0)]) 0 (eW 256 lM)) 256 [.int .u64 (.ofNat 256)]=ov
  have hovl:ov.length=257:=by rw [← hov,kE,kE,List.length_append,fO];rfl
  have hbd:∀ (lo:List Value) (tm:T Value),cZ (eW 256 (K6 0)++[.int .u64 (.ofNat 0)]) [(0,(256,.loc 0)),(256,(1,.val (.int .u64 (.ofNat 256))))] (.agg ⟨eW 256 lM⟩::lo) tm=some (.agg ⟨ov⟩):=fun lo tm=>by
   have k1:(eW 256 lM).length=256:=fO _ _
   have k2:(eW 256 (K6 0)++[Value.int .u64 (.ofNat 0)]).length=257:=by rw [List.length_append,fO];rfl
   rw [Du,zO]
   show oE 0 256 (.agg ⟨eW 256 lM⟩) _ _ none=_
   rw [Sa,k1,k2,Nat.beq_refl,cond_true,cX (by omega),cond_true,zO]
   show oE 256 1 (.int .u64 (.ofNat 256)) _ _ none=_
   rw [Jd,kE,k2,Nat.beq_refl,cond_true,cX (by omega),cond_true,Dv,hov]
  have hput:=aRS p H1.next l hl
  have x1:Nat.beq a mb=false:=dO hne
  have hne1:(H1.next=a)=False:=by simp;omega
  have hne2:(H1.next=mb)=False:=by simp;omega
  have hlog:jN (H1.next+1) [] mb=[mb]:=kQ (by omega)
  have hbl:∀ l,below H1.base [mb] l=l:=pY (by rw [f1.base];exact hb)
  have hsb:=aBr (h:=H1.new (aT ov 257 336 true)) (b:=mb) (o:=some (dY.mp (mpL (l++[(p,H1.next)])))) (by rw [dX,f1.base];exact hb)
  rw [dX,Gc] at hsb
  simp only [↓hbd,↓aQ,A3,reduceCtorEq,dQ,dI,dJ,hat,c0,c1,q0,q1,aBx,Sm,hm,Sn,hf',Xg,iX,nW,oD,e1,hovl,hat1,hm1,hne1,hne2,aJV,aOy,hput,hlog,hbl,x1,hsb]
  refine .ret ?_
  simp only [↓aQ,A3,reduceCtorEq]
  have hw2:Wf ((H1.new (aT ov 257 336 true)).put mb (some (dY.mp (mpL (l++[(p,H1.next)]))))):=(w1.new _).put (by rw [aF];omega) _
  have hlk:=fun n=>Xf l p H1.next n hl
  refine ⟨H1.next,l++[(p,H1.next)],rfl,⟨?_,by rw [aJ,if_pos rfl],fun n b hn=>?_,fun n hn=>?_,fun n m b h1 h2=>?_,hp⟩,by rw [hlk,if_pos rfl],hw2,?_,fun n k hn=>?_⟩
  · exact iR.bT (h:=h) ⟨c,e,cl,hat,hc⟩ (by rw [aJ,if_neg (fun e=>hne e.symm),aM,if_neg (by omega),f1.at_ a hla (fun h=>h)])
  · rw [hlk] at hn
    by_cases e:n=p
    · rw [if_pos e] at hn
      cases hn
      rw [e,hnon p hl]
      refine iR.bT (h:=H1.new (aT ov 257 336 true)) (rL hovl fun k hk=>?_) (by rw [aJ,if_neg (by omega)])
      rw [← hov];exact aD2 k hk
    · rw [if_neg e] at hn
      have h2:=htab n b hn
      have h3:=h2.lt hw
      exact h2.bT (by rw [aJ,if_neg (fun e=>by subst e;obtain ⟨_,_,_,h4,_⟩:=h2;rw [hm] at h4;cases h4),aM,if_neg (by omega),f1.at_ b h3 (fun h=>h)])
  · rw [hlk] at hn
    by_cases e:n=p
    · rw [if_pos e] at hn;cases hn
    · rw [if_neg e] at hn;exact hnon n hn
  · rw [hlk] at h1 h2
    by_cases e1:n=p
    · by_cases e2:m=p
      · rw [e1,e2]
      · rw [if_pos e1] at h1
        rw [if_neg e2] at h2
        cases h1
        have:=(htab m _ h2).lt hw
        omega
    · rw [if_neg e1] at h1
      by_cases e2:m=p
      · rw [if_pos e2] at h2
        cases h2
        have:=(htab n _ h1).lt hw
        omega
      · rw [if_neg e2] at h2
        exact hinj n m b h1 h2
  · exact (((f1.mono fun k hk h=>h.elim).dE _).cJ _ (fun _=>rfl) hb)
  · rw [hlk] at hn
    by_cases e:n=p
    · rw [if_pos e] at hn
      cases hn
      right
      exact ⟨n1,Nat.lt_succ_self _⟩
    · rw [if_neg e] at hn;exact .inl hn
def aRT (call:Call):Prop:=∀ H a mb l p hs,Wf H→H.base≤mb→AfR H a mb l p hs→Yields (call 559 [bE a 0] H) (fun v H'=>∃ b l',v=bE b 0∧AfR H' a mb l' p hs∧l'.lookup p=some b∧Wf H'∧Fr (fun k=>k=mb) H H'∧∀ n c,l'.lookup n=some c→l.lookup n=some c∨(H.next≤c∧c<H'.next))
def aOz (call:Call):Prop:=∀ H b t,AdR H b t→call 555 [bE b 0] H=.val (.tuple ⟨[bE b 0,.int .u64 (.ofNat (Rc.iW t))]⟩) H
def aOA (call:Call):Prop:=∀ H b x t,Wf H→H.base≤b→AdR H b t→t.length<2000→x<256→Yields (call 556 [bE b 0,A1 x] H) (fun v H'=>v=.tuple ⟨[]⟩∧Wf H'∧Fr (fun k=>k=b) H H'∧H'.next=H.next∧AdR H' b (t++[x]))
theorem So {call:Call} {cd:cE} {h:Hp} {a mb p:Nat} {l:List (Nat×Nat)} {hs:Nat→List Nat} (hnow:aRT call) (hcc:aOz call) (hw:Wf h) (hb:h.base≤mb) (hr:AfR h a mb l p hs) :
 Yields (dD yN call cd [bE a 0] h) (fun v H=>∃ b l',v=.tuple ⟨[bE b 0,.int .u64 (.ofNat (Rc.iW (hs p)))]⟩∧AfR H a mb l' p hs∧l'.lookup p=some b∧Wf H∧Fr (fun k=>k=mb) h H∧∀ n c,l'.lookup n=some c→l.lookup n=some c∨(h.next≤c∧c<H.next)):=by
 obtain ⟨v,H,e1,b,l',rfl,r1,r2,r3,r4,r5⟩:=(hnow h a mb l p hs hw hb hr).get
 have e2:=hcc H b (hs p) (r1.jE p b r2)
 refine aP rfl ?_
 simp only [↓aQ,A3,reduceCtorEq,dQ,e1,e2,iX,nW,oD]
 refine .ret ?_
 simp only [iO,↓aQ,A3,reduceCtorEq]
 exact ⟨b,l',rfl,r1,r2,r3,r4,r5⟩
theorem aFJ {call:Call} {cd:cE} {h:Hp} {a mb p x:Nat} {l:List (Nat×Nat)} {hs:Nat→List Nat} (hnow:aRT call) (has:aOA call) (hw:Wf h) (hb:h.base≤mb) (hba:h.base≤a) (hbl:∀ n b,l.lookup n=some b→h.base≤b) (hr:AfR h a mb l p hs) (hlen:(hs p).length<2000) (hx:x<256) :
 Yields (dD Li call cd [bE a 0,A1 x] h) (fun v H=>∃ l',v=.tuple ⟨[]⟩∧AfR H a mb l' x (fun n=>if n=p then hs p++[x] else hs n)∧Wf H∧Fr (fun k=>k=mb∨k=a∨∃ n,l.lookup n=some k) h H∧∀ n c,l'.lookup n=some c→l.lookup n=some c∨(h.next≤c∧c<H.next)):=by
 obtain ⟨v,H1,e1,b,l',rfl,r1,r2,r3,r4,r5⟩:=(hnow h a mb l p hs hw hb hr).get
 have hb1:H1.base≤b:=by
  rw [r4.base]
  rcases r5 p b r2 with h1|h1
  · exact hbl p b h1
  · have:=hw.base;omega
 obtain ⟨v,H2,e2,rfl,s1,s2,s3,s4⟩:=(has H1 b x (hs p) r3 hb1 (r1.jE p b r2) hlen hx).get
 obtain ⟨c,e,cl,hat,hc⟩:=id r1.row
 have hm1:=r1.map
 have hla:=r3.lt hat
 have hlm:=r3.lt hm1
 have hla0:a<h.next:=hr.row.lt hw
 have hlm0:mb<h.next:=hw.lt hr.map
 have hne:a≠mb:=fun e=>by subst e;rw [hat] at hm1;cases hm1
 have hnab:∀ n k,l'.lookup n=some k→k≠a∧k≠mb:=fun n k hk=>by
  obtain ⟨c',e',cl',hat',hc'⟩:=r1.jE n k hk
  refine ⟨fun e=>?_,fun e=>?_⟩
  · subst e;rw [hat] at hat';cases hat'
  · subst e;rw [hm1] at hat';cases hat'
 have hab:=hnab p b r2
 have hat2:H2.at a=some (.row c 2 e cl false):=by rw [s2.at_ a hla (fun e=>hab.1 e.symm)];exact hat
 have q1:Nat.ble (0+1+1) 2=true:=rfl
 refine aP rfl ?_
 simp only [↓aQ,A3,reduceCtorEq,cN,cP,e1,e2,dI,dJ,hat2,q1]
 refine Ip.end ?_
 rw [rK]
 have hbase2:H2.base=h.base:=s2.base.trans r4.base
 refine ⟨l',rfl,⟨?_,?_,fun n k hn=>?_,fun n hn=>?_,r1.inj,hx⟩,s1.put (by omega) _,?_,fun n k hn=>?_⟩
 · have hc2:∀ k,k<2→c.get (path k)=some ((fun k=>if k=0 then Value.map (some mb) else A1 p) k):=hc
   refine (iI (h:=H2) (b:=a) (e:=e) (cl:=cl) hc2 (0+1) (A1 x)).congr fun k hk=>?_
   by_cases h1:k=1
   · subst h1;rfl
   · have:k=0:=by omega
     subst this;rfl
 · rw [aJ,if_neg hne,s2.at_ mb hlm (fun e=>hab.2 e.symm)];exact hm1
 · have hk:=hnab n k hn
   by_cases e:n=p
   · have ek:k=b:=by rw [e,r2] at hn;cases hn;rfl
     show AdR _ k (if n=p then hs p++[x] else hs n)
     rw [if_pos e,ek]
     exact s4.bT (by rw [aJ,if_neg (fun e=>hab.1 e.symm)])
   · have hkb:k≠b:=fun e2=>e (r1.inj n p b (by rw [← e2];exact hn) r2)
     have ht:=r1.jE n k hn
     show AdR _ k (if n=p then hs p++[x] else hs n)
     rw [if_neg e]
     exact ht.bT (by rw [aJ,if_neg (fun e=>hk.1 e.symm),s2.at_ k (ht.lt r3) hkb])
 · have e:n≠p:=fun e=>by rw [e,r2] at hn;cases hn
   show (if n=p then hs p++[x] else hs n)=[]
   rw [if_neg e]
   exact r1.non n hn
 · refine Fr.cJ (Fr.trans (P:=fun k=>k=mb∨k=a∨∃ n,l.lookup n=some k) (Q:=fun k=>k=b) (r4.mono fun k _ h=>.inl h) s2 fun k hk e=>?_) _ (fun _=>.inr (.inl rfl)) hba
   subst e
   rcases r5 p k r2 with h1|h1
   · exact .inr (.inr ⟨p,h1⟩)
   · omega
 · rcases r5 n k hn with h1|h1
   · exact .inl h1
   · right
     rw [aV]
     omega
def qS (w:List Nat):Nat×(Nat→List Nat):=w.foldl (fun s x=>(x,fun n=>if n=s.1 then s.2 s.1++[x] else s.2 n)) (0,fun _=>[])
theorem yP (w:List Nat) (x:Nat):qS (w++[x])=(x,fun n=>if n=(qS w).1 then (qS w).2 (qS w).1++[x] else (qS w).2 n):=by
 unfold qS
 rw [List.foldl_append];rfl
def cU (n:Nat) (w:List Nat):List Nat:=if n=1 then w else (qS w).2 (qS w).1
theorem Ei {P:List Nat→Prop} (h0:P []) (hs:∀ w x,P w→P (w++[x])) (w:List Nat):P w:=by
 have key:∀ r:List Nat,P r.reverse:=by
  intro r
  induction r with
  | nil=>exact h0
  | cons x r ih=>rw [List.reverse_cons];exact hs _ x ih
 have:=key w.reverse
 rwa [List.reverse_reverse] at this
theorem Sp (w:List Nat):∀ n,((qS w).2 n).length≤w.length:=by
 refine Ei (P:=fun w=>∀ n,((qS w).2 n).length≤w.length) (fun n=>Nat.le_refl _) (fun w x ih n=>?_) w
 rw [yP]
 show (if n=(qS w).1 then (qS w).2 (qS w).1++[x] else (qS w).2 n).length≤_
 rw [List.length_append]
 split
 · rw [List.length_append]
   have:=ih (qS w).1
   show _+1≤_+1
   omega
 · have:=ih n
   omega
theorem Xh (w:List Nat):(∀ x∈w,x<256)→(qS w).1<256∧∀ n,∀ x∈(qS w).2 n,x<256:=by
 refine Ei (P:=fun w=>(∀ x∈w,x<256)→(qS w).1<256∧∀ n,∀ x∈(qS w).2 n,x<256) (fun _=>⟨by show (0:Nat)<256;omega,fun n x hx=>by cases hx⟩) (fun w x ih hw=>?_) w
 have hx:=hw x (by simp)
 obtain ⟨i1,i2⟩:=ih fun y hy=>hw y (by simp [hy])
 rw [yP]
 refine ⟨hx,fun n y hy=>?_⟩
 have hy':y∈(if n=(qS w).1 then (qS w).2 (qS w).1++[x] else (qS w).2 n):=hy
 split at hy'
 · rcases List.mem_append.1 hy' with h1|h1
   · exact i2 _ y h1
   · rw [List.mem_singleton] at h1;omega
 · exact i2 n y hy'
theorem uN (n:Nat):Rc.Good (cU n):=by
 refine ⟨fun w=>?_,fun w hw=>?_⟩
 · unfold cU
   split
   · exact Nat.le_refl _
   · exact Sp w _
 · unfold cU
   split
   · exact hw
   · exact (Xh w hw).2 _
def vQ (n:Nat) (h:Hp) (m:Value) (w:List Nat) (fp:Nat→Prop):Prop :=
 (n=1∧∃ b,m=.iface 334 (bE b 0)∧AdR h b w∧fp b) ∨
 (n=2∧∃ a mb l,m=.iface 337 (bE a 0)∧AfR h a mb l (qS w).1 (qS w).2∧fp a∧fp mb∧∀ k b,l.lookup k=some b→fp b)
theorem vQ.bT {n:Nat} {h H:Hp} {m:Value} {w:List Nat} {fp:Nat→Prop} (hm:vQ n h m w fp) (e:∀ k,fp k→H.at k=h.at k):vQ n H m w fp:=by
 rcases hm with ⟨rfl,b,rfl,h1,h2⟩|⟨rfl,a,mb,l,rfl,h1,h2,h3,h4⟩
 · exact .inl ⟨rfl,b,rfl,h1.bT (e b h2),h2⟩
 · exact .inr ⟨rfl,a,mb,l,rfl,h1.bT (e a h2) (e mb h3) fun n b hn=>e b (h4 n b hn),h2,h3,h4⟩
theorem vQ.mono {n:Nat} {h:Hp} {m:Value} {w:List Nat} {fp fq:Nat→Prop} (hm:vQ n h m w fp) (e:∀ k,fp k→fq k):vQ n h m w fq:=by
 rcases hm with ⟨rfl,b,rfl,h1,h2⟩|⟨rfl,a,mb,l,rfl,h1,h2,h3,h4⟩
 · exact .inl ⟨rfl,b,rfl,h1,e b h2⟩
 · exact .inr ⟨rfl,a,mb,l,rfl,h1,e a h2,e mb h3,fun n b hn=>e b (h4 n b hn)⟩
def grow (fp:Nat→Prop) (h H:Hp) (k:Nat):Prop:=fp k∨(h.next≤k∧k<H.next)
def aRU (call:Call):Prop:=∀ H a mb l p hs,Wf H→H.base≤mb→AfR H a mb l p hs→Yields (call 557 [bE a 0] H) (fun v H'=>∃ b l',v=.tuple ⟨[bE b 0,.int .u64 (.ofNat (Rc.iW (hs p)))]⟩∧AfR H' a mb l' p hs∧l'.lookup p=some b∧Wf H'∧Fr (fun k=>k=mb) H H'∧∀ n c,l'.lookup n=some c→l.lookup n=some c∨(H.next≤c∧c<H'.next))
def aRV (call:Call):Prop:=∀ H a mb l p hs x,Wf H→H.base≤mb→H.base≤a→(∀ n b,l.lookup n=some b→H.base≤b)→AfR H a mb l p hs→(hs p).length<2000→x<256→Yields (call 558 [bE a 0,A1 x] H) (fun v H'=>∃ l',v=.tuple ⟨[]⟩∧AfR H' a mb l' x (fun n=>if n=p then hs p++[x] else hs n)∧Wf H'∧Fr (fun k=>k=mb∨k=a∨∃ n,l.lookup n=some k) H H'∧∀ n c,l'.lookup n=some c→l.lookup n=some c∨(H.next≤c∧c<H'.next))
noncomputable def tbC:List (Nat×Nat):=[(328,553),(334,555),(337,557)]
noncomputable def tbS:List (Nat×Nat):=[(328,554),(334,556),(337,558)]
noncomputable def aFK (call:Call) (tb:List (Nat×Nat)) (m:Value) (args:List Value) (h:Hp):fV:=lA m (fun t v=>eC (asc tb t) (fun g=>call g (v::args) h) .none) .none .none
theorem Ln (tb:List (Nat×Nat)) (r:OD) (l:List OD) (call:Call) (lo:List Value) (tm:T Value) (h:Hp):Ka tb r l call lo tm h=aFK call tb (bW r lo tm) (Co l lo tm) h:=rfl
theorem Lo {call:Call} (hac:aOz call) (hfc:aRU call) {n:Nat} {h:Hp} {m:Value} {w:List Nat} {fp:Nat→Prop} (hm:vQ n h m w fp) (hw:Wf h) (hfp:∀ k,fp k→h.base≤k) :
 ∃ b H,aFK call tbC m [] h=.val (.tuple ⟨[bE b 0,.int .u64 (.ofNat (Rc.iW (cU n w)))]⟩) H∧aJT H b (cU n w)∧vQ n H m w (grow fp h H)∧Wf H∧Fr fp h H:=by
 rcases hm with ⟨rfl,b,rfl,h1,h2⟩|⟨rfl,a,mb,l,rfl,h1,h2,h3,h4⟩
 · refine ⟨b,h,hac h b w h1,h1.jE,.inl ⟨rfl,b,rfl,h1,.inl h2⟩,hw,Fr.refl _ _⟩
 · obtain ⟨v,H,e,b,l',rfl,r1,r2,r3,r4,r5⟩:=(hfc h a mb l _ _ hw (hfp mb h3) h1).get
   refine ⟨b,H,e,(r1.jE _ b r2).jE,.inr ⟨rfl,a,mb,l',rfl,r1,.inl h2,.inl h3,fun k c hk=>?_⟩,r3,r4.mono fun k _ e=>by rw [e];exact h3⟩
   rcases r5 k c hk with h5|h5
   · exact .inl (h4 k c h5)
   · exact .inr h5
theorem aD3 {call:Call} (has:aOA call) (hfs:aRV call) {n x:Nat} {h:Hp} {m:Value} {w:List Nat} {fp:Nat→Prop} (hm:vQ n h m w fp) (hw:Wf h) (hfp:∀ k,fp k→h.base≤k) (hl:w.length<2000) (hx:x<256) :
 ∃ H,aFK call tbS m [A1 x] h=.val (.tuple ⟨[]⟩) H∧vQ n H m (w++[x]) (grow fp h H)∧Wf H∧Fr fp h H:=by
 rcases hm with ⟨rfl,b,rfl,h1,h2⟩|⟨rfl,a,mb,l,rfl,h1,h2,h3,h4⟩
 · obtain ⟨v,H,e,rfl,s1,s2,s3,s4⟩:=(has h b x w hw (hfp b h2) h1 hl hx).get
   exact ⟨H,e,.inl ⟨rfl,b,rfl,s4,.inl h2⟩,s1,s2.mono fun k _ e=>by rw [e];exact h2⟩
 · have hlen:=Sp w (qS w).1
   obtain ⟨v,H,e,l',rfl,r1,r2,r3,r4⟩:=(hfs h a mb l _ _ x hw (hfp mb h3) (hfp a h2) (fun n b hn=>hfp b (h4 n b hn)) h1 (by omega) hx).get
   refine ⟨H,e,.inr ⟨rfl,a,mb,l',rfl,by rw [yP];exact r1,.inl h2,.inl h3,fun k c hk=>?_⟩,r2,r3.mono fun k _ hk=>?_⟩
   · rcases r4 k c hk with h5|h5
     · exact .inl (h4 k c h5)
     · exact .inr h5
   · rcases hk with rfl|rfl|⟨n,hn⟩
     · exact h3
     · exact h2
     · exact h4 n k hn
namespace Rc
theorem yQ {e:En} (h1:0<e.s):∃ d,d≤3∧(∀ i,i<d→e.s*256 ^ i<16777216)∧16777216≤e.s*256 ^ d∧norm 4 e=⟨e.N*256 ^ d,e.j+d,e.s*256 ^ d⟩:=by
 have st:∀ n (f:En),norm (n+1) f=if f.s<16777216 then norm n ⟨f.N*256,f.j+1,f.s*256⟩ else f:=fun n f=>rfl
 obtain ⟨N,j,s⟩:=e
 have h1':0<s:=h1
 show ∃ d,d≤3∧(∀ i,i<d→s*256 ^ i<16777216)∧16777216≤s*256 ^ d∧norm 4 ⟨N,j,s⟩=⟨N*256 ^ d,j+d,s*256 ^ d⟩
 by_cases a:16777216≤s
 · refine ⟨0,by omega,fun i hi=>by omega,by simpa using a,?_⟩
   rw [st,if_neg (by show ¬ s<16777216;omega)]
   simp
 by_cases b:16777216≤s*256
 · refine ⟨1,by omega,fun i hi=>?_,by simpa using b,?_⟩
   · have:i=0:=by omega
     subst this
     simp;omega
   · rw [st,if_pos (by show s<16777216;omega),st,if_neg (by show ¬ s*256<16777216;omega)]
 by_cases c:16777216≤s*256*256
 · refine ⟨2,by omega,fun i hi=>?_,by rw [show s*256 ^ 2=s*256*256 by rw [Nat.mul_assoc]];omega,?_⟩
   · rcases (by omega:i=0∨i=1) with rfl|rfl
     · simp;omega
     · simp;omega
   · rw [st,if_pos (by show s<16777216;omega),st,if_pos (by show s*256<16777216;omega),st,if_neg (by show ¬ s*256*256<16777216;omega)]
     have e1:s*256 ^ 2=s*256*256:=by rw [Nat.mul_assoc]
     have e2:N*256 ^ 2=N*256*256:=by rw [Nat.mul_assoc]
     rw [e1,e2]
 · have e1:s*256 ^ 3=s*256*256*256:=by rw [Nat.mul_assoc,Nat.mul_assoc]
   have e2:N*256 ^ 3=N*256*256*256:=by rw [Nat.mul_assoc,Nat.mul_assoc]
   refine ⟨3,by omega,fun i hi=>?_,by omega,?_⟩
   · rcases (by omega:i=0∨i=1∨i=2) with rfl|rfl|rfl
     · simp;omega
     · simp;omega
     · have e3:s*256 ^ 2=s*256*256:=by rw [Nat.mul_assoc]
       omega
   · rw [st,if_pos (by show s<16777216;omega),st,if_pos (by show s*256<16777216;omega),st,if_pos (by show s*256*256<16777216;omega),st,if_neg (by show ¬ s*256*256*256<16777216;omega),e1,e2]
theorem Xi (j N:Nat):pZ (j+1) (N*256 / 4294967296)=pZ j (N / 4294967296)++[N % 4294967296 / 16777216]:=by
 rw [rJ,show N*256 / 4294967296 / 256=N / 4294967296 by omega,show N*256 / 4294967296 % 256=N % 4294967296 / 16777216 by omega]
theorem Xj (N:Nat):N % 4294967296 % 16777216*256=N*256 % 4294967296:=by omega
theorem Xk:∀ (j q:Nat),q+1<256 ^ j→∃ k x A,k<j∧x<255∧A.length=j - 1 - k∧pZ j q=A++x::List.replicate k 255∧pZ j (q+1)=A++(x+1)::List.replicate k 0:=by
 intro j
 induction j with
 | zero=>intro q h;simp at h
 | succ j ih =>
  intro q h
  rw [aFF,rJ]
  by_cases e:q % 256=255
  · rw [if_pos e]
    obtain ⟨k,x,A,h1,h2,h3,h4,h5⟩:=ih (q / 256) (by rw [Nat.pow_succ] at h;omega)
    refine ⟨k+1,x,A,by omega,h2,by omega,?_,?_⟩
    · rw [h4,e,List.replicate_succ',List.append_assoc,List.cons_append]
    · rw [h5,List.replicate_succ',List.append_assoc,List.cons_append]
  · rw [if_neg e]
    refine ⟨0,q % 256,pZ j (q / 256),by omega,by omega,by rw [iK];omega,by simp,by simp⟩
end Rc
theorem Lp (t:TypeId) (x:OD) (lo:List Value) (tm:T Value):As t x lo tm=some (.iface t (bW x lo tm)):=rfl
theorem aOB {R:Type} (o n:Nat) (a:Option Nat) (z:List Value) (k:List Value→R) (no:R):oE o n (.map a) z k no=bif Nat.beq 1 n then bif Nat.ble (o+n) z.length then k (over z o [.map a]) else no else no:=by
 show (bif false then no else bif Nat.beq 1 n then bif Nat.ble (Nat.add o n) (len z) then k (over z o [.map a]) else no else no)=_
 rw [eF];rfl
def aBy (n:Nat) (h:Hp) (v:Value) (H:Hp):Prop:=∃ fp,vQ n H v [] fp∧Wf H∧Fr (fun _=>False) h H∧∀ k,fp k→h.next≤k∧k<H.next
theorem aBz {call:Call} {cd:cE} {h:Hp} (hones:aJW call) (hw:Wf h):Yields (dD Ee call cd [A0 1] h) (aBy 1 h):=by
 obtain ⟨H1,e1,w1,f1⟩:=hones h hw
 generalize hov:over (over (eW 256 (K6 0)++[.int .u64 (.ofNat 0)]) 0 (eW 256 lM)) 256 [.int .u64 (.ofNat 256)]=ov
 have hovl:ov.length=257:=by rw [← hov,kE,kE,List.length_append,fO];rfl
 have hbd:∀ (lo:List Value) (tm:T Value),cZ (eW 256 (K6 0)++[.int .u64 (.ofNat 0)]) [(0,(256,.loc 0)),(256,(1,.val (.int .u64 (.ofNat 256))))] (.agg ⟨eW 256 lM⟩::lo) tm=some (.agg ⟨ov⟩):=fun lo tm=>by
  have k1:(eW 256 lM).length=256:=fO _ _
  have k2:(eW 256 (K6 0)++[Value.int .u64 (.ofNat 0)]).length=257:=by rw [List.length_append,fO];rfl
  rw [Du,zO]
  show oE 0 256 (.agg ⟨eW 256 lM⟩) _ _ none=_
  rw [Sa,k1,k2,Nat.beq_refl,cond_true,cX (by omega),cond_true,zO]
  show oE 256 1 (.int .u64 (.ofNat 256)) _ _ none=_
  rw [Jd,kE,k2,Nat.beq_refl,cond_true,cX (by omega),cond_true,Dv,hov]
 have q0:Nat.beq 1 0=false:=rfl
 refine aP rfl ?_
 simp only [↓hbd,↓aQ,A3,reduceCtorEq,dQ,q0,e1,hovl,Lp]
 refine .ret ?_
 simp only [↓aQ,A3,reduceCtorEq]
 refine ⟨fun k=>k=H1.next,.inl ⟨rfl,H1.next,rfl,rL hovl fun k hk=>?_,rfl⟩,w1.new _,f1.dE _,fun k hk=>by rw [hk];exact ⟨f1.next,Nat.lt_succ_self _⟩⟩
 rw [← hov];exact aD2 k hk
theorem aBA {call:Call} {cd:cE} {h:Hp} (hw:Wf h):Yields (dD Ee call cd [A0 2] h) (aBy 2 h):=by
 have q0:Nat.beq 2 0=false:=rfl
 have q1:Nat.beq 2 1=false:=rfl
 have q2:Nat.beq 1 1=true:=rfl
 have q3:Nat.ble (0+1) 2=true:=rfl
 refine aP rfl ?_
 simp only [↓aQ,A3,reduceCtorEq,dQ,q0,q1,q2,q3,aQP,aOB,Lp]
 refine .ret ?_
 simp only [↓aQ,A3,reduceCtorEq]
 refine ⟨fun k=>k=h.next∨k=h.next+1,.inr ⟨rfl,h.next+1,h.next,[],rfl,⟨?_,?_,fun n b hn=>(by cases hn),fun n hn=>rfl,fun n m b hn=>(by cases hn),(by show (0:Nat)<256;omega)⟩,.inr rfl,.inl rfl,fun k b hn=>(by cases hn)⟩,(hw.new _).new _,(Fr.new _).dE _,fun k hk=>?_⟩
 · refine iR.congr (f:=fun k=>([Value.map (some h.next),A1 0][k]?).getD undef) (rL (h:=h.new (.mp [])) rfl fun k hk=>?_) fun k hk=>?_
   · match k,hk with
     | 0,_=>rfl
     | 1,_=>rfl
   · match k,hk with
     | 0,_=>rfl
     | 1,_=>rfl
 · rw [aM,if_neg (by rw [aF];omega),aM,if_pos rfl];rfl
 · rw [aF,aF]
   rcases hk with rfl|rfl<;>omega
theorem aBB (t:TypeId) (v:Value):aAH (.iface t v)=some false:=rfl
def Lq (e:TypeId) (h:Hp) (b m:Nat) (f:Nat→Value):Prop:=∃ c,h.at b=some (.row c m e false false)∧∀ k,k<m→c.get (path k)=some (f k)
theorem Lq.own {e:TypeId} {h:Hp} {b m:Nat} {f:Nat→Value} (ho:Lq e h b m f) {vs:List Value} (hl:vs.length=m) (hf:∀ k,k<m→vs[k]?=some (f k)):vN e h b vs:=by
 obtain ⟨c,h1,h2⟩:=ho
 exact ⟨c,by rw [hl];exact h1,fun k hk=>by rw [h2 k (by omega),hf k (by omega)]⟩
theorem vN.fn {e:TypeId} {h:Hp} {b m:Nat} {f:Nat→Value} {vs:List Value} (ho:vN e h b vs) (hl:vs.length=m) (hf:∀ k,k<m→vs[k]?=some (f k)):Lq e h b m f:=by
 obtain ⟨c,h1,h2⟩:=ho
 exact ⟨c,by rw [← hl];exact h1,fun k hk=>by rw [h2 k (by omega),hf k hk]⟩
theorem Ej {e:TypeId} {h:Hp} {b m:Nat} {f:Nat→Value} {c:T Value} (hc:∀ k,k<m→c.get (path k)=some (f k)) (k:Nat) (v:Value):Lq e (h.put b (some (.row (aL [v] k c fun t=>t) m e false false))) b m (fun j=>if j=k then v else f j):=by
 refine ⟨_,by rw [aJ,if_pos rfl],fun j hj=>?_⟩
 rw [bM]
 by_cases ej:j=k
 · subst ej
   rw [if_pos ⟨Nat.le_refl _,by simp⟩,Nat.sub_self]
   show some v=some (if j=j then v else f j)
   rw [if_pos rfl]
 · rw [if_neg (by simp;omega)]
   show _=some (if j=k then v else f j)
   rw [if_neg ej]
   exact hc j hj
theorem Lq.congr {e:TypeId} {h:Hp} {b m:Nat} {f g:Nat→Value} (ho:Lq e h b m f) (hg:∀ k,k<m→f k=g k):Lq e h b m g:=by
 obtain ⟨c,h1,h2⟩:=ho
 exact ⟨c,h1,fun k hk=>by rw [h2 k hk,hg k hk]⟩
def uO (A:List Nat) (x j m p:Nat):Nat:=if p<A.length then A.getD p 0 else if p=A.length then x else if p<j - m then 255 else 0
noncomputable def Gf (A:List Nat) (x j m p:Nat):Value:=A1 (uO A x j m p)
structure EC (A:List Nat) (x j b cp:Nat) (tm0:T Value) (h:Hp) (m:Nat) (tm:T Value) (df:Df) (H:Hp):Prop where
 df:df=[]
 t7:tm.get [true,true,true]=some (cB b 0 j cp)
 t15:tm.get [true,true,true,true]=some (A0 (j - 1 - m))
 pP:∀ p,p≠[true,true,true,true]→p≠[true,true,false,true,true,true]→tm.get p=tm0.get p
 wf:Wf H
 fr:Fr (fun k=>k=b) h H
 nx:H.next=h.next
 row:Lq 5 H b j (Gf A x j m)
theorem aRW {call:Call} {A:List Nat} {x j k b cp:Nat} {tm0:T Value} {h:Hp} (hb:h.base≤b) (hlt:b<h.next) (hA:A.length=j - 1 - k) (hk:k<j) (hj:j<100000) (hx:x<255) {tm:T Value} {df:Df} {H:Hp} (hst:EC A x j b cp tm0 h 0 tm df H) :
 bC (iP (.loop qI) call tm df H) (fun ex tm df H=>ex=.exit 3∧EC A x j b cp tm0 h k tm df H):=by
 refine cT (n:=k) (by omega) (EC A x j b cp tm0 h) (fun m tm df H hm hI=>?_) (fun tm df H hI=>?_) hst
 · obtain ⟨rfl,t7,t15,pP,wf,fr,nx,⟨c,hat,hc⟩⟩:=hI
   have e1:Nat.blt (j - 1 - m) j=true:=bU (by omega)
   have e2:Nat.blt (0+(j - 1 - m)*1) j=true:=bU (by omega)
   have e3:c.get (path (0+(j - 1 - m)*1))=some (A1 255):=by
    rw [show 0+(j - 1 - m)*1=j - 1 - m by omega,hc _ (by omega)]
    unfold Gf uO
    rw [if_neg (by omega),if_neg (by omega),if_pos (by omega)]
   have e4:Nat.beq 255 255=true:=rfl
   have e5:Nat.ble (0+(j - 1 - m)*1+1) j=true:=cX (by omega)
   have w1:aR .i64 (.ofNat (j - 1 - m - 1))=.ofNat (j - 1 - m - 1):=bF (by omega)
   have s1:gP .i64 (.ofNat (j - 1 - m)) (.ofNat 1)=some (.int .i64 (aR .i64 (.ofNat (j - 1 - m - 1)))):=jI _ (by omega)
   simp only [↓aQ,A3,reduceCtorEq,qI,t7,t15,hat,e1,e2,e3,e4,e5,s1,w1]
   refine .go ⟨rfl,by simp [t7],by simp;omega,fun p h1 h2=>?_,wf.put (by omega) _,fr.cJ _ (fun _=>rfl) hb,nx,?_⟩
   · rw [T.aB,if_neg (fun e=>h1 e.symm),T.aB,if_neg (fun e=>h2 e.symm)]
     exact pP p h1 h2
   · refine (Ej hc (0+(j - 1 - m)*1) (A1 0)).congr fun p hp=>?_
     by_cases e:p=0+(j - 1 - m)*1
     · rw [if_pos e]
       unfold Gf uO
       rw [if_neg (by omega),if_neg (by omega),if_neg (by omega)]
     · rw [if_neg e]
       unfold Gf uO
       by_cases h1:p<A.length
       · rw [if_pos h1,if_pos h1]
       · rw [if_neg h1,if_neg h1]
         by_cases h2:p=A.length
         · rw [if_pos h2,if_pos h2]
         · rw [if_neg h2,if_neg h2]
           by_cases h3:p<j - m
           · rw [if_pos h3,if_pos (by omega)]
           · rw [if_neg h3,if_neg (by omega)]
 · obtain ⟨rfl,t7,t15,pP,wf,fr,nx,⟨c,hat,hc⟩⟩:=hI
   have e1:Nat.blt (j - 1 - k) j=true:=bU (by omega)
   have e2:Nat.blt (0+(j - 1 - k)*1) j=true:=bU (by omega)
   have e3:c.get (path (0+(j - 1 - k)*1))=some (A1 x):=by
    rw [show 0+(j - 1 - k)*1=j - 1 - k by omega,hc _ (by omega)]
    unfold Gf uO
    rw [if_neg (by omega),if_pos (by omega)]
   have e4:Nat.beq x 255=false:=dO (by omega)
   simp only [↓aQ,A3,reduceCtorEq,qI,t7,t15,hat,e1,e2,e3,e4]
   refine .ex ⟨rfl,rfl,by simp [t7],by simp [t15],fun p h1 h2=>?_,wf,fr,nx,c,hat,hc⟩
   rw [T.aB,if_neg (fun e=>h2 e.symm)]
   exact pP p h1 h2
structure EN (e:Rc.En) (P:Nat→Prop) (tm0:T Value) (h:Hp) (m:Nat) (tm:T Value) (df:Df) (H:Hp):Prop where
 df:df=[]
 t7:∃ ov,tm.get [true,true,true]=some ov∧Out 5 1 P H ov (e.j+m) (dR (Rc.pZ (e.j+m) (e.N*256 ^ m / 4294967296)))
 t8:tm.get [false,true,true]=some (.int .u64 (.ofNat (e.N*256 ^ m % 4294967296)))
 t9:tm.get [true,false,true]=some (.int .u64 (.ofNat (e.s*256 ^ m)))
 pP:∀ p,p≠[true,true,true]→p≠[false,true,true]→p≠[true,false,true]→p≠[false,true,true,true,false,true]→tm.get p=tm0.get p
 wf:Wf H
 fr:Fr P h H
theorem aRX {call:Call} {e:Rc.En} {P:Nat→Prop} {tm0:T Value} {h:Hp} {d:Nat} (hd:d≤3) (hs1:∀ i,i<d→e.s*256 ^ i<16777216) (hs2:16777216≤e.s*256 ^ d) (hj:e.j<90000) (hP:∀ k,P k→h.base≤k) (hPn:∀ k,h.next≤k→P k) {tm:T Value} {df:Df} {H:Hp} (hst:EN e P tm0 h 0 tm df H) :
 bC (iP (.loop qH) call tm df H) (fun ex tm df H=>ex=.exit 5∧EN e P tm0 h d tm df H):=by
 refine cT (n:=d) (by omega) (EN e P tm0 h) (fun m tm df H hm hI=>?_) (fun tm df H hI=>?_) hst
 · obtain ⟨rfl,⟨ov,t7,ho⟩,t8,t9,pP,wf,fr⟩:=hI
   have hsm:=hs1 m hm
   have e1:Nat.blt (e.s*256 ^ m) 16777216=true:=bU hsm
   have hx:e.N*256 ^ m % 4294967296 / 16777216<256:=by omega
   have q1:pE .u64 (.ofNat (e.N*256 ^ m % 4294967296)) (.ofNat 16777216)=some (.int .u64 (aR .u64 (.ofNat (e.N*256 ^ m % 4294967296 / 16777216)))):=tP _ (by omega)
   have w1:aR .u64 (.ofNat (e.N*256 ^ m % 4294967296 / 16777216))=.ofNat (e.N*256 ^ m % 4294967296 / 16777216):=Eb (by omega)
   have w2:aR .u8 (.ofNat (e.N*256 ^ m % 4294967296 / 16777216))=.ofNat (e.N*256 ^ m % 4294967296 / 16777216):=w8 hx
   have q2:iZ .u64 (.ofNat (e.N*256 ^ m % 4294967296)) (.ofNat 16777216)=some (.int .u64 (.ofNat (e.N*256 ^ m % 4294967296 % 16777216))):=lN _ (by omega)
   have q3:iU .u64 (.ofNat (e.N*256 ^ m % 4294967296 % 16777216)) (.ofNat 256)=some (.int .u64 (aR .u64 (.ofNat (e.N*256 ^ m % 4294967296 % 16777216*256)))):=lD _ _ _
   have w3:aR .u64 (.ofNat (e.N*256 ^ m % 4294967296 % 16777216*256))=.ofNat (e.N*256 ^ m % 4294967296 % 16777216*256):=Eb (by omega)
   have q4:iU .u64 (.ofNat (e.s*256 ^ m)) (.ofNat 256)=some (.int .u64 (aR .u64 (.ofNat (e.s*256 ^ m*256)))):=lD _ _ _
   have w4:aR .u64 (.ofNat (e.s*256 ^ m*256))=.ofNat (e.s*256 ^ m*256):=Eb (by omega)
   have y1:Nat.ble (0+1) 1=true:=rfl
   generalize hX:e.N*256 ^ m % 4294967296 / 16777216=X at *
   have hsl:Sl 1 (H.new (aT [A1 X] 1 5 true)) (cB H.next 0 1 1) 1 (dR [X]):=⟨rfl,.inr ⟨_,_,_,rfl,by omega,fS (vs:=[A1 X]) (n:=1) (e:=5) (cl:=true) (by rw [aM,if_pos rfl]) (Nat.le_refl _)⟩⟩
   have ho':Out 5 1 P (H.new (aT [A1 X] 1 5 true)) ov (e.j+m) (dR (Rc.pZ (e.j+m) (e.N*256 ^ m / 4294967296))):=by
    obtain ⟨a1,a2,a3|⟨b,rfl,a4,a5,a6⟩⟩:=ho
    · exact ⟨a1,a2,.inl a3⟩
    · exact ⟨a1,a2,.inr ⟨b,rfl,a4,a5.bT (by have:=a5.lt wf;rw [aM,if_neg (by omega)]),a6⟩⟩
   obtain ⟨v',H',ea,ho2,wf2,nx2,fr2,_⟩:=vO (wf.new _) ho' hsl (jJ _) (by omega) (by omega) (fun k hk=>by rw [dX,fr.base];exact hP k hk) (hPn _ (by rw [aF];have:=fr.next;omega))
   simp only [↓aQ,A3,reduceCtorEq,qH,t7,t8,t9,e1,q1,w1,w2,q2,q3,w3,q4,w4,y1,gE,ea]
   have hpw:e.N*256 ^ (m+1)=e.N*256 ^ m*256:=by rw [Nat.pow_succ,Nat.mul_assoc]
   refine .go ⟨rfl,⟨v',by simp,?_⟩,?_,?_,fun p h1 h2 h3 h4=>?_,wf2,?_⟩
   · rw [show e.j+(m+1)=e.j+m+1 by omega,hpw,Rc.Xi,lO,hX]
     exact ho2
   · rw [hpw,← Rc.Xj]
     simp [T.aB]
   · rw [Nat.pow_succ,← Nat.mul_assoc]
     simp [T.aB]
   · rw [T.aB,if_neg (fun e=>h3 e.symm),T.aB,if_neg (fun e=>h2 e.symm),T.aB,if_neg (fun e=>h1 e.symm),T.aB,if_neg (fun e=>h4 e.symm)]
     exact pP p h1 h2 h3 h4
   · exact (fr.dE _).trans fr2 fun k hk hb=>ho.fE hb.1 hb.2
 · obtain ⟨rfl,⟨ov,t7,ho⟩,t8,t9,pP,wf,fr⟩:=hI
   have e1:Nat.blt (e.s*256 ^ d) 16777216=false:=cI hs2
   simp only [↓aQ,A3,reduceCtorEq,qH,t9,e1]
   refine .ex ⟨rfl,rfl,⟨ov,by simp [t7],ho⟩,by simp [t8],by simp [t9],fun p h1 h2 h3 h4=>?_,wf,fr⟩
   rw [T.aB,if_neg (fun e=>h4 e.symm)]
   exact pP p h1 h2 h3 h4
structure Nm (φ:T Value→Df→Hp→Prop) (e:Ex) (tm:T Value) (df:Df) (H:Hp):Prop where
 nm:e=.normal
 out:φ tm df H
structure Xt (i:Nat) (φ:T Value→Df→Hp→Prop) (e:Ex) (tm:T Value) (df:Df) (H:Hp):Prop where
 xt:e=.exit i
 out:φ tm df H
theorem bC.seq {a b:CC} {call:Call} {tm:T Value} {df:Df} {H:Hp} {φ:T Value→Df→Hp→Prop} {ψ:Ex→T Value→Df→Hp→Prop} (h:bC (iP a call tm df H) (Nm φ)) (hb:∀ tm df H,φ tm df H→bC (iP b call tm df H) ψ):bC (iP (.seq a b) call tm df H) ψ:=by
 rw [Dr]
 refine h.mT fun e tm' df' H' hh=>?_
 obtain ⟨rfl,ho⟩:=hh
 rw [Ry]
 exact hb _ _ _ ho
theorem bC.block {b:CC} {id:Nat} {call:Call} {tm:T Value} {df:Df} {H:Hp} {φ:T Value→Df→Hp→Prop} (h:bC (iP b call tm df H) (Nm φ)):bC (iP (.block id b) call tm df H) (Nm φ):=by
 rw [Jc]
 refine h.mT fun e tm' df' H' hh=>?_
 obtain ⟨rfl,ho⟩:=hh
 exact ⟨rfl,ho⟩
theorem bC.Be {b:CC} {id:Nat} {call:Call} {tm:T Value} {df:Df} {H:Hp} {φ:T Value→Df→Hp→Prop} (h:bC (iP b call tm df H) (Xt id φ)):bC (iP (.block id b) call tm df H) (Nm φ):=by
 rw [Jc]
 refine h.mT fun e tm' df' H' hh=>?_
 obtain ⟨rfl,ho⟩:=hh
 show bC (bif Nat.beq id id then eL.ok .normal tm' df' H' else eL.ok (.exit id) tm' df' H') (Nm φ)
 rw [Nat.beq_refl]
 exact ⟨rfl,ho⟩
theorem aRY (x y:OD) (lo:List Value) (tm:T Value):Fg 256 1 x none (some y) none lo tm=kO (bW x lo tm) (fun b o=>lP (bW y lo tm) (fun c=>bif Nat.ble c 256 then some (cB b o c 256) else none) none) none:=by
 unfold Fg
 show kO (bW x lo tm) (fun b o=>gQ (some y) lo tm 256 256 (fun hi=>gQ none lo tm 0 hi (fun lw=>qW b o 1 lw hi 256) none) none) none=_
 congr 1
 funext b o
 rw [pX]
 congr 1
 funext c
 cases Nat.ble c 256 with
 | false=>rfl
 | true =>
  rw [cond_true,cond_true,yL]
  unfold qW
  rw [show Nat.beq 0 256=false from rfl,cond_false]
  unfold xV
  rw [bD,bD,bD];rfl
structure aJX (call:Call):Prop where
 adc:aOz call
 afc:aRU call
 ads:aOA call
 afs:aRV call
 sum:∀ H b n t,aJT H b t→t.length≤2000→n≤256→call 107 [cB b 0 n 256] H=.val (.int .u64 (.ofNat (Rc.jK t n))) H
structure ES (n:Nat) (tv:Value) (text:List Nat) (h0:Hp) (i:Nat) (w:List Nat) (j q low s:Nat) (tm:T Value) (df:Df) (H:Hp):Prop where
 df:df=[]
 t25:tm.get [true,false,true,false]=some tv
 t26:tm.get [false,false,true,false]=some (.int .i64 (.ofNat text.length))
 t27:tm.get [true,true,false,false]=some (.int .i64 (.ofNat i))
 t8:tm.get [false,true,true]=some (.int .u64 (.ofNat low))
 t9:tm.get [true,false,true]=some (.int .u64 (.ofNat s))
 wf:Wf H
 fr:Fr (fun _=>False) h0 H
 st:∃ m ov fp,tm.get [false,false]=some m∧vQ n H m w fp∧(∀ k,fp k→h0.next≤k∧k<H.next)∧tm.get [true,true,true]=some ov∧Out 5 1 (fun k=>h0.next≤k∧¬ fp k) H ov j (dR (Rc.pZ j q))
structure EM (n:Nat) (tv:Value) (text:List Nat) (h0:Hp) (i x:Nat) (w:List Nat) (j q low s:Nat) (tm:T Value) (df:Df) (H:Hp):Prop where
 es:ES n tv text h0 i w j q low s tm df H
 t11:tm.get [true,true,false]=some (.int .u8 (.ofNat x))
theorem Out.Py {e:TypeId} {s:Nat} {P Q:Nat→Prop} {h H:Hp} {v:Value} {n:Nat} {vs:List Value} (ho:Out e s P h v n vs) (hw:Wf h) (hk:∀ c,0<n→gY v c→P c→c<h.next→Q c∧H.at c=h.at c):Out e s Q H v n vs:=by
 obtain ⟨hl,h1,h2|⟨b,rfl,h3,h4,h5⟩⟩:=ho
 · exact ⟨hl,h1,.inl h2⟩
 · obtain ⟨k1,k2⟩:=hk b h3 ⟨0,n,_,rfl⟩ h5 (h4.lt hw)
   exact ⟨hl,h1,.inr ⟨b,rfl,h3,h4.bT k2,k1⟩⟩
theorem jL {L:List (List Bool)} {p q:List Bool} (hp:p∈L) (hq:q∉L):¬ q=p:=fun e=>hq (by rw [e];exact hp)
def KL:List (List Bool):=[[true,false,true,false],[false,false,true,false],[true,true,false,false],[false,false],[true,true,true],[false,true,true],[true,false,true]]
structure EQ (x b iW r:Nat) (tm0:T Value) (H1:Hp) (tm:T Value) (df:Df) (H:Hp):Prop where
 df:df=[]
 hh:H=H1
 t11:tm.get [true,true,false]=some (.int .u8 (.ofNat x))
 t12:tm.get [false,true,false]=some (bE b 0)
 t14:tm.get [false,false,false]=some (.int .u64 (.ofNat r))
 pP:∀ p∈KL,tm.get p=tm0.get p
theorem aFL {call:Call} (hC:aJX call) {n:Nat} {tv:Value} {text:List Nat} {h0:Hp} (hw0:Wf h0) (htv:Sl 1 h0 tv text.length (dR text)) (hlen:text.length≤1000) (hbyte:∀ x∈text,x<256) {i x:Nat} (hi:i<text.length) (hx:text[i]?=some x) {w:List Nat} (hwl:w.length≤1000) (hwb:∀ x∈w,x<256)
 {e:Rc.En} (he:Rc.Ok e) (hej:e.j<80000) {tm:T Value} {df:Df} {H:Hp} (hst:ES n tv text h0 i w e.j (e.N / 4294967296) (e.N % 4294967296) e.s tm df H) {φ:Ex→T Value→Df→Hp→Prop} {I:Nat→T Value→Df→Hp→Prop}
 (hgo:∀ tm' df' H',ES n tv text h0 (i+1) (w++[x]) (Rc.step (cU n w) e x).j ((Rc.step (cU n w) e x).N / 4294967296) ((Rc.step (cU n w) e x).N % 4294967296) (Rc.step (cU n w) e x).s tm' df' H'→I (i+1) tm' df' H') :
 bC (iP qJ call tm df H) (yJ I φ i):=by
 obtain ⟨rfl,t25,t26,t27,t8,t9,wf,fr,⟨mv,ov,fp,t6,hmod,hfp,t7,hout⟩⟩:=hst
 have hxb:x<256:=hbyte x (List.mem_of_getElem? hx)
 obtain ⟨bt,ot,ct,rfl,hht⟩:=htv.pos (by omega)
 have hbt:bt<h0.next:=hht.lt hw0
 obtain ⟨c,mm,ee,cl,ro,hat,hmm,hcc⟩:=(hht.bT (fr.at_ bt hbt fun h=>h)).get (iH hx)
 have hfb:∀ k,fp k→H.base≤k:=fun k hk=>by rw [fr.base];have:=(hfp k hk).1;have:=hw0.base;omega
 obtain ⟨b,H1,e1,htab,hmod1,wf1,fr1⟩:=Lo hC.adc hC.afc hmod wf hfb
 unfold tbC at e1
 have hg:=uN n
 have hhl:=hg.len w
 have hhb:=hg.byte w hwb
 have hcs:=hC.sum (aS H1 H1.next []) b x (cU n w) htab (by omega) (by omega)
 obtain ⟨ct1,mt1,et1,clt1,rot1,hatb,hmt1,hct1⟩:=htab
 have htot:=Lm (t:=cU n w) (by omega)
 have htot0:=Rc.Jg (cU n w)
 have hcum:=vP (t:=cU n w) (by omega) (k:=x) (by omega)
 have hcnt:=yO (t:=cU n w) (by omega) x
 have hhi:=he.hi
 have hlo:=he.lo
 generalize hT:cU n w=tb at *
 have hmt:=Rc.zR (e:=e) (t:=tb) (c:=x) hhb hxb
 have hms:=Rc.aD0 (e:=e) (t:=tb) (c:=x) he (by omega) hhb hxb
 have hms0:0<e.s / Rc.iW tb*Rc.gO tb x:=hms.1
 have hrle:e.s / Rc.iW tb≤e.s:=Nat.div_le_self _ _
 generalize hR:e.s / Rc.iW tb=R at *
 have q28:Nat.blt i text.length=true:=bU hi
 have hil:Nat.blt i text.length=true:=q28
 have ql1:Nat.blt (ot+i*1) mm=true:=bU (by omega)
 have ql2:c.get (path (ot+i*1))=some (.int .u8 (.ofNat x)):=by rw [Nat.mul_one];exact hcc
 unfold qJ
 refine bC.seq (φ:=fun tm' df' H'=>df'=[]∧H'=H∧tm'.get [false,true,false,false]=some (.bool true)∧∀ p∈KL,tm'.get p=tm.get p) ?_ ?_
 · simp only [↓aQ,A3,reduceCtorEq,t26,t27,q28]
   exact ⟨rfl,rfl,rfl,by simp,fun p hp=>by rw [T.aB,if_neg (jL hp (by decide))]⟩
 rintro tm1 Vw H' ⟨rfl,rfl,t28,o1⟩
 refine bC.seq (φ:=fun tm' df' H2=>df'=[]∧H2=H'∧∀ p∈KL,tm'.get p=tm.get p) ?_ ?_
 · simp only [↓aQ,A3,reduceCtorEq,t28]
   exact ⟨rfl,rfl,rfl,o1⟩
 rintro tm2 df2 H2 ⟨rfl,rfl,o2⟩
 have u25:tm2.get [true,false,true,false]=some (cB bt ot text.length ct):=by rw [o2 _ (by decide)];exact t25
 have u27:tm2.get [true,true,false,false]=some (.int .i64 (.ofNat i)):=by rw [o2 _ (by decide)];exact t27
 have u6:tm2.get [false,false]=some mv:=by rw [o2 _ (by decide)];exact t6
 have u9:tm2.get [true,false,true]=some (.int .u64 (.ofNat e.s)):=by rw [o2 _ (by decide)];exact t9
 have u8':tm2.get [false,true,true]=some (.int .u64 (.ofNat (e.N % 4294967296))):=by rw [o2 _ (by decide)];exact t8
 refine bC.seq (φ:=ES n (cB bt ot text.length ct) text h0 i (w++[x]) (Rc.step tb e x).j ((Rc.step tb e x).N / 4294967296) ((Rc.step tb e x).N % 4294967296) (Rc.step tb e x).s) (bC.block ?_) ?_
 ·
  refine bC.seq (φ:=fun tm' df' H3=>df'=[]∧H3=H2∧tm'.get [true,true,false]=some (.int .u8 (.ofNat x))∧∀ p∈KL,tm'.get p=tm2.get p) ?_ ?_
  · simp only [↓aQ,A3,reduceCtorEq,u25,u27,hat,hil,ql1,ql2]
    exact ⟨rfl,rfl,rfl,by simp,fun p hp=>by rw [T.aB,if_neg (jL hp (by decide))]⟩
  rintro tm3 df3 H3 ⟨rfl,rfl,v11,o3⟩
  have v6:tm3.get [false,false]=some mv:=by rw [o3 _ (by decide)];exact u6
  refine bC.seq (φ:=fun tm' df' H4=>df'=[]∧H4=H1∧tm'.get [true,true,false]=some (.int .u8 (.ofNat x))∧tm'.get [false,true,false]=some (bE b 0)∧tm'.get [true,false,false]=some (.int .u64 (.ofNat (Rc.iW tb)))∧∀ p∈KL,tm'.get p=tm2.get p) ?_ ?_
  · simp only [↓aQ,A3,reduceCtorEq,v6,Ln,e1,iX,nW,oD]
    exact ⟨rfl,rfl,rfl,by simp [v11],by simp,by simp,fun p hp=>by rw [T.aB,if_neg (jL hp (by decide)),T.aB,if_neg (jL hp (by decide))];exact o3 p hp⟩
  rintro tm4 df4 H4 ⟨rfl,rfl,w11,w12,w13,o4⟩
  have w9:tm4.get [true,false,true]=some (.int .u64 (.ofNat e.s)):=by rw [o4 _ (by decide)];exact u9
  have q1:pE .u64 (.ofNat e.s) (.ofNat (Rc.iW tb))=some (.int .u64 (aR .u64 (.ofNat R))):=by rw [← hR];exact tP _ (by omega)
  have q2:aR .u64 (.ofNat R)=.ofNat R:=Eb (by omega)
  refine bC.seq (φ:=EQ x b (Rc.iW tb) R tm2 H4) ?_ ?_
  · simp only [↓aQ,A3,reduceCtorEq,w9,w13,q1,q2]
    exact ⟨rfl,rfl,rfl,by simp [w11],by simp [w12],by simp,fun p hp=>by rw [T.aB,if_neg (jL hp (by decide))];exact o4 p hp⟩
  rintro tm5 df5 H5 ⟨rfl,rfl,x11,x12,x14,o5⟩
  have x8:tm5.get [false,true,true]=some (.int .u64 (.ofNat (e.N % 4294967296))):=by rw [o5 _ (by decide)];exact u8'
  have hmul1:R*Rc.jK tb x<18446744073709551616:=by omega
  have m1:iU .u64 (.ofNat R) (.ofNat (Rc.jK tb x))=some (.int .u64 (aR .u64 (.ofNat (R*Rc.jK tb x)))):=lD _ _ _
  have m2:aR .u64 (.ofNat (R*Rc.jK tb x))=.ofNat (R*Rc.jK tb x):=Eb hmul1
  have m3:aR .u64 (.ofNat (e.N % 4294967296+R*Rc.jK tb x))=.ofNat (e.N % 4294967296+R*Rc.jK tb x):=Eb (by omega)
  have m4:iU .u64 (.ofNat R) (.ofNat (Rc.gO tb x))=some (.int .u64 (aR .u64 (.ofNat (R*Rc.gO tb x)))):=lD _ _ _
  have m5:aR .u64 (.ofNat (R*Rc.gO tb x))=.ofNat (R*Rc.gO tb x):=Eb (by omega)
  have m6:aR .u64 (.ofNat (Rc.gO tb x))=.ofNat (Rc.gO tb x):=Eb (by omega)
  have y1:Nat.ble x 256=true:=cX (by omega)
  have y2:Nat.blt x 256=true:=bU hxb
  have y3:Nat.blt (0+x*1) mt1=true:=bU (by omega)
  have y4:ct1.get (path (0+x*1))=some (.int .u32 (.ofNat (Rc.gO tb x))):=by rw [show 0+x*1=x by omega];exact hct1 x hxb
  refine bC.seq (φ:=fun tm' df' H6=>df'=[]∧H6=H5∧tm'.get [true,true,false]=some (.int .u8 (.ofNat x))∧tm'.get [false,true,true]=some (.int .u64 (.ofNat (e.N % 4294967296+R*Rc.jK tb x)))∧tm'.get [true,false,true]=some (.int .u64 (.ofNat (R*Rc.gO tb x)))∧∀ p∈[[true,false,true,false],[false,false,true,false],[true,true,false,false],[false,false],[true,true,true]],tm'.get p=tm2.get p) ?_ ?_
  · simp only [↓aQ,A3,reduceCtorEq,x8,x11,x12,x14,dI,dJ,aRY,hcs,m1,m2,m3,m4,m5,m6,y1,y2,y3,y4,hatb]
    exact ⟨rfl,rfl,rfl,by simp [x11],by simp,by simp,fun p hp=>by rw [T.aB,if_neg (jL hp (by decide)),T.aB,if_neg (jL hp (by decide))];exact o5 p (by simp only [List.mem_cons,List.not_mem_nil,or_false] at hp;rcases hp with rfl|rfl|rfl|rfl|rfl<;>decide)⟩
  rintro tm6 df6 H6 ⟨rfl,rfl,a11,a8,a9,o6⟩
  have a6:tm6.get [false,false]=some mv:=by rw [o6 _ (by decide)];exact u6
  have a7:tm6.get [true,true,true]=some ov:=by rw [o6 _ (by decide),o2 _ (by decide)];exact t7
  have a25:tm6.get [true,false,true,false]=some (cB bt ot text.length ct):=by rw [o6 _ (by decide)];exact u25
  have a26:tm6.get [false,false,true,false]=some (.int .i64 (.ofNat text.length)):=by rw [o6 _ (by decide),o2 _ (by decide)];exact t26
  have a27:tm6.get [true,true,false,false]=some (.int .i64 (.ofNat i)):=by rw [o6 _ (by decide)];exact u27
  have fr01:Fr (fun _=>False) h0 H6:=fr.trans fr1 fun k hk h=>by have:=(hfp k h).1;omega
  have hfp1:∀ k,grow fp H3 H6 k→h0.next≤k∧k<H6.next:=fun k hk=>by
   have n1:=fr1.next
   have n0:=fr.next
   rcases hk with h|h
   · have:=hfp k h;omega
   · omega
  have hout1:Out 5 1 (fun k=>h0.next≤k∧¬ grow fp H3 H6 k) H6 ov e.j (dR (Rc.pZ e.j (e.N / 4294967296))):=hout.Py wf fun c _ _ hP hlt=>⟨⟨hP.1,fun hg=>by rcases hg with h|h;exact hP.2 h;omega⟩,fr1.at_ c hlt hP.2⟩
  generalize hG:grow fp H3 H6=fp1 at *
  have hN1:(Rc.sB tb e x).N=e.N+R*Rc.jK tb x:=by rw [← hR];rfl
  have hS1:(Rc.sB tb e x).s=R*Rc.gO tb x:=by rw [← hR];rfl
  have hJ1:(Rc.sB tb e x).j=e.j:=rfl
  have htop:=he.top
  generalize hU:R*Rc.jK tb x=U at *
  generalize hV:R*Rc.gO tb x=V at *
  refine bC.seq (φ:=EM n (cB bt ot text.length ct) text h0 i x w e.j ((e.N+U) / 4294967296) ((e.N+U) % 4294967296) (V)) ?_ ?_
  · by_cases hcar:e.N % 4294967296+U<4294967296
    · have g1:Nat.blt (e.N % 4294967296+U) 4294967296=true:=bU hcar
      have d1:(e.N+U) % 4294967296=e.N % 4294967296+U:=by omega
      have d2:(e.N+U) / 4294967296=e.N / 4294967296:=by omega
      simp only [↓aQ,A3,reduceCtorEq,a8,g1]
      exact ⟨rfl,⟨rfl,by simp [a25],by simp [a26],by simp [a27],by rw [d1];simp [T.aB,a8],by simp [a9],wf1,fr01,⟨mv,ov,fp1,by simp [a6],hmod1,hfp1,by simp [a7],by rw [d2];exact hout1⟩⟩,by simp [a11]⟩
    · have g1:Nat.blt (e.N % 4294967296+U) 4294967296=false:=cI (by omega)
      have d1:(e.N+U) % 4294967296=e.N % 4294967296+U - 4294967296:=by omega
      have d2:(e.N+U) / 4294967296=e.N / 4294967296+1:=by omega
      have hq:e.N / 4294967296+1<256 ^ e.j:=by
       rw [← d2]
       refine Nat.div_lt_of_lt_mul ?_
       omega
      obtain ⟨k,y,A,c1,c2,c3,c4,c5⟩:=Rc.Xk e.j (e.N / 4294967296) hq
      have hj0:0<e.j:=by omega
      obtain ⟨ol,oo,⟨on,_⟩|⟨bo,rfl,_,hown,hPb⟩⟩:=hout1
      · omega
      have hbo:bo<H6.next:=hown.lt wf1
      have hbb:H6.base≤bo:=by rw [fr01.base];have:=hw0.base;have:=hPb.1;omega
      have s1:gP .u64 (.ofNat (e.N % 4294967296+U)) (.ofNat 4294967296)=some (.int .u64 (aR .u64 (.ofNat (e.N % 4294967296+U - 4294967296)))):=jI _ (by omega)
      have s2:aR .u64 (.ofNat (e.N % 4294967296+U - 4294967296))=.ofNat (e.N % 4294967296+U - 4294967296):=Eb (by omega)
      have s3:gP .i64 (.ofNat e.j) (.ofNat 1)=some (.int .i64 (aR .i64 (.ofNat (e.j - 1)))):=jI _ (by omega)
      have s4:aR .i64 (.ofNat (e.j - 1))=.ofNat (e.j - 1):=bF (by omega)
      have hF0:Lq 5 H6 bo e.j (Gf A y e.j 0):=hown.fn (by rw [eZ,Rc.iK]) fun p hp=>by
       have hget:(Rc.pZ e.j (e.N / 4294967296))[p]?=some (uO A y e.j 0 p):=by
        rw [c4]
        unfold uO
        by_cases h1:p<A.length
        · rw [if_pos h1,List.getElem?_append_left h1,List.getD_eq_getElem?_getD,List.getElem?_eq_getElem h1];rfl
        · rw [if_neg h1,List.getElem?_append_right (by omega)]
          by_cases h2:p=A.length
          · rw [if_pos h2,h2,Nat.sub_self];rfl
          · rw [if_neg h2,if_pos (by omega),show p - A.length=(p - A.length - 1)+1 by omega,List.getElem?_cons_succ,List.getElem?_replicate,if_pos (by omega)]
       exact iH hget
      simp only [↓aQ,A3,reduceCtorEq,a8,a7,g1,s1,s2,s3,s4]
      generalize hTM:T.set [true,true,true,true] (T.set [false,true,true] (T.set [true,false,true,false,false] tm6 (some (Value.bool true))) (some (Value.int .u64 (.ofNat (e.N % 4294967296+U - 4294967296))))) (some (Value.int .i64 (.ofNat (e.j - 1))))=TM
      refine bC.mT (φ:=fun ex tm df H=>ex=.normal∧EC A y e.j bo (cM 1 e.j) TM H6 k tm df H) (bC.mT (φ:=fun ex tm df H=>ex=.exit 3∧EC A y e.j bo (cM 1 e.j) TM H6 k tm df H) (aRW hbb hbo (by omega) c1 (by omega) c2 ⟨rfl,by rw [← hTM];simp [T.aB,a7],by rw [← hTM];simp [T.aB],fun p _ _=>rfl,wf1,Fr.refl _ _,rfl,hF0⟩) ?_) ?_
      · rintro ex tm df H ⟨rfl,rest⟩;exact ⟨rfl,rest⟩
      rintro ex tm7 df7 H7 ⟨rfl,⟨rfl,b7,b15,oth7,wf7,fr7,nx7,⟨cc,hat7,hc7⟩⟩⟩
      have e1:Nat.blt (e.j - 1 - k) e.j=true:=bU (by omega)
      have e2:Nat.blt (0+(e.j - 1 - k)*1) e.j=true:=bU (by omega)
      have e3:cc.get (path (0+(e.j - 1 - k)*1))=some (.int .u8 (.ofNat y)):=by
       rw [show 0+(e.j - 1 - k)*1=e.j - 1 - k by omega,hc7 _ (by omega)]
       unfold Gf uO
       rw [if_neg (by omega),if_pos (by omega)]
      have e5:Nat.ble (0+(e.j - 1 - k)*1+1) e.j=true:=cX (by omega)
      have w1:aR .u8 (.ofNat (y+1))=.ofNat (y+1):=w8 (by omega)
      have hget:∀ p,p≠[true,true,true,true]→p≠[true,true,false,true,true,true]→p≠[false,true,true]→p≠[true,false,true,false,false]→tm7.get p=tm6.get p:=fun p h1 h2 h3 h4=>by
       rw [oth7 p h1 h2,← hTM,T.aB,if_neg (fun e=>h1 e.symm),T.aB,if_neg (fun e=>h3 e.symm),T.aB,if_neg (fun e=>h4 e.symm)]
      have f8:tm7.get [false,true,true]=some (.int .u64 (.ofNat (e.N % 4294967296+U - 4294967296))):=by rw [oth7 _ (by decide) (by decide),← hTM];simp [T.aB]
      simp only [↓aQ,A3,reduceCtorEq,b7,b15,hat7,e1,e2,e3,e5,w1]
      have hrow:=Ej (e:=5) (h:=H7) (b:=bo) hc7 (0+(e.j - 1 - k)*1) (.int .u8 (.ofNat (y+1)))
      have hown7:=hrow.own (vs:=dR (Rc.pZ e.j (e.N / 4294967296+1))) (by rw [eZ,Rc.iK]) fun p hp=>by
       have hg:(Rc.pZ e.j (e.N / 4294967296+1))[p]?=some (if p=0+(e.j - 1 - k)*1 then y+1 else uO A y e.j k p):=by
        rw [c5]
        by_cases h1:p<A.length
        · rw [if_neg (by omega),List.getElem?_append_left h1]
          unfold uO
          rw [if_pos h1,List.getD_eq_getElem?_getD,List.getElem?_eq_getElem h1];rfl
        · rw [List.getElem?_append_right (by omega)]
          by_cases h2:p=A.length
          · rw [if_pos (by omega),h2,Nat.sub_self];rfl
          · rw [if_neg (by omega),show p - A.length=(p - A.length - 1)+1 by omega,List.getElem?_cons_succ,List.getElem?_replicate,if_pos (by omega)]
            unfold uO
            rw [if_neg h1,if_neg h2,if_neg (by omega)]
       rw [iH hg]
       by_cases h3:p=0+(e.j - 1 - k)*1
       · rw [if_pos h3,if_pos h3]
       · rw [if_neg h3,if_neg h3];rfl
      have wf8:=wf7.put (b:=bo) (by omega) (some (.row (aL [.int .u8 (.ofNat (y+1))] (0+(e.j - 1 - k)*1) cc fun t=>t) e.j 5 false false))
      have fr8:Fr (fun k=>k=bo) H6 (H7.put bo (some (.row (aL [.int .u8 (.ofNat (y+1))] (0+(e.j - 1 - k)*1) cc fun t=>t) e.j 5 false false))):=fr7.cJ _ (fun _=>rfl) hbb
      refine ⟨rfl,⟨rfl,by rw [hget _ (by decide) (by decide) (by decide) (by decide)];exact a25,by rw [hget _ (by decide) (by decide) (by decide) (by decide)];exact a26,by rw [hget _ (by decide) (by decide) (by decide) (by decide)];exact a27,by rw [d1];exact f8,by rw [hget _ (by decide) (by decide) (by decide) (by decide)];exact a9,wf8,fr01.trans fr8 fun c hc e=>by subst e;have:=hPb.1;omega,⟨mv,cB bo 0 e.j (cM 1 e.j),fp1,by rw [hget _ (by decide) (by decide) (by decide) (by decide)];exact a6,hmod1.bT fun c hc=>fr8.at_ c (hfp1 c hc).2 fun e=>hPb.2 (by rw [← e];exact hc),fun c hc=>⟨(hfp1 c hc).1,by have:=(hfp1 c hc).2;have:=fr8.next;omega⟩,by rw [hget _ (by decide) (by decide) (by decide) (by decide)];exact a7,?_⟩⟩,by rw [hget _ (by decide) (by decide) (by decide) (by decide)];exact a11⟩
      rw [d2]
      exact ⟨by rw [eZ,Rc.iK,Nat.mul_one],jJ _,.inr ⟨bo,rfl,hj0,hown7,hPb⟩⟩
  rintro tm7 df7 H7 ⟨⟨rfl,b25,b26,b27,b8,b9,wf7,fr7,⟨mv7,ov7,fp7,b6,hmod7,hfp7,b7,hout7⟩⟩,b11⟩
  obtain ⟨d,hd,hd1,hd2,hd3⟩:=Rc.yQ (e:=Rc.sB tb e x) (by rw [hS1];exact hms0)
  have hst:Rc.step tb e x=⟨(Rc.sB tb e x).N*256 ^ d,(Rc.sB tb e x).j+d,(Rc.sB tb e x).s*256 ^ d⟩:=hd3
  have n7:=fr7.next
  have hw0b:=hw0.base
  refine bC.seq (φ:=fun tm df H=>EN (Rc.sB tb e x) (fun k=>h0.next≤k∧¬ fp7 k) tm7 H7 d tm df H) (bC.Be ?_) ?_
  · refine bC.mono (aRX (e:=Rc.sB tb e x) (P:=fun k=>h0.next≤k∧¬ fp7 k) (tm0:=tm7) (h:=H7) hd hd1 hd2 (by rw [hJ1];omega) (fun k hk=>by rw [fr7.base];have:=hk.1;omega) (fun k hk=>⟨by omega,fun h=>by have:=(hfp7 k h).2;omega⟩) ⟨rfl,⟨ov7,b7,?_⟩,?_,?_,fun p _ _ _ _=>rfl,wf7,Fr.refl _ _⟩) fun ex tm df H hh=>⟨hh.1,hh.2⟩
    · rw [hN1,hJ1,Nat.pow_zero,Nat.mul_one];exact hout7
    · rw [hN1,Nat.pow_zero,Nat.mul_one];exact b8
    · rw [hS1,Nat.pow_zero,Nat.mul_one];exact b9
  rintro tm8 df8 H8 ⟨rfl,⟨ov8,c7,hout8⟩,c8,c9,oth8,wf8,fr8⟩
  have n8:=fr8.next
  have hmod8:vQ n H8 mv7 w fp7:=hmod7.bT fun c hc=>fr8.at_ c (hfp7 c hc).2 fun hP=>hP.2 hc
  obtain ⟨H9,e9,hmod9,wf9,fr9⟩:=aD3 hC.ads hC.afs hmod8 wf8 (fun k hk=>by rw [fr8.base,fr7.base];have:=(hfp7 k hk).1;omega) (by omega) hxb
  unfold tbS at e9
  have n9:=fr9.next
  have c6:tm8.get [false,false]=some mv7:=by rw [oth8 _ (by decide) (by decide) (by decide) (by decide)];exact b6
  have c11:tm8.get [true,true,false]=some (.int .u8 (.ofNat x)):=by rw [oth8 _ (by decide) (by decide) (by decide) (by decide)];exact b11
  have c25:tm8.get [true,false,true,false]=some (cB bt ot text.length ct):=by rw [oth8 _ (by decide) (by decide) (by decide) (by decide)];exact b25
  have c26:tm8.get [false,false,true,false]=some (.int .i64 (.ofNat text.length)):=by rw [oth8 _ (by decide) (by decide) (by decide) (by decide)];exact b26
  have c27:tm8.get [true,true,false,false]=some (.int .i64 (.ofNat i)):=by rw [oth8 _ (by decide) (by decide) (by decide) (by decide)];exact b27
  simp only [↓aQ,A3,reduceCtorEq,c6,c11,Ln,e9]
  refine ⟨rfl,rfl,c25,c26,c27,by rw [hst];exact c8,by rw [hst];exact c9,wf9,?_,⟨mv7,ov8,grow fp7 H8 H9,c6,hmod9,fun k hk=>?_,c7,?_⟩⟩
  · exact (fr7.trans fr8 fun k hk h=>by have:=h.1;omega).trans fr9 fun k hk h=>by have:=(hfp7 k h).1;omega
  · rcases hk with h|h
    · have:=hfp7 k h;omega
    · omega
  · rw [hst]
    exact hout8.Py wf8 fun c _ _ hP hlt=>⟨⟨hP.1,fun hg=>by rcases hg with h|h;exact hP.2 h;omega⟩,fr9.at_ c hlt hP.2⟩
 · rintro tm9 df9 H9 hes
   obtain ⟨rfl,t25,t26,t27,t8,t9,wf,fr,⟨mv,ov,fp,t6,hmod,hfp,t7,hout⟩⟩:=hes
   have w1:aR .i64 (.ofNat (i+1))=.ofNat (i+1):=bF (by omega)
   simp only [↓aQ,A3,reduceCtorEq,t27,w1]
   exact .go (hgo _ _ _ ⟨rfl,by simp [t25],by simp [t26],by simp,by simp [t8],by simp [t9],wf,fr,⟨mv,ov,fp,by simp [t6],hmod,hfp,by simp [t7],hout⟩⟩)
noncomputable def slT (v w:Value):Option Value:=qY 1 (.val v) none (some (.val w)) none [] .nil
theorem aJY (x y:OD) (lo:List Value) (tm:T Value):qY 1 x none (some y) none lo tm=slT (bW x lo tm) (bW y lo tm):=rfl
theorem Lr {b o l L hi:Nat} (h1:hi≤L) (hL:L<1000000):slT (cB b o l (cM 1 L)) (A0 hi)=some (cB b o hi (cM 1 L)):=by
 obtain ⟨s1,s2,s3⟩:=Dy 1 L (by unfold eY;omega)
 generalize cM 1 L=k at *
 have e:slT (cB b o l k) (A0 hi)=gQ (some (.val (A0 hi))) [] .nil l (sure k) (fun hi=>gQ none [] .nil 0 hi (fun lw=>bif eU k then Qv b o 1 lw hi k else qW b o 1 lw hi k) none) none:=rfl
 rw [e,pX,z_v,tM,s1,cX h1,cond_true,yL,s2,cond_true]
 unfold Qv
 rw [Nat.beq_refl,cond_true]
theorem Lt (l:List Nat):Rc.eD l=[]∨∃ x,(Rc.eD l)[(Rc.eD l).length - 1]?=some x∧x≠0:=by
 unfold Rc.eD
 have h:=List.head?_dropWhile_not (fun x:Nat=>x == 0) l.reverse
 cases hd:l.reverse.dropWhile (fun x=>x == 0) with
 | nil=>left;rfl
 | cons y r =>
  right
  rw [hd] at h
  refine ⟨y,?_,fun e=>?_⟩
  · rw [List.length_reverse,List.getElem?_reverse (by simp)]
    simp
  · subst e
    simp at h
structure TZ (b L:Nat) (vs:List Nat) (h:Hp) (m:Nat) (tm:T Value) (df:Df) (H:Hp):Prop where
 df:df=[]
 hh:H=h
 t0:tm.get []=some (cB b 0 (vs.length - m) (cM 1 L))
 t1:tm.get [true]=some (A1 0)
theorem aFM {call:Call} {cd:cE} {h:Hp} {b L:Nat} {vs:List Nat} (hv:Has h b 0 (dR vs)) (hL:vs.length≤L) (hL2:L<1000000):dD Ef call cd [cB b 0 vs.length (cM 1 L),A1 0] h=.val (cB b 0 (Rc.eD vs).length (cM 1 L)) h:=by
 have key:Yields (dD Ef call cd [cB b 0 vs.length (cM 1 L),A1 0] h) (fun v H=>v=cB b 0 (Rc.eD vs).length (cM 1 L)∧H=h):=by
  obtain ⟨k,hk⟩:=Rc.oQ vs
  have hkl:vs.length=(Rc.eD vs).length+k:=by
   have:=congrArg List.length hk
   rw [List.length_append,List.length_replicate] at this
   exact this
  obtain ⟨c,mm,e,cl,ro,hat,hmm,hc⟩:=hv
  rw [eZ] at hmm hc
  refine aP rfl ?_
  simp only [↓aQ,A3,reduceCtorEq]
  refine bC.mT (φ:=fun e tm df H=>e=.normal∧TZ b L vs h k tm df H) (bC.mT (φ:=fun e tm df H=>e=.exit 0∧TZ b L vs h k tm df H) ?_ ?_) ?_
  · refine cT (n:=k) (by omega) (TZ b L vs h) ?_ ?_ ?_
    · intro m tm df H hm p
      obtain ⟨rfl,rfl,t0,t1⟩:=p
      have hz:vs[vs.length - m - 1]?=some 0:=by
       rw [hk,List.getElem?_append_right (by rw [← hk];omega),List.getElem?_replicate,if_pos (by rw [← hk];omega)]
      have q1:Nat.blt 0 (vs.length - m)=true:=bU (by omega)
      have s1:gP .i64 (.ofNat (vs.length - m)) (.ofNat 1)=some (.int .i64 (aR .i64 (.ofNat (vs.length - m - 1)))):=jI _ (by omega)
      have s2:aR .i64 (.ofNat (vs.length - m - 1))=.ofNat (vs.length - m - 1):=bF (by omega)
      have q2:Nat.blt (vs.length - m - 1) (vs.length - m)=true:=bU (by omega)
      have q3:Nat.blt (0+(vs.length - m - 1)*1) mm=true:=bU (by omega)
      have q4:c.get (path (0+(vs.length - m - 1)*1))=some (A1 0):=by
       rw [Nat.mul_one,hc _ (by omega)];exact iH hz
      have q5:Nat.beq 0 0=true:=rfl
      have q6:=Lr (b:=b) (o:=0) (l:=vs.length - m) (L:=L) (hi:=vs.length - m - 1) (by omega) hL2
      simp only [↓aQ,A3,reduceCtorEq,sS,t0,t1,hat,q1,s1,s2,q2,q3,q4,q5,aJY,q6]
      exact .go ⟨rfl,rfl,by simp [Nat.sub_sub],by simp [t1]⟩
    · intro tm df H p
      obtain ⟨rfl,rfl,t0,t1⟩:=p
      have hlen:vs.length - k=(Rc.eD vs).length:=by omega
      rw [hlen] at t0
      rcases Lt vs with h0|⟨x,hx,hx0⟩
      · have q1:Nat.blt 0 (Rc.eD vs).length=false:=by rw [h0];rfl
        simp only [↓aQ,A3,reduceCtorEq,sS,t0,t1,q1]
        exact .ex ⟨rfl,rfl,rfl,by rw [hlen];simp [T.aB,t0],by simp [t1]⟩
      · have hpos:0<(Rc.eD vs).length:=by have:=(List.getElem?_eq_some_iff.1 hx).1;omega
        have hx2:vs[(Rc.eD vs).length - 1]?=some x:=by
         have hk2:=congrArg (fun l:List Nat=>l[(Rc.eD vs).length - 1]?) hk
         refine hk2.trans ?_
         show (Rc.eD vs++List.replicate k 0)[(Rc.eD vs).length - 1]?=_
         rw [List.getElem?_append_left (by omega)]
         exact hx
        have q1:Nat.blt 0 (Rc.eD vs).length=true:=bU hpos
        have s1:gP .i64 (.ofNat (Rc.eD vs).length) (.ofNat 1)=some (.int .i64 (aR .i64 (.ofNat ((Rc.eD vs).length - 1)))):=jI _ (by omega)
        have s2:aR .i64 (.ofNat ((Rc.eD vs).length - 1))=.ofNat ((Rc.eD vs).length - 1):=bF (by omega)
        have q2:Nat.blt ((Rc.eD vs).length - 1) (Rc.eD vs).length=true:=bU (by omega)
        have q3:Nat.blt (0+((Rc.eD vs).length - 1)*1) mm=true:=bU (by omega)
        have q4:c.get (path (0+((Rc.eD vs).length - 1)*1))=some (A1 x):=by
         rw [Nat.mul_one,hc _ (by omega)];exact iH hx2
        have q5:Nat.beq x 0=false:=dO hx0
        simp only [↓aQ,A3,reduceCtorEq,sS,t0,t1,hat,q1,s1,s2,q2,q3,q4,q5]
        exact .ex ⟨rfl,rfl,rfl,by rw [hlen];simp [T.aB,t0],by simp [t1]⟩
    · exact ⟨rfl,rfl,by simp [cN],by simp [cP]⟩
  · rintro e tm df H ⟨rfl,rest⟩;exact ⟨rfl,rest⟩
  rintro ex tm df H ⟨rfl,⟨rfl,rfl,t0,t1⟩⟩
  have hlen:vs.length - k=(Rc.eD vs).length:=by omega
  rw [hlen] at t0
  simp only [↓aQ,A3,reduceCtorEq,t0]
  refine .ret ?_
  simp only [↓aQ,A3,reduceCtorEq]
 obtain ⟨v,H,e,rfl,rfl⟩:=key.get
 exact e
namespace Rc
theorem Xl (j N:Nat):pZ (j+4) N=pZ j (N / 4294967296)++[N % 4294967296 / 16777216,N % 4294967296 / 65536 % 256,N % 4294967296 / 256 % 256,N % 4294967296 % 256]:=by
 rw [rJ,rJ,rJ,rJ,show N / 256 / 256 / 256 / 256=N / 4294967296 by omega,show N / 256 / 256 / 256 % 256=N % 4294967296 / 16777216 by omega,show N / 256 / 256 % 256=N % 4294967296 / 65536 % 256 by omega,show N / 256 % 256=N % 4294967296 / 256 % 256 by omega,show N % 256=N % 4294967296 % 256 by omega]
 simp
theorem Lu (h:List Nat→List Nat):st h []=start:=rfl
theorem aRZ:∀ (n:Nat) (e:En),(norm n e).j≤e.j+n:=by
 intro n
 induction n with
 | zero=>intro e;exact Nat.le_refl _
 | succ n ih =>
  intro e
  show (if e.s<16777216 then norm n ⟨e.N*256,e.j+1,e.s*256⟩ else e).j≤_
  split
  · have:=ih ⟨e.N*256,e.j+1,e.s*256⟩
    have e2:(⟨e.N*256,e.j+1,e.s*256⟩:En).j=e.j+1:=rfl
    omega
  · omega
theorem aVa (h:List Nat→List Nat):∀ (r w:List Nat) (e:En),(run h w r e).j≤e.j+4*r.length:=by
 intro r
 induction r with
 | nil=>intro w e;exact Nat.le_refl _
 | cons c r ih =>
  intro w e
  have h1:=ih (w++[c]) (step (h w) e c)
  have h2:=aRZ 4 (sB (h w) e c)
  have h3:(sB (h w) e c).j=e.j:=rfl
  have h4:(step (h w) e c).j=(norm 4 (sB (h w) e c)).j:=rfl
  show (run h (w++[c]) r (step (h w) e c)).j≤_
  rw [List.length_cons]
  omega
theorem aFN (h:List Nat→List Nat) (w:List Nat):(st h w).j≤4*w.length:=by
 have:=aVa h w [] start
 have e:start.j=0:=rfl
 unfold st
 omega
end Rc
theorem lI {l:List Nat} {i x:Nat} (hx:l[i]?=some x):l.take (i+1)=l.take i++[x]:=by
 rw [List.take_add_one,hx];rfl
def Sq (call:Call) (n:Nat):Prop:=∀ H,Wf H→Yields (call 106 [.int .i64 (.ofNat n)] H) (aBy n H)
def aQQ (call:Call):Prop:=∀ H b L vs,Has H b 0 (dR vs)→vs.length≤L→L<1000000→call 108 [cB b 0 vs.length (cM 1 L),.string (jM [0])] H=.val (cB b 0 (Rc.eD vs).length (cM 1 L)) H
def aJZ (n:Nat) (text:List Nat) (h:Hp) (r:Value) (H:Hp):Prop:=∃ v,r=.tuple ⟨[v,.int .i64 (.ofNat 0)]⟩∧Sl 1 H v (Rc.enc (cU n) text).length (dR (Rc.enc (cU n) text))∧(∀ c,gY v c→h.next≤c∧c<H.next)∧Wf H∧Fr (fun _=>False) h H
theorem vQ.form {n:Nat} {h:Hp} {m:Value} {w:List Nat} {fp:Nat→Prop} (hm:vQ n h m w fp):∃ t v,m=.iface t v:=by
 rcases hm with ⟨_,b,rfl,_⟩|⟨_,a,mb,l,rfl,_⟩<;>exact ⟨_,_,rfl⟩
theorem Lv {call:Call} {cd:cE} {n:Nat} {tv:Value} {text:List Nat} {h:Hp} (hC:aJX call) (hB:Sq call n) (hT:aQQ call) (hw:Wf h) (htv:Sl 1 h tv text.length (dR text)) (hlen:text.length≤1000) (hbyte:∀ x∈text,x<256) :
 Yields (dD Gd call cd [.int .i64 (.ofNat n),tv] h) (aJZ n text h):=by
 obtain ⟨mv,H1,e1,fp,hmod,wf1,fr1,hfp⟩:=(hB h hw).get
 obtain ⟨ty,vv,rfl⟩:=hmod.form
 have hl:=htv.len
 have q1:Nat.blt 65536 text.length=false:=cI (by omega)
 have hg:=uN n
 refine aP rfl ?_
 simp only [↓aQ,A3,reduceCtorEq,cN,cP,e1,zP,aBB,hl,q1]
 refine bC.mT (φ:=Ho fun ex tm df H=>ex=.normal∧ES n tv text h text.length (text.take text.length) (Rc.st (cU n) text).j ((Rc.st (cU n) text).N / 4294967296) ((Rc.st (cU n) text).N % 4294967296) (Rc.st (cU n) text).s tm df H)
  (bC.mT (φ:=Ho fun ex tm df H=>ex=.exit 1∧ES n tv text h text.length (text.take text.length) (Rc.st (cU n) text).j ((Rc.st (cU n) text).N / 4294967296) ((Rc.st (cU n) text).N % 4294967296) (Rc.st (cU n) text).s tm df H) ?_ ?_) ?_
 · refine cT (n:=text.length) (by omega) (fun i tm df H=>ES n tv text h i (text.take i) (Rc.st (cU n) (text.take i)).j ((Rc.st (cU n) (text.take i)).N / 4294967296) ((Rc.st (cU n) (text.take i)).N % 4294967296) (Rc.st (cU n) (text.take i)).s tm df H) ?_ ?_ ?_
   · intro i tm df H hi hI
     obtain ⟨x,hx⟩:∃ x,text[i]?=some x:=⟨text[i],List.getElem?_eq_getElem hi⟩
     have hwb:∀ y∈text.take i,y<256:=fun y hy=>hbyte y (List.mem_of_mem_take hy)
     have hwl:(text.take i).length≤1000:=by rw [List.length_take];omega
     have hok:=Rc.Ll hg hwb (by omega)
     have hj:=Rc.aFN (cU n) (text.take i)
     refine aFL hC hw htv hlen hbyte hi hx hwl hwb hok (by omega) hI fun tm' df' H' hes=>?_
     show ES n tv text h (i+1) (text.take (i+1)) _ _ _ _ tm' df' H'
     rw [lI hx,Rc.Eg]
     exact hes
   · intro tm df H hI
     obtain ⟨rfl,t25,t26,t27,t8,t9,wf,fr,⟨m,ov,fp',t6,a1,a2,t7,a3⟩⟩:=hI
     rw [List.take_length] at t8 t9 a1 a3
     have e1:Nat.blt text.length text.length=false:=cI (Nat.le_refl _)
     unfold qJ
     simp only [↓aQ,A3,reduceCtorEq,t26,t27,e1]
     refine .ex ⟨rfl,⟨rfl,by simp [t25],by simp [t26],by simp [t27],by simp [t8],by simp [t9],wf,fr,⟨m,ov,fp',by simp [t6],by rw [List.take_length];exact a1,a2,by simp [t7],a3⟩⟩⟩
   · refine ⟨rfl,by simp [cP],by simp,by simp,?_,?_,wf1,fr1,⟨_,_,fp,by simp<;>rfl,hmod,hfp,by simp<;>rfl,?_⟩⟩
     · simp [T.aB,Rc.Lu,Rc.start]
     · simp [T.aB,Rc.Lu,Rc.start]
     · exact Out.nil
 · rintro ex tm df H ⟨⟨rfl,rest⟩⟩;exact ⟨rfl,rest⟩
 rintro ex tm df H2 ⟨⟨rfl,rfl,t25,t26,t27,t8,t9,wf2,fr2,⟨m,ov,fp',t6,a1,a2,t7,hout⟩⟩⟩
 have hst:=Rc.Ll hg hbyte (by omega:text.length≤2000)
 have hjl:=Rc.aFN (cU n) text
 generalize hS:Rc.st (cU n) text=S at *
 generalize hlo:S.N % 4294967296=lo at *
 have hlo2:lo<4294967296:=by rw [← hlo];exact Nat.mod_lt _ (by decide)
 have r1:aR .u8 (.ofNat (lo / 2 ^ xU 24 64))=.ofNat (lo / 16777216):=by rw [show lo / 2 ^ xU 24 64=lo / 16777216 from rfl];exact w8 (by omega)
 have r2:aR .u8 (.ofNat (lo / 2 ^ xU 16 64))=.ofNat (lo / 65536 % 256):=nD _
 have r3:aR .u8 (.ofNat (lo / 2 ^ xU 8 64))=.ofNat (lo / 256 % 256):=nD _
 have r4:aR .u8 (.ofNat lo)=.ofNat (lo % 256):=nD _
 generalize hV4:[lo / 16777216,lo / 65536 % 256,lo / 256 % 256,lo % 256]=V4
 have hR4:[Value.int .u8 (.ofNat (lo / 16777216)),.int .u8 (.ofNat (lo / 65536 % 256)),.int .u8 (.ofNat (lo / 256 % 256)),.int .u8 (.ofNat (lo % 256))]=dR V4:=by rw [← hV4];rfl
 have hsl:Sl 1 (H2.new (aT (dR V4) 4 5 true)) (cB H2.next 0 4 4) 4 (dR V4):=⟨by rw [← hV4];rfl,.inr ⟨_,_,_,rfl,by omega,fS (n:=4) (e:=5) (cl:=true) (by rw [aM,if_pos rfl]) (by rw [← hV4];exact Nat.le_refl _)⟩⟩
 have ho':Out 5 1 (fun k=>h.next≤k) (H2.new (aT (dR V4) 4 5 true)) ov S.j (dR (Rc.pZ S.j (S.N / 4294967296))):=hout.Py wf2 fun c _ _ hP hlt=>⟨hP.1,by rw [aM,if_neg (by omega)]⟩
 have n2:=fr2.next
 have hwb:=hw.base
 obtain ⟨v',H3,ea,ho3,wf3,nx3,fr3,_⟩:=vO (wf2.new _) ho' hsl (jJ _) (by omega) (by omega) (fun k hk=>by rw [dX,fr2.base];omega) (by show h.next≤H2.next+1;omega)
 rw [← lO,← hV4,← hlo,← Rc.Xl] at ho3
 obtain ⟨ol,oo,⟨on,_⟩|⟨bo,rfl,_,hown,hPb⟩⟩:=ho3
 · omega
 have htr:=hT H3 bo (S.j+4) (Rc.pZ (S.j+4) S.N) hown.has (by rw [Rc.iK];exact Nat.le_refl _) (by omega)
 rw [Rc.iK] at htr
 have qb:Nat.ble (0+1) 4=true:=rfl
 have qb1:Nat.ble (1+1) 4=true:=rfl
 have qb2:Nat.ble (2+1) 4=true:=rfl
 have qb3:Nat.ble (3+1) 4=true:=rfl
 have qv:(dR V4).length=4:=by rw [← hV4];rfl
 simp only [↓aQ,A3,reduceCtorEq,t7,t8,Ea,aOo,r1,r2,r3,r4,hR4,gE,qb,qb1,qb2,qb3,qv,ea,htr]
 refine .ret ?_
 simp only [iO,↓aQ,A3,reduceCtorEq]
 have htz:Rc.enc (cU n) text=Rc.eD (Rc.pZ (S.j+4) S.N):=by unfold Rc.enc;rw [hS]
 rw [← htz]
 obtain ⟨k,hk⟩:=Rc.oQ (Rc.pZ (S.j+4) S.N)
 rw [← htz] at hk
 have htake:(dR (Rc.pZ (S.j+4) S.N)).take (Rc.enc (cU n) text).length=dR (Rc.enc (cU n) text):=by
  rw [Ec]
  have:=congrArg (List.take (Rc.enc (cU n) text).length) hk
  rw [List.take_left] at this
  rw [this]
 refine ⟨_,rfl,⟨by rw [eZ,Nat.mul_one],?_⟩,fun c hc=>?_,wf3,(fr2.dE _).trans fr3 fun c hc h=>by have:=(hout.fE h.1 h.2).1;omega⟩
 · by_cases h0:(Rc.enc (cU n) text).length=0
   · exact .inl ⟨h0,.inr ⟨bo,0,_,by rw [h0]⟩⟩
   · refine .inr ⟨bo,0,_,rfl,by omega,?_⟩
     have:=hown.has.take (Rc.enc (cU n) text).length
     rw [htake] at this
     exact this
 · have:=fB hc
   subst this
   exact ⟨hPb,hown.lt wf3⟩
theorem aOC (x i:OD) (lo:List Value) (tm:T Value):xY x i lo tm=lP (bW i lo tm) (fun i=>pT (bW x lo tm) (fun s=>eC (Jx (bl s) i) (fun b=>some (A1 b.toNat)) none) none) none:=by
 unfold xY;simp only [lY];rfl
def aJ1 (call:Call):Prop:=∀ H b L vs,Has H b 0 (dR vs)→vs.length≤L→L<1000000→call 172 [cB b 0 vs.length (cM 1 L),A1 0] H=.val (cB b 0 (Rc.eD vs).length (cM 1 L)) H
theorem aJ2 {call:Call} {cd:cE} (hT:aJ1 call) {h:Hp} {b L:Nat} {vs:List Nat} (hv:Has h b 0 (dR vs)) (hL:vs.length≤L) (hL2:L<1000000):dD Jh call cd [cB b 0 vs.length (cM 1 L),.string (jM [0])] h=.val (cB b 0 (Rc.eD vs).length (cM 1 L)) h:=by
 have key:Yields (dD Jh call cd [cB b 0 vs.length (cM 1 L),.string (jM [0])] h) (fun v H=>v=cB b 0 (Rc.eD vs).length (cM 1 L)∧H=h):=by
  have e1:=hT h b L vs hv hL hL2
  have q1:Uk (bl (jM [0])) (bl (jM []))=false:=rfl
  have q2:(bl (jM [0])).length=1:=rfl
  have q3:Jx (bl (jM [0])) 0=some 0:=rfl
  have q4:Nat.beq 1 1=true:=rfl
  have q5:Nat.blt 0 128=true:=rfl
  have q6:UInt8.toNat 0=0:=rfl
  have q7:Uk [0] []=false:=rfl
  have q8:([0]:List UInt8).length=1:=rfl
  have q9:Jx [0] 0=some 0:=rfl
  refine aP rfl ?_
  by_cases h0:vs.length=0
  · have hvs:vs=[]:=List.eq_nil_of_length_eq_zero h0
    subst hvs
    have qe:Nat.beq ([]:List Nat).length 0=true:=rfl
    have qt:(Rc.eD []).length=0:=rfl
    simp only [↓aQ,A3,reduceCtorEq,cN,cP,qe]
    refine .ret ?_
    simp only [↓aQ,A3,reduceCtorEq]
    rw [qt]
    trivial
  · have qe:Nat.beq vs.length 0=false:=dO h0
    simp only [↓aQ,A3,reduceCtorEq,cN,cP,qe,q1,q2,q3,q4,q5,q6,q7,q8,q9,aOC,e1]
    refine .ret ?_
    simp only [↓aQ,A3,reduceCtorEq]
 obtain ⟨v,H,e,rfl,rfl⟩:=key.get
 exact e
noncomputable def slF (k:Nat) (v:Value):Option Value:=qY 1 (.val v) (some (.val (A0 k))) none none [] .nil
theorem aVb (k:Nat) (x:OD) (lo:List Value) (tm:T Value):qY 1 x (some (.val (A0 k))) none none lo tm=slF k (bW x lo tm):=rfl
theorem Ly {k b o l c:Nat} (hk:k≤l) (hc:c<eY):slF k (cB b o l c)=some (if k=c then cB b o 0 0 else cB b (o+k) (l - k) (c - k)):=by
 have e1:eU c=false:=eN hc
 have e2:sure c=c:=by unfold sure;rw [e1];rfl
 have e:slF k (cB b o l c)=gQ none [] .nil l (sure c) (fun hi=>gQ (some (.val (A0 k))) [] .nil 0 hi (fun lw=>bif eU c then Qv b o 1 lw hi c else qW b o 1 lw hi c) none) none:=rfl
 rw [e,yL,pX,z_v,tM,cX hk,cond_true,e1,cond_false]
 unfold qW
 by_cases h:k=c
 · rw [h,Nat.beq_refl,cond_true,if_pos rfl]
 · rw [dO h,cond_false,if_neg h]
   unfold xV
   rw [bD,bD,bD]
   show some (cB b (o+k*1) (l - k) (c - k))=_
   rw [Nat.mul_one]
def iL (h:Hp) (v:Value) (xs:List Nat):Prop:=(xs=[]∧(v=.slice none 0 0∨∃ b o c,v=cB b o 0 c∧c<eY))∨∃ b o c,v=cB b o xs.length c∧0<xs.length∧xs.length≤c∧c<eY∧Has h b o (dR xs)
theorem iL.len {h:Hp} {v:Value} {xs:List Nat} (ho:iL h v xs):rW v (fun _ _ l _=>some (A0 l)) (fun l _=>some (A0 l)) none=some (A0 xs.length):=by
 rcases ho with ⟨rfl,rfl|⟨b,o,c,rfl,_⟩⟩|⟨b,o,c,rfl,_⟩<;>rfl
theorem iL.bT {h H:Hp} {v:Value} {xs:List Nat} (ho:iL h v xs) (e:∀ c,0<xs.length→gY v c→H.at c=h.at c):iL H v xs:=by
 rcases ho with h1|⟨b,o,c,rfl,h1,h2,h3,h4⟩
 · exact .inl h1
 · exact .inr ⟨b,o,c,rfl,h1,h2,h3,h4.bT (e b h1 ⟨_,_,_,rfl⟩)⟩
theorem iL.cut {h:Hp} {v:Value} {xs:List Nat} (ho:iL h v xs) {k:Nat} (h0:0<k) (hk:k≤xs.length):∃ b o c v',v=cB b o xs.length c∧Has h b o (dR xs)∧slF k v=some v'∧iL h v' (xs.drop k)∧∀ c,gY v' c→c=b:=by
 rcases ho with ⟨rfl,_⟩|⟨b,o,c,rfl,h1,h2,h3,h4⟩
 · simp at hk;omega
 · refine ⟨b,o,c,_,rfl,h4,Ly hk h3,?_,fun c' hc=>?_⟩
   · by_cases e:k=c
     · rw [if_pos e]
       exact .inl ⟨List.drop_of_length_le (by omega),.inr ⟨b,o,0,rfl,by unfold eY;omega⟩⟩
     · rw [if_neg e]
       by_cases e2:k=xs.length
       · exact .inl ⟨List.drop_of_length_le (by omega),.inr ⟨b,o+k,c - k,by rw [e2,Nat.sub_self],by omega⟩⟩
       · refine .inr ⟨b,o+k,c - k,by rw [List.length_drop],by rw [List.length_drop];omega,by rw [List.length_drop];omega,by omega,?_⟩
         rw [← Sd]
         exact h4.drop (by rw [eZ];exact hk)
   · by_cases e:k=c
     · rw [if_pos e] at hc;exact fB hc
     · rw [if_neg e] at hc;exact fB hc
theorem iL.one {h:Hp} {v:Value} {xs:List Nat} (ho:iL h v xs):bY [v]=true:=by
 rcases ho with ⟨rfl,rfl|⟨b,o,c,rfl,_⟩⟩|⟨b,o,c,rfl,_⟩<;>rfl
def Af (h:Hp) (bx:Nat) (v:Value):Prop:=∃ c e cl,h.at bx=some (.row c 1 e cl false)∧c.get (path 0)=some v
def aQR (bx:Nat) (h:Hp) (v:Value) (xs:List Nat) (r:Value) (H:Hp):Prop:=∃ v',r=.int .u64 (.ofNat (xs.getD 0 0))∧Af H bx v'∧iL H v' (xs.drop 1)∧Wf H∧Fr (fun k=>k=bx) h H∧H.next=h.next∧∀ c,0<(xs.drop 1).length→gY v' c→gY v c
theorem aJ3 {call:Call} {cd:cE} {h:Hp} {bx:Nat} {v:Value} {xs:List Nat} (hw:Wf h) (hb:h.base≤bx) (hbx:Af h bx v) (hv:iL h v xs) (hne:∀ c,0<xs.length→gY v c→c≠bx) (hbyte:∀ x∈xs,x<256):Yields (dD Sg call cd [bE bx 0] h) (aQR bx h v xs):=by
 have hl:=hv.len
 obtain ⟨cc,e,cl,hat,hc⟩:=hbx
 have hlt:=hw.lt hat
 have q0:Nat.blt 0 1=true:=rfl
 have qn:Nat.ble (0+1) 1=true:=rfl
 refine aP rfl ?_
 by_cases h0:xs.length=0
 · have hx:xs=[]:=List.eq_nil_of_length_eq_zero h0
   subst hx
   have q1:Nat.beq ([]:List Nat).length 0=true:=rfl
   simp only [↓aQ,A3,reduceCtorEq,dQ,hat,q0,hc,hl,q1]
   refine .ret ?_
   simp only [↓aQ,A3,reduceCtorEq]
   exact ⟨v,rfl,⟨cc,e,cl,hat,hc⟩,hv,hw,Fr.refl _ _,rfl,fun c hc=>by simp at hc⟩
 · obtain ⟨b,o,c,v',rfl,hhas,hcut,hrest,hblk⟩:=hv.cut (k:=1) (by omega) (by omega)
   obtain ⟨x,hx⟩:∃ x,xs[0]?=some x:=⟨xs[0]'(by omega),List.getElem?_eq_getElem _⟩
   obtain ⟨c1,m1,e1,cl1,ro1,hat1,hm1,hc1⟩:=hhas.get (iH hx)
   have hbne:b≠bx:=hne b (by omega) ⟨_,_,_,rfl⟩
   have hxb:=hbyte x (List.mem_of_getElem? hx)
   have q1:Nat.beq xs.length 0=false:=dO h0
   have q2:Nat.blt 0 xs.length=true:=bU (by omega)
   have q3:Nat.blt (o+0*1) m1=true:=bU (by omega)
   have q4:c1.get (path (o+0*1))=some (A1 x):=by rw [Nat.zero_mul];exact hc1
   have w1:aR .u64 (.ofNat x)=.ofNat x:=Eb (by omega)
   have qo:=hrest.one
   simp only [↓aQ,A3,reduceCtorEq,dQ,hat,hat1,q0,hc,hl,q1,q2,q3,q4,w1,aVb,hcut,qn,qo]
   refine .ret ?_
   simp only [↓aQ,A3,reduceCtorEq]
   have hg:xs.getD 0 0=x:=by rw [List.getD_eq_getElem?_getD,hx];rfl
   refine ⟨v',by rw [hg],⟨_,e,cl,by rw [aJ,if_pos rfl],by rw [bM,if_pos ⟨Nat.le_refl _,by simp⟩];rfl⟩,hrest.bT fun c' _ hc'=>?_,hw.put hlt _,Fr.put _ rfl hb,rfl,fun c' _ hc'=>?_⟩
   · rw [hblk c' hc',aJ,if_neg (fun e=>hbne e.symm)]
   · rw [hblk c' hc'];exact ⟨_,_,_,rfl⟩
def Ir (h:Hp) (v:Value) (cap:Nat) (xs:List Nat):Prop:=∃ b c e cl,v=cB b 0 xs.length cap∧h.at b=some (.row c cap e cl false)∧xs.length≤cap∧∀ k,k<xs.length→c.get (path k)=(dR xs)[k]?
theorem Ir.sl {h:Hp} {v:Value} {cap:Nat} {xs:List Nat} (hc:Ir h v cap xs):Sl 1 h v xs.length (dR xs):=by
 obtain ⟨b,c,e,cl,rfl,hat,hl,hg⟩:=hc
 refine ⟨by rw [eZ,Nat.mul_one],?_⟩
 by_cases h0:xs.length=0
 · exact .inl ⟨h0,.inr ⟨b,0,cap,by rw [h0]⟩⟩
 · exact .inr ⟨b,0,cap,rfl,by omega,c,cap,e,cl,false,hat,by rw [eZ];omega,fun k hk=>by rw [Nat.zero_add];exact hg k (by rw [eZ] at hk;exact hk)⟩
theorem Ir.bT {h H:Hp} {v:Value} {cap:Nat} {xs:List Nat} (hc:Ir h v cap xs) (e:∀ c,gY v c→H.at c=h.at c):Ir H v cap xs:=by
 obtain ⟨b,c,e',cl,rfl,hat,hl,hg⟩:=hc
 exact ⟨b,c,e',cl,rfl,by rw [e b ⟨_,_,_,rfl⟩];exact hat,hl,hg⟩
theorem aOD {h:Hp} {v y:Value} {cap x:Nat} {xs:List Nat} (hw:Wf h) (hc:Ir h v cap xs) (hcap:cap<1000000) (hlt:xs.length<cap) (hy:Sl 1 h y 1 (dR [x])) (hb:∀ c,gY v c→h.base≤c) :
 ∃ v' H,mQ 5 1 v y h=.val v' H∧Ir H v' cap (xs++[x])∧Wf H∧H.next=h.next∧Fr (gY v) h H∧∀ c,gY v' c→gY v c:=by
 obtain ⟨yb,yo,yc,rfl,hhas⟩:=hy.pos (by omega)
 obtain ⟨b,c,e,cl,rfl,hat,hl,hg⟩:=hc
 have hcs:=hhas.cells (n:=1*1) rfl
 have ho:eU cap=false:=eN (by unfold eY;omega)
 have hs:sure cap=cap:=by unfold sure;rw [ho];rfl
 have hblt:=hw.lt hat
 have hbb:=hb b ⟨_,_,_,rfl⟩
 have e1:mQ 5 1 (cB b 0 xs.length cap) (cB yb yo 1 yc) h=.val (cB b 0 (xs.length+1) cap) (h.put b (some (.row (aL (dR [x]) xs.length c fun t=>t) cap e cl false))):=by
  unfold mQ
  rw [Lf,show Nat.beq 1 0=false from rfl,cond_false,hcs,rH,yH]
  unfold oM
  rw [bD,show Nat.add xs.length 1=xs.length+1 from rfl,hs,cX (by omega),cond_true,show Nat.beq 1 0=false from rfl,cond_false,Dt,show Nat.add 0 (Nat.mul xs.length 1)=xs.length by show 0+xs.length*1=_;omega,hat,rH,Az,cond_false,jJ,cond_true,eZ,show ([x]:List Nat).length=1 from rfl,cX (by omega),cond_true]
 refine ⟨_,_,e1,⟨b,_,e,cl,by rw [List.length_append];rfl,by rw [aJ,if_pos rfl],by rw [List.length_append];exact hlt,fun k hk=>?_⟩,hw.put hblt _,rfl,(Fr.refl _ _).cJ _ (fun _=>⟨_,_,_,rfl⟩) hbb,fun c' hc'=>by rw [fB hc'];exact ⟨_,_,_,rfl⟩⟩
 rw [List.length_append] at hk
 rw [bM,eZ,lO]
 by_cases h1:k<xs.length
 · rw [if_neg (by omega),List.getElem?_append_left (by rw [eZ];exact h1)]
   exact hg k h1
 · have hk':k<xs.length+1:=hk
   rw [if_pos ⟨by omega,hk'⟩,List.getElem?_append_right (by rw [eZ];omega),eZ]
end cG
end Go
