/-
The evaluator is sound, third part: operations that write, and code.
Conditions: none.
-/
import Derived.Calls
import Derived.Orders
import Derived.Laws.MakeOwn
import Derived.Laws.RangeString
import Derived.Laws.IdiomStrings
import Derived.Lib.UnsafeStr
import Derived.Laws.Append
import Derived.Test.YtefdgihgbhbibaaGreatDoorEvalB
set_option linter.unusedVariables false
set_option linter.unusedSimpArgs false
namespace Go
namespace cG
def aYe (f:Map) (e e':PanicEntry):Prop:=bS f e.v e'.v∧e.recovered=e'.recovered∧e.goexit=e'.goexit
inductive lQ (f:Map):List PanicEntry→List PanicEntry→Prop where
 | nil:lQ f [] []
 | cons {e e':PanicEntry} {c c':List PanicEntry} (h:aYe f e e') (hc:lQ f c c'):lQ f (e::c) (e'::c')
theorem lQ.mono {f g:Map} (hfg:f.le g) {c c':List PanicEntry} (h:lQ f c c'):lQ g c c':=by
 induction h with
 | nil=>exact .nil
 | cons h _ ih=>exact .cons ⟨h.1.mono hfg,h.2⟩ ih
section
variable {P:Program} {gs:List Nat} {ds:List (Option Tmp)} {o:Oper}
def Enters (P:Program) (g:FuncId):Prop:=∃ fn,P.funcs[g]?=some fn∧(fn.name == "runtime.NumGoroutine")=false∧fn.body.isNone=false
def gW (P:Program) (gs:List Nat) (call:Call):Prop:=∀ (g:FuncId) (args args':List Value) (f:Map) (h:Hp) (w:World),mC gs f→gX f h w→dA f args args'→match call g args h with
 | .none=>True
 | .val v h'=>Enters P g∧Calls P g args'.toArray w fun | .returned v',w'=>∃ f',cV h h'∧cY f h w f' h' w'∧bS f' v v' | _,_=>False
 | .panic c h'=>Enters P g∧Calls P g args'.toArray w fun | .panicked c',w'=>∃ f',cV h h'∧cY f h w f' h' w'∧lQ f' c c' | _,_=>False
def cK (P:Program) (f:Map) (h:Hp) (w:World) (a:Act) (o:Oper) (r:fV):Prop:=match r with
 | .none=>True
 | .val v h'=>∀ next Q,(∀ f' v' w',cV h h'→cY f h w f' h' w'→bS f' v v'→next (a.put o.dst v') w')→o.wp P a w next Q
 | .panic c h'=>∀ next Q,(∀ f' c' w',cV h h'→cY f h w f' h' w'→lQ f' c c'→Q (.panic c') a w')→o.wp P a w next Q
def lL (P:Program) (gs:List Nat) (ds:List (Option Tmp)) (o:Oper) (fn:DO):Prop :=
 ∀ call,gW P gs call→∀ lo tm f h (a:Act) w,mC gs f→Env f ds lo tm a.tmps→gX f h w→cK P f h w a o (fn call lo tm h)
theorem cK.value {f f':Map} {h h':Hp} {w w':World} {a:Act} {v v':Value} (hs:cV h h') (hr:(execOp a.eval o).run P w=.ok (.value v') w') (hc:cY f h w f' h' w') (hv:bS f' v v'):cK P f h w a o (.val v h'):=by
 intro next Q hk
 unfold Oper.wp
 rw [hr]
 exact hk f' v' w' hs hc hv
theorem cK.skip {f f':Map} {h h':Hp} {w w':World} {a:Act} (hs:cV h h') (hr:(execOp a.eval o).run P w=.ok .skip w') (hc:cY f h w f' h' w'):cK P f h w a o (.val undef h'):=by
 intro next Q hk
 unfold Oper.wp
 rw [hr]
 exact hk f' undef w' hs hc (bS.undef f')
theorem kL {R:Type}:∀ (l:List Value) (i:Nat) (c:T Value) (k:T Value→R),aL l i c k=k (aL l i c fun t=>t):=by
 intro l
 induction l with
 | nil=>intro i c k;rfl
 | cons v l ih =>
  intro i c k
  have e:∀ {S:Type} (k:T Value→S),aL (v::l) i c k=T.tD (path i) c (some v) fun c=>aL l (Nat.succ i) c k:=fun _=>rfl
  rw [e,e,T.iA,T.iA]
  exact ih _ _ k
theorem oN:∀ (l:List Value) (i:Nat) (c:T Value) (k:Nat),(aL l i c fun t=>t).get (path k)=if i≤k∧k<i+l.length then l[k - i]? else c.get (path k):=by
 intro l
 induction l with
 | nil=>intro i c k;rw [if_neg (by simp)];rfl
 | cons v l ih =>
  intro i c k
  have e:(aL (v::l) i c fun t=>t)=T.tD (path i) c (some v) fun c=>aL l (Nat.succ i) c fun t=>t:=rfl
  rw [e,T.iA,ih,gC]
  by_cases h1:Nat.succ i≤k∧k<Nat.succ i+l.length
  · rw [if_pos h1,if_pos (by simp;omega),show k - i=(k - Nat.succ i)+1 by omega];rfl
  · rw [if_neg h1]
    by_cases h2:i=k
    · subst h2;rw [if_pos rfl,if_pos (by simp)];simp
    · rw [if_neg h2,if_neg (by simp;omega)]
theorem eG {R:Type} (h:Hp) (e:TypeId) (l:List Value) (n:Nat) (cl:Bool) (k:Nat→Hp→R):gT h e l n cl k=k h.next (h.new (.row (aL l 0 .nil fun t=>t) n e cl false)):=by
 unfold gT
 rw [kL,Hp.zG]
theorem cY.newRow {f:Map} {h:Hp} {w w':World} {l:List Value} {arr:Array Value} {e:TypeId} {n:Nat} {cl:Bool} {s:Nat} {fz:Nat×Nat} (hr:gX f h w) (hl:∀ k v,l[k]?=some v→k<n→∃ v',arr[k]?=some v'∧bS f v v') (hn:n≤arr.size)
 (hcl:cl=true→n=arr.size) (hfz:∀ k,k<arr.size→¬ (fz.1≤k∧k<fz.2)) (hheap:w'.heap=w.heap.push (.cells arr e fz)) (ht:w'.tape=w.tape) (hos:w'.os=w.os) (hout:w'.output=w.output) :
 cY f h w (f.ext h.next ⟨w.heap.size,0,arr.size,s⟩) (h.new (.row (aL l 0 .nil fun t=>t) n e cl false)) w':=by
 refine cY.new hr rfl (.row _ _ _ _ _ arr e fz (.inl rfl) rfl (by simpa using hn) (fun hc=>⟨rfl,hcl hc⟩) (fun _=>hfz) fun k v hk hv=>?_) hheap ht hos hout
 rw [oN] at hv
 split at hv
 · rename_i h1
   obtain ⟨v',h2,h3⟩:=hl k v (by simpa using hv) hk
   exact ⟨v',by simpa using h2,h3.mono (Map.Js _ (Map.uV hr (Nat.le_refl _)))⟩
 · cases hv
theorem dA.cells {f:Map} {l:List Value} {arr:Array Value} (h:dA f l arr.toList) {n:Nat}:∀ k v,l[k]?=some v→k<n→∃ v',arr[k]?=some v'∧bS f v v':=fun k v hk _=>by
 obtain ⟨v',a,b⟩:=h.2 k v hk
 exact ⟨v',by simpa using a,b⟩
theorem zJ (n:Nat):∀ k,k<n→¬ ((0,0).1≤k∧k<((0,0):Nat×Nat).2):=fun k _ h=>absurd h.2 (Nat.not_lt_zero _)
theorem aFh:∀ (l:List Value),bY l=true→∀ v∈l,xT v=false:=by
 intro l
 induction l with
 | nil=>intro _ v hv;cases hv
 | cons x l ih =>
  intro h v hv
  have e:bY (x::l)=bif xT x then false else bY l:=rfl
  rw [e] at h
  cases hx:xT x with
  | true=>rw [hx] at h;cases h
  | false =>
   rw [hx] at h
   rcases List.mem_cons.1 hv with rfl|hv
   · exact hx
   · exact ih h v hv
theorem bS.one {f:Map} {v v':Value} (h:bS f v v') (ha:xT v=false):v'.oneCell'=true∧(∀ xs,v≠.agg xs)∧∀ xs,v'≠.agg xs:=by
 cases h<;>first|(cases ha;done)|exact ⟨rfl,fun _=>by simp,fun _=>by simp⟩
theorem dA.one {f:Map} {l l':List Value} (h:dA f l l') (ha:bY l=true):∀ v∈l',v.oneCell'=true:=by
 intro v hv
 obtain ⟨i,hi,e⟩:=List.getElem_of_mem hv
 have hi':i<l.length:=by rw [h.1];exact hi
 obtain ⟨v',h1,h2⟩:=h.2 i l[i] (by simp [hi'])
 have h3:l'[i]?=some v:=by simp [hi,e]
 rw [h3] at h1;cases h1
 exact (h2.one (aFh _ ha _ (List.getElem_mem hi'))).1
theorem yF (P:Program) (g:Nat) (t:TypeId) (fz:Nat×Nat):∀ (vs:List Value) (o i:Nat) (cur:Array Value) (w:World),w.heap[g]?=some (.cells cur t fz)→o+i+vs.length≤cur.size→(∀ v∈vs,v.oneCell'=true)→(∀ k,k<cur.size→¬ (fz.1≤k∧k<fz.2)) →
 ∃ w' arr,(storeCells ⟨g,o,none⟩ vs i).run P w=.ok () w'∧w'.heap[g]?=some (.cells arr t fz)∧arr.size=cur.size∧(∀ k,arr[k]?=if o+i≤k∧k<o+i+vs.length then vs[k - (o+i)]? else cur[k]?) ∧
  w'.heap.size=w.heap.size∧(∀ c,c≠g→w'.heap[c]?=w.heap[c]?)∧w'.tape=w.tape∧w'.os=w.os∧w'.output=w.output:=by
 intro vs
 induction vs with
 | nil=>intro o i cur w hg _ _ _;exact ⟨w,cur,rfl,hg,rfl,fun k=>by rw [if_neg (by simp)],rfl,fun _ _=>rfl,rfl,rfl,rfl⟩
 | cons v vs ih =>
  intro o i cur w hg hl h1 hfz
  have hi:o+i<cur.size:=by simp at hl;omega
  have hcell:w.cell? ⟨g,o+i,none⟩=some cur[o+i]:=by simp [World.cell?,hg,hi]
  have hfro:w.frozen? ⟨g,o+i,none⟩=false:=by
   have:=hfz (o+i) hi
   simp only [World.frozen?,hg]
   rw [Bool.and_eq_false_iff]
   simp
   omega
  have hgl:g<w.heap.size:=(Array.getElem?_eq_some_iff.1 hg).1
  have hst:(store ((⟨g,o,none⟩:Addr).add i) v).run P w=.ok () (w.setCell ⟨g,o+i,none⟩ v):=by
   rw [uG,run_store P w _ v _ (h1 v (by simp)),hcell]
   simp [hfro]
  have hg':(w.setCell ⟨g,o+i,none⟩ v).heap[g]?=some (.cells (cur.setIfInBounds (o+i) v) t fz):=by
   simp only [World.setCell,Array.getElem?_modify,hg]
   simp
  obtain ⟨w',arr,h2,h3,h4,h5,h6,h7,h8,h9,h10⟩:=ih o (i+1) (cur.setIfInBounds (o+i) v) (w.setCell ⟨g,o+i,none⟩ v) hg' (by simp at hl ⊢;omega) (fun x hx=>h1 x (by simp [hx])) (by simpa using hfz)
  refine ⟨w',arr,?_,h3,by simpa using h4,fun k=>?_,?_,fun c hc=>?_,h8,h9,h10⟩
  · simp only [storeCells,Sem.run_bind,hst,Result.andThen_ok]
    exact h2
  · rw [h5]
    by_cases hk:o+(i+1)≤k∧k<o+(i+1)+vs.length
    · rw [if_pos hk,if_pos (by simp;omega),show k - (o+i)=(k - (o+(i+1)))+1 by omega];rfl
    · rw [if_neg hk]
      by_cases hk2:k=o+i
      · subst hk2;rw [if_pos (by simp)];simp [hi]
      · rw [if_neg (by simp;omega),Array.getElem?_setIfInBounds,if_neg (by omega)]
  · rw [h6];simp [World.setCell]
  · rw [h7 c hc];simp only [World.setCell,Array.getElem?_modify];rw [if_neg (by intro e;exact hc e.symm)]
theorem Rj {R:Type} (h:Hp) (b:Nat) (k:T Value→Nat→TypeId→Bool→Bool→R) (z:R):(∃ c n e cl ro,h.at b=some (.row c n e cl ro)∧pU h b k z=k c n e cl ro)∨pU h b k z=z:=by
 unfold pU Hp.at
 cases h.bl.get (path b) with
 | none=>exact .inr rfl
 | some ob =>
  cases ob with
  | row c n e cl ro=>exact .inl ⟨c,n,e,cl,ro,rfl,rfl⟩
  | iter s p=>exact .inr rfl
  | mp es=>exact .inr rfl
theorem Dh {R:Type} {f:Map} {h:Hp} {w:World} {b o:Nat} {i:Cn} {l l':List Value} (hr:gX f h w) (hb:f b=some i) (hl:dA f l l') (k:Hp→R) (z:R):jR h b o l k z=z ∨
 ∃ h' w',jR h b o l k z=k h'∧cV h h'∧cY f h w f h' w'∧(storeCells ⟨i.fE,i.o+o,none⟩ l').run P w=.ok () w':=by
 unfold jR
 rcases Rj h b (fun c n e cl ro=>bif ro then z else bif bY l then bif Nat.ble (Nat.add o (len l)) n then aL l o c fun c=>h.nT b (some (.row c n e cl false)) k else z else z) z with ⟨c,n,e,cl,ro,hat,h1⟩|h1
 · rw [h1]
   cases ro with
   | true=>exact .inl rfl
   | false =>
    cases ha:bY l with
    | false=>exact .inl rfl
    | true =>
     cases hb2:Nat.ble (Nat.add o (len l)) n with
     | false=>exact .inl rfl
     | true =>
      have hble:=Nat.ble_eq.mp hb2
      rw [eF] at hble
      have hble':o+l.length≤n:=hble
      obtain ⟨x,hx,hor⟩:=hr.obj b _ i hb hat
      have hlive:(h.at b).isSome:=by rw [hat];rfl
      cases hor with
      | row _ _ _ _ _ arr e' fz he hs hn hcl hro hc =>
       obtain ⟨w',arr',g1,g2,g3,g4,g5,g6,g7,g8,g9⟩:=yF P i.fE e' fz l' (i.o+o) 0 arr w hx (by rw [hs,← hl.1];omega) (hl.one ha) (by rw [hs];exact hro rfl)
       refine .inr ⟨h.put b (some (.row (aL l o c fun t=>t) n e cl false)),w',?_,cV.put _ hlive,?_,g1⟩
       · show aL l o c (fun c=>h.nT b (some (.row c n e cl false)) k)=_
         rw [kL,Hp.qD]
       · refine cY.put hr hb hlive g2 (.row _ _ _ _ _ arr' e' fz he (by rw [g3];exact hs) hn hcl hro fun j v hj hv=>?_) g5 g6 g7 g8 g9
         rw [oN] at hv
         split at hv
         · rename_i hj2
           obtain ⟨v',h3,h4⟩:=hl.2 _ v hv
           refine ⟨v',?_,h4⟩
           rw [g4,if_pos (by rw [← hl.1];omega),show i.o+j - (i.o+o+0)=j - o by omega]
           exact h3
         · rename_i hj2
           obtain ⟨v',h3,h4⟩:=hc j v hj hv
           refine ⟨v',?_,h4⟩
           rw [g4,if_neg (by rw [← hl.1];omega)]
           exact h3
 · rw [h1];exact .inl rfl
end
section
variable {P:Program} {gs:List Nat} {ds:List (Option Tmp)} {o:Oper}
theorem aFi {e:TypeId} {z:List Value} (ho:o.op=.alloc e) (hz:pI P e=some z):lL P gs ds o (cO e z z.length):=by
 intro call hcall lo tm f h a w hG hE hr
 obtain ⟨ti,v,hi,hiz,rfl,hzz,_,_⟩:=jX hz
 unfold cO
 rw [eG]
 have hc:=cY.newRow (w':={ w with heap:=w.heap.push (.cells v.cells e) }) (s:=0) (e:=e) (cl:=true) (n:=v.cells.toList.length) hr (dA.cells (hzz f)) (by simp) (fun _=>by simp) (zJ _) rfl rfl rfl rfl
 refine cK.value (cV.new _ hr.base) (v':=.pointer (some ⟨w.heap.size,0,none⟩)) ?_ hc (.ptr h.next 0 _ (Map.fM _ _ _))
 simp [execOp,ho,Instr.alloc,zeroValue,typeInfo,hi,hiz,newVar,newRow]
theorem aNW {e:TypeId} {x:Operand} (ho:o.op=.box e x):lL P gs ds o (eM e (aU gs ds x)):=by
 intro call hcall lo tm f h a w hG hE hr
 have hx:=bJ hG hE x
 unfold eM aHw
 cases ht:Ah (bW (aU gs ds x) lo tm) with
 | true=>trivial
 | false =>
  show cK P f h w a o (gT h e (gL (bW (aU gs ds x) lo tm)) (len (gL (bW (aU gs ds x) lo tm))) true fun b h=>.val (bE b 0) h)
  rw [eG,eF]
  have hl:=hx.cells ht
  have hlen:(gL (bW (aU gs ds x) lo tm)).length=(a.eval x).cells.size:=by rw [hl.1];simp
  have hc:=cY.newRow (w':={ w with heap:=w.heap.push (.cells (a.eval x).cells e) }) (s:=0) (e:=e) (cl:=true) (n:=(gL (bW (aU gs ds x) lo tm)).length) hr (dA.cells hl) (by omega) (fun _=>hlen) (zJ _) rfl rfl rfl rfl
  refine cK.value (cV.new _ hr.base) (v':=.pointer (some ⟨w.heap.size,0,none⟩)) ?_ hc (.ptr h.next 0 _ (Map.fM _ _ _))
  simp [execOp,ho,Instr.box,newVar,newRow]
theorem aA9 {t:TypeId} {x y:Operand} {d:TypeDesc} (ho:o.op=.store t x y) (hd:P.underlying t=some d) (hs:sz P t=1):lL P gs ds o (cD (aU gs ds x) (aU gs ds y)):=by
 intro call hcall lo tm f h a w hG hE hr
 have hx:=bJ hG hE x
 have hy:=bJ hG hE y
 unfold cD
 rcases oW (bW (aU gs ds x) lo tm) (fun b o=>jR h b o [bW (aU gs ds y) lo tm] (fun h=>fV.val undef h) .none) .none with ⟨ad,e,h1⟩|h1
 · rw [h1];rw [e] at hx
   obtain ⟨_,i,hi,hxe⟩:=hx.mX
   have hl:dA f [bW (aU gs ds y) lo tm] [a.eval y]:=dA.cons hy (dA.nil f)
   rcases Dh (P:=P) (o:=ad.off) hr hi hl (fun h=>fV.val undef h) .none with h2|⟨h',w',h2,h3,h4,h5⟩
   · rw [h2];trivial
   · rw [h2]
     have hna:(a.eval y).cells=#[a.eval y]:=by
      have hone:∀ xs,a.eval y≠.agg xs:=by
       intro xs hxs
       rw [hxs] at h5
       simp only [storeCells,Sem.run_bind] at h5
       have:∀ (A:Addr) (w:World),(store A (.agg xs)).run P w=.halt (.stuck _) w:=fun _ _=>rfl
       rw [this] at h5
       cases h5
      cases hv:a.eval y<;>first|rfl|exact absurd hv (hone _)
     refine cK.skip h3 ?_ h4
     simp [execOp,ho,Instr.storeAt,Instr.sureAddr,storeVar,hxe,run_sizeOf hd,hs,hna,h5]
 · rw [h1];trivial
theorem aBa {t:TypeId} {x y:Operand} {d:TypeDesc} (ho:o.op=.store t x y) (hd:P.underlying t=some d):lL P gs ds o (bL (sz P t) (aU gs ds x) (aU gs ds y)):=by
 intro call hcall lo tm f h a w hG hE hr
 have hx:=bJ hG hE x
 have hy:=bJ hG hE y
 unfold bL
 rcases oW (bW (aU gs ds x) lo tm) (fun b o=>uX (bW (aU gs ds y) lo tm) (fun l=>bif Nat.beq (len l) (sz P t) then jR h b o l (fun h=>fV.val undef h) .none else .none) .none) .none with ⟨ad,e,h1⟩|h1
 · rw [h1];rw [e] at hx
   obtain ⟨_,i,hi,hxe⟩:=hx.mX
   rcases vA (bW (aU gs ds y) lo tm) (fun l=>bif Nat.beq (len l) (sz P t) then jR h ad.block ad.off l (fun h=>fV.val undef h) .none else .none) .none with ⟨cs,e2,h2⟩|h2
   · rw [h2];rw [e2] at hy
     obtain ⟨cs',hye,hl⟩:=hy.vC
     cases hn:Nat.beq (len cs.toList) (sz P t) with
     | false=>trivial
     | true =>
      have hn:=Nat.eq_of_beq_eq_true hn
      rw [eF] at hn
      show cK P f h w a o (jR h ad.block ad.off cs.toList (fun h=>fV.val undef h) .none)
      rcases Dh (P:=P) (o:=ad.off) hr hi hl (fun h=>fV.val undef h) .none with h3|⟨h',w',h3,h4,h5,h6⟩
      · rw [h3];trivial
      · rw [h3]
        refine cK.skip h4 ?_ h5
        have hsz:cs'.size=sz P t:=by rw [← hn,hl.1];simp
        simp [execOp,ho,Instr.storeAt,Instr.sureAddr,storeVar,hxe,hye,run_sizeOf hd,Value.cells,hsz,h6]
   · rw [h2];trivial
 · rw [h1];trivial
theorem aNX {x:Operand} (ho:o.op=.panic x):lL P gs ds o (Qx (aU gs ds x)):=by
 intro call hcall lo tm f h a w hG hE hr
 have hx:=bJ hG hE x
 unfold Qx
 rcases Fk (bW (aU gs ds x) lo tm) (fun t v=>fV.panic [{ v:=.iface t v,recovered:=false }] h) .none .none with ⟨t,v,e,h1⟩|⟨e,h1⟩|h1
 · rw [h1];rw [e] at hx
   obtain ⟨v',hxe,hv⟩:=hx.Fo
   intro next Q hk
   have hrun:(execOp a.eval o).run P w=.halt (.panic (.iface t v')) w:=by simp [execOp,ho,Instr.panic,hxe]
   unfold Oper.wp
   rw [hrun]
   exact hk f _ w (cV.refl h) (cY.refl hr) (.cons ⟨.iface t v v' hv,rfl,rfl⟩ .nil)
 · rw [h1];trivial
 · rw [h1];trivial
theorem cK.call {f:Map} {h:Hp} {w:World} {a:Act} {g:FuncId} {args:List Value} {args':Array Value} {call:Call} (hcall:gW P gs call) (hG:mC gs f) (hr:gX f h w) (hl:dA f args args'.toList)
 (hrun:(execOp a.eval o).run P w=(callFunc g args').run P w):cK P f h w a o (call g args h):=by
 have hc:=hcall g args args'.toList f h w hG hr hl
 revert hc
 have hin:Enters P g→(execOp a.eval o).run P w=.ok (.enter g args') w:=fun ⟨fn,h1,h2,h3⟩=>by
  rw [hrun]
  have h4:fn.name ≠ "runtime.NumGoroutine" := by simpa using h2
  simp [callFunc,h1,h4]
  intro hb
  rw [hb] at h3;cases h3
 cases call g args h with
 | none=>exact fun _=>trivial
 | val v h' =>
  intro ⟨he,hc⟩ next Q hk
  unfold Oper.wp
  rw [hin he,Oper.upon_enter]
  refine Calls.mono (by rw [Array.toArray_toList] at hc;exact hc) fun e w' he=>?_
  cases e with
  | returned v'=>obtain ⟨f',h0,h1,h2⟩:=he;exact hk f' v' w' h0 h1 h2
  | panicked c=>exact he.elim
  | outgrown=>exact he.elim
 | panic c h' =>
  intro ⟨he,hc⟩ next Q hk
  unfold Oper.wp
  rw [hin he,Oper.upon_enter]
  refine Calls.mono (by rw [Array.toArray_toList] at hc;exact hc) fun e w' he=>?_
  cases e with
  | panicked c'=>obtain ⟨f',h0,h1,h2⟩:=he;exact hk f' c' w' h0 h1 h2
  | returned c=>exact he.elim
  | outgrown=>exact he.elim
theorem aFj {g:FuncId} {args:Array Operand} {ats:Array TypeId} (ho:o.op=.call { callee:=.value (.func g),args:=args,argTypes:=ats }):lL P gs ds o (aW g (args.toList.map (aU gs ds))):=by
 intro call hcall lo tm f h a w hG hE hr
 have hl:=vB hG hE args.toList
 exact cK.call hcall hG hr (args':=args.map a.eval) (by simpa using hl) (Hu a.eval w ho rfl)
theorem aFk {x:Operand} {args:Array Operand} {ats:Array TypeId} (ho:o.op=.call { callee:=.value x,args:=args,argTypes:=ats }):lL P gs ds o (xZ (aU gs ds x) (args.toList.map (aU gs ds))):=by
 intro call hcall lo tm f h a w hG hE hr
 have hx:=bJ hG hE x
 have hl:=vB hG hE args.toList
 unfold xZ
 rcases aAS (bW (aU gs ds x) lo tm) (fun g first cap=>call g (first++(Co (args.toList.map (aU gs ds)) lo tm++cap)) h) .none with ⟨g,fi,cp,e,h1⟩|h1
 · rw [h1];rw [e] at hx
   obtain ⟨fi',cp',hxe,hf1,hc1⟩:=hx.aAT
   refine cK.call hcall hG hr (args':=fi'++args.map a.eval++cp') ?_ ?_
   · have:=hf1.append (hl.append hc1)
     simpa [List.append_assoc] using this
   · unfold execOp
     rw [ho]
     simp only [resolve,hxe,Deferred.ofValue,Sem.run_bind]
     simp [invoke]
 · rw [h1];trivial
theorem aNY {t:TypeId} {x:Operand} (ho:o.op=.range t x) (ht:P.underlying t=some .string):lL P gs ds o (aNA (aU gs ds x)):=by
 intro call hcall lo tm f h a w hG hE hr
 have hx:=bJ hG hE x
 unfold aNA
 rcases mV (bW (aU gs ds x) lo tm) (fun s=>h.Ff (.iter s 0) fun b h=>fV.val (bE b 0) h) .none with ⟨s,e,h1⟩|h1
 · rw [h1];rw [e] at hx
   have hxe:=hx.jW
   rw [Hp.zG]
   have hc:=cY.new (w':={ w with heap:=w.heap.push (.stringIter s 0) }) (i:=⟨w.heap.size,0,0,0⟩) (o:=.iter s 0) hr rfl (.iter s 0 rfl) rfl rfl rfl rfl
   refine cK.value (cV.new _ hr.base) (v':=.pointer (some ⟨w.heap.size,0,none⟩)) ?_ hc (.ptr h.next 0 _ (Map.fM _ _ _))
   simp [execOp,ho,Instr.range,run_underlying ht,hxe]
 · rw [h1];trivial
theorem aIh {R:Type} (h:Hp) (b:Nat) (k:ByteArray→Nat→R) (z:R):(∃ s p,h.at b=some (.iter s p)∧Us h b k z=k s p)∨Us h b k z=z:=by
 unfold Us Hp.at
 cases h.bl.get (path b) with
 | none=>exact .inr rfl
 | some ob =>
  cases ob with
  | row c n e cl ro=>exact .inr rfl
  | iter s p=>exact .inl ⟨s,p,rfl,rfl⟩
  | mp es=>exact .inr rfl
theorem bS.aIi {f:Map} {a:Array Value} (h:a.toList.all gG=true):bS f (.tuple a) (.tuple a):=by
 have:=bS.oJ (dA.plain (f:=f) h)
 simpa using this
theorem aNZ {x:Operand} (ho:o.op=.next x true):lL P gs ds o (aNB (aU gs ds x)):=by
 intro call hcall lo tm f h a w hG hE hr
 have hx:=bJ hG hE x
 unfold aNB
 rcases oW (bW (aU gs ds x) lo tm) (fun b o=>bif Nat.beq o 0 then Us h b (fun s pos =>
  bif Nat.blt pos (len (bl s)) then eC (Jx (bl s) pos) (fun c=>bif Nat.blt c.toNat 128 then bN (Nat.succ pos) fun q=>h.nT b (some (.iter s q)) fun h=>fV.val (.tuple #[.bool true,.int .i64 (.ofNat pos),.int .i32 (.ofNat c.toNat)]) h else .none) .none
  else .val (.tuple #[.bool false]) h) .none else .none) .none with ⟨ad,e,h1⟩|h1
 · rw [h1];rw [e] at hx
   obtain ⟨_,i,hi,hxe⟩:=hx.mX
   cases h0:Nat.beq ad.off 0 with
   | false=>trivial
   | true =>
    have h0:=Nat.eq_of_beq_eq_true h0
    dsimp only [cond_true]
    rcases aIh h ad.block (fun s pos =>
     bif Nat.blt pos (len (bl s)) then eC (Jx (bl s) pos) (fun c=>bif Nat.blt c.toNat 128 then bN (Nat.succ pos) fun q=>h.nT ad.block (some (.iter s q)) fun h=>fV.val (.tuple #[.bool true,.int .i64 (.ofNat pos),.int .i32 (.ofNat c.toNat)]) h else .none) .none
     else .val (.tuple #[.bool false]) h) .none with ⟨s,pos,hat,h2⟩|h2
    · rw [h2]
      obtain ⟨ob,hob,hor⟩:=hr.obj ad.block _ i hi hat
      have hlive:(h.at ad.block).isSome:=by rw [hat];rfl
      cases hor with
      | iter _ _ hio =>
      have hpt:a.eval x=.pointer (some ⟨i.fE,0,none⟩):=by rw [hxe,hio,h0]
      cases hlt:Nat.blt pos (len (bl s)) with
      | false =>
       have hge:¬ pos<s.size:=by
        intro hh
        have:Nat.blt pos (len (bl s))=true:=Nat.blt_eq.mpr (by rw [eF,jD];exact hh)
        rw [hlt] at this;cases this
       refine cK.value (cV.refl h) (v':=.tuple #[.bool false]) ?_ (cY.refl hr) (bS.aIi rfl)
       simp [execOp,ho,hpt,Instr.next,getObj,Sem.run,hob,hge]
      | true =>
       have hlt:=Nat.blt_eq.mp hlt
       rw [eF,jD] at hlt
       cases hc:Jx (bl s) pos with
       | none=>trivial
       | some c =>
        rw [aDp] at hc
        have hce:s[pos]'hlt=c:=by
         have h3:=(List.getElem?_eq_some_iff.1 hc).2
         rw [← h3];rfl
        cases h128:Nat.blt c.toNat 128 with
        | false =>
         show cK P f h w a o (bif Nat.blt c.toNat 128 then _ else .none)
         rw [h128];trivial
        | true =>
         have h128':=Nat.blt_eq.mp h128
         have hd:=decode_ascii s pos hlt (by rw [hce];exact h128')
         rw [hce] at hd
         show cK P f h w a o (bif Nat.blt c.toNat 128 then _ else .none)
         rw [h128]
         show cK P f h w a o (bN (Nat.succ pos) fun q=>h.nT ad.block (some (.iter s q)) fun h=>fV.val (.tuple #[.bool true,.int .i64 (.ofNat pos),.int .i32 (.ofNat c.toNat)]) h)
         rw [bD,Hp.qD]
         have hbl:i.fE<w.heap.size:=(hr.fresh _ _ hi).2
         have hc2:=cY.put (w':={ w with heap:=w.heap.setIfInBounds i.fE (.stringIter s (pos+1)) }) (x:=.stringIter s (pos+1)) (o:=.iter s (pos+1)) hr hi hlive (by simp [hbl]) (.iter s (pos+1) hio) (by simp)
          (fun c hc=>by simp only [Array.getElem?_setIfInBounds];rw [if_neg (fun e=>hc e.symm)]) rfl rfl rfl
         refine cK.value (cV.put _ hlive) (v':=.tuple #[.bool true,.int .i64 (.ofNat pos),.int .i32 (.ofNat c.toNat)]) ?_ hc2 (bS.aIi rfl)
         simp [execOp,ho,hpt,Instr.next,getObj,setObj,Sem.run,hob,hlt,hd,goInt]
    · rw [h2];trivial
 · rw [h1];trivial
theorem Pk (n:Nat) (z:List Value):dU (n+1) z=z++dU n z:=rfl
theorem mJ (n:Nat) (z:List Value):(dU n z).length=n*z.length:=by
 induction n with
 | zero=>show ([]:List Value).length=_;simp
 | succ n ih=>rw [Pk,List.length_append,ih,Nat.succ_mul];omega
theorem aIj (n:Nat) (z:List Value) (k:Nat) (hk:k<n*z.length):(dU n z)[k]?=z[k % z.length]?:=by
 induction n generalizing k with
 | zero=>simp at hk
 | succ n ih =>
  rw [Pk]
  rw [Nat.succ_mul] at hk
  by_cases h:k<z.length
  · rw [List.getElem?_append_left h,Nat.mod_eq_of_lt h]
  · rw [List.getElem?_append_right (by omega),ih _ (by omega)]
    congr 1
    rw [Nat.mod_eq_sub_mod (by omega:k≥z.length)]
theorem Km (zero:Array Value) (n s:Nat) (hs:zero.size=s):((Array.range (n*s)).map (zero[· % zero.size]!)).toList=dU n zero.toList:=by
 apply List.ext_getElem?
 intro k
 by_cases hk:k<n*s
 · rw [aIj _ _ _ (by simpa [hs] using hk)]
   have hs0:0<s:=by
    rcases Nat.eq_zero_or_pos s with h|h
    · subst h;simp at hk
    · exact h
   have hm:k % zero.size<zero.size:=Nat.mod_lt _ (by omega)
   simp [hk,hm]
 · have h1:(dU n zero.toList).length≤k:=by rw [mJ];simp [hs];omega
   rw [List.getElem?_eq_none h1]
   simp;omega
theorem Kn {f:Map} {z z':List Value} (h:dA f z z') (n:Nat):dA f (dU n z) (dU n z'):=by
 induction n with
 | zero=>exact dA.nil f
 | succ n ih=>exact h.append ih
theorem uH:16777216<eY:=by unfold eY;decide
theorem aN0 {t e:TypeId} {x y:Operand} {z:List Value} (ho:o.op=.makeSlice t x y) (ht:P.underlying t=some (.slice e)) (hz:pI P e=some z):lL P gs ds o (At e z (P.bytesOf e) (aU gs ds x) (aU gs ds y)):=by
 intro call hcall lo tm f h a w hG hE hr
 have hx:=bJ hG hE x
 have hy:=bJ hG hE y
 obtain ⟨ti,v,hi,hiz,rfl,hzz,hzl,hsz⟩:=jX hz
 unfold At
 rcases oZ (bW (aU gs ds x) lo tm) (fun n=>lP (bW (aU gs ds y) lo tm) (fun c =>
  bif Nat.ble n c then bif Nat.ble (Nat.mul (P.bytesOf e) c) 16777216 then bif Nat.ble c 16777216 then gT h e (dU c v.cells.toList) (len (dU c v.cells.toList)) true fun b h=>bN n fun n=>bN c fun c=>fV.val (cB b 0 n c) h else .none else .none else .none) .none) .none with ⟨k1,n,e1,h1⟩|h1
 · rw [h1];rw [e1] at hx
   rcases oZ (bW (aU gs ds y) lo tm) (fun c =>
    bif Nat.ble n c then bif Nat.ble (Nat.mul (P.bytesOf e) c) 16777216 then bif Nat.ble c 16777216 then gT h e (dU c v.cells.toList) (len (dU c v.cells.toList)) true fun b h=>bN n fun n=>bN c fun c=>fV.val (cB b 0 n c) h else .none else .none else .none) .none with ⟨k2,c,e2,h2⟩|h2
   · rw [h2];rw [e2] at hy
     cases c1:Nat.ble n c with
     | false=>trivial
     | true =>
     cases c2:Nat.ble (Nat.mul (P.bytesOf e) c) 16777216 with
     | false=>trivial
     | true =>
     cases c3:Nat.ble c 16777216 with
     | false=>trivial
     | true =>
      have c1:=Nat.ble_eq.mp c1
      have c2:P.bytesOf e*c≤16777216:=Nat.ble_eq.mp c2
      have c3:=Nat.ble_eq.mp c3
      show cK P f h w a o (gT h e (dU c v.cells.toList) (len (dU c v.cells.toList)) true fun b h=>bN n fun n=>bN c fun c=>fV.val (cB b 0 n c) h)
      rw [eG,bD,bD,eF]
      have hsize:v.cells.size=ti.size:=by rw [← hzl];simp
      have harr:(madeCells v.cells (c*ti.size)).toList=dU c v.cells.toList:=Km v.cells c ti.size hsize
      have hl:dA f (dU c v.cells.toList) (madeCells v.cells (c*ti.size)).toList:=by rw [harr];exact Kn (hzz f) c
      have hlen:(dU c v.cells.toList).length=(madeCells v.cells (c*ti.size)).size:=by rw [hl.1];simp
      have hc:=cY.newRow (w':=w.alloc (.cells (madeCells v.cells (c*ti.size)) e)) (s:=0) (e:=e) (cl:=true) (n:=(dU c v.cells.toList).length) hr (dA.cells hl) (by omega) (fun _=>hlen) (zJ _) rfl rfl rfl rfl
      have hO:=uH
      refine cK.value (cV.new _ hr.base) (v':=.slice (some ⟨w.heap.size,0,none⟩) n c) ?_ hc (.slice h.next 0 n c _ (Map.fM _ _ _) (by omega) c1)
      have hb:ti.bytes=P.bytesOf e:=by simp [Program.bytesOf,hi]
      have hbytes:(ti.bytes:Int)*(c:Int)≤281474976710656:=by
       rw [hb]
       have:((P.bytesOf e*c:Nat):Int)≤16777216:=Int.ofNat_le.mpr c2
       rw [Int.natCast_mul] at this
       omega
      have hrun:=run_make (P:=P) w t e ti v ht hi hiz k1 k2 (n:Int) (c:Int) (by omega) (by omega) hbytes (by omega)
      rw [Int.toNat_natCast,Int.toNat_natCast] at hrun
      simp only [execOp,ho,hx.gI,hy.gI,Sem.run_bind,hrun]
      rfl
   · rw [h2];trivial
 · rw [h1];trivial
end
section
variable {P:Program} {gs:List Nat} {ds:List (Option Tmp)} {o:Oper}
theorem Di (w:World) (need dL:Nat) (e:TypeId):need≤grownCap w need dL e:=by
 unfold grownCap Question.cut
 exact Nat.le_add_right _ _
theorem vF (l:List UInt8):Jv l=l.map xG:=by
 induction l with
 | nil=>rfl
 | cons b l ih=>show xG b::Jv l=_;rw [ih];rfl
theorem aBb {t e:TypeId} {n:Nat} {parts:Array (Nat×Operand)} {z:List Value} {l:List (Nat×Nat×OD)} (ho:o.op=.buildSlice t n parts) (ht:P.underlying t=some (.slice e)) (hz:pI P e=some z)
 (hp:qZ gs ds (fun i=>some (i*sz P e,sz P e)) parts.toList=some l) (hn:n*sz P e≤16777216) (hn2:n≤16777216):lL P gs ds o (dK e n (dU n z) l):=by
 intro call hcall lo tm f h a w hG hE hr
 obtain ⟨ti,v,hi,hiz,rfl,hzz,hzl,hsz⟩:=jX hz
 have hpo:=Pj _ _ hp
 unfold dK
 have hsize:v.cells.size=ti.size:=by rw [← hzl];simp
 have harr:(madeCells v.cells (n*ti.size)).toList=dU n v.cells.toList:=Km v.cells n ti.size hsize
 have hL:dA f (dU n v.cells.toList) (madeCells v.cells (n*ti.size)).toList:=by rw [harr];exact Kn (hzz f) n
 rcases Vo hG hE (fun l=>gT h e l (len l) true fun b h=>fV.val (cB b 0 n n) h) .none hpo (dU n v.cells.toList) _ hL with h1|⟨z',cs',h1,h2,h3,h4⟩
 · rw [h1];trivial
 · rw [h1,eG,eF]
   have hlen:z'.length=cs'.size:=by rw [h3.1];simp
   have hc:=cY.newRow (w':=w.alloc (.cells cs' e)) (s:=0) (e:=e) (cl:=true) (n:=z'.length) hr (dA.cells h3) (by omega) (fun _=>hlen) (zJ _) rfl rfl rfl rfl
   have hO:=uH
   refine cK.value (cV.new _ hr.base) (v':=.slice (some ⟨w.heap.size,0,none⟩) n n) ?_ hc (.slice h.next 0 n n _ (Map.fM _ _ _) (by omega) (Nat.le_refl _))
   have hsz0:(sizeOf e).run P w=.ok ti.size w:=by simp [sizeOf,typeInfo,hi]
   have hz0:(zeroValue e).run P w=.ok v w:=by simp [zeroValue,typeInfo,hi,hiz]
   rw [hsz] at h2 hn
   have hbig:¬ n*ti.size>2 ^ 24:=by omega
   have hfill:Instr.fill (fun i=>some (i*ti.size,ti.size)) (madeCells v.cells (n*ti.size)) (parts.map fun (i,x)=>(i,a.eval x)).toList=some cs':=by
    rw [Array.toList_map];exact h2
   simp only [execOp,ho,Instr.buildSlice,Sem.run_bind,run_underlying ht,Result.andThen_ok,hsz0]
   rw [if_neg hbig]
   by_cases h0:n*ti.size=0
   · have e0:(Array.range (n*ti.size)).map (fun x=>(#[]:Array Value)[x % (#[]:Array Value).size]!)=madeCells v.cells (n*ti.size):=by
      rw [h0];simp [madeCells]
     simp only [if_pos h0,Sem.run_bind,Sem.run_pure,Result.andThen_ok]
     rw [e0,hfill]
     rfl
   · simp only [Sem.run_pure,Result.andThen_ok,if_neg h0,Sem.run_bind,hz0]
     rw [show (Array.range (n*ti.size)).map (fun x=>v.cells[x % v.cells.size]!)=madeCells v.cells (n*ti.size) from rfl,hfill]
     rfl
theorem Rk {s d e:TypeId} {x:Operand} (ho:o.op=.convert s d x) (hs:P.underlying s=some .string) (hd:P.underlying d=some (.slice e)) (he:P.underlying e=some (.int .u8)):lL P gs ds o (zH e (aU gs ds x)):=by
 intro call hcall lo tm f h a w hG hE hr
 have hx:=bJ hG hE x
 unfold zH
 rcases mV (bW (aU gs ds x) lo tm) (fun s=>bN (len (bl s)) fun n=>bif Nat.blt n eY then gT h e (Jv (bl s)) n false fun b h=>bN (cM 1 n) fun c=>fV.val (cB b 0 n c) h else .none) .none with ⟨str,e1,h1⟩|h1
 · rw [h1,bD];rw [e1] at hx
   have hxe:=hx.jW
   rw [eF,jD]
   cases hlt:Nat.blt str.size eY with
   | false=>trivial
   | true =>
    have hlt:=Nat.blt_eq.mp hlt
    show cK P f h w a o (gT h e (Jv (bl str)) str.size false fun b h=>bN (cM 1 str.size) fun c=>fV.val (cB b 0 str.size c) h)
    rw [eG,bD]
    have hge:=Di w str.size 0 e
    have hrun:=run_bytes_of_string (P:=P) w s d e str hs hd he
    generalize grownCap w str.size 0 e=cap at *
    have hrow:(bytesRow str cap).toList=Jv (bl str)++List.replicate (cap - str.size) (.int .u8 0):=by
     rw [vF];simp [bytesRow,bl,xG]
    have hsize:(bytesRow str cap).size=cap:=by
     have:=congrArg List.length hrow
     rw [vF] at this
     simp [jD] at this
     omega
    have hc:=cY.newRow (w':=w.drew.alloc (.cells (bytesRow str cap) e ((bytesRow str cap).size,(bytesRow str cap).size+1))) (s:=1) (e:=e) (cl:=false) (n:=str.size) (l:=Jv (bl str)) hr (arr:=bytesRow str cap) (fun k v hk hkn=>by
     have hk2:(bytesRow str cap)[k]?=some v:=by
      have h3:(bytesRow str cap).toList[k]?=some v:=by
       rw [hrow,List.getElem?_append_left (by rw [vF];simpa [jD] using hkn)];exact hk
      simpa using h3
     refine ⟨v,hk2,?_⟩
     rw [vF] at hk
     have:=List.mem_of_getElem? hk
     obtain ⟨b,_,rfl⟩:=List.mem_map.1 this
     exact .int _ _) (by omega) (fun h=>by cases h) (fun k hk h=>by omega) rfl rfl rfl rfl
    refine cK.value (cV.new _ hr.base) (v':=.slice (some ⟨w.heap.size,0,none⟩) str.size cap) ?_ hc ?_
    · simp only [execOp,ho,hxe,Sem.run_bind,hrun];rfl
    · refine .iM h.next 0 str.size _ str.size _ 0 cap (Map.fM _ _ _) ?_ hlt (Nat.le_refl _) hge (.inl rfl) ?_
      · show Nat.add (Nat.mul eY (Nat.succ 1)) str.size=eY*(1+1)+str.size
        rfl
      · show 0+cap*1≤(bytesRow str cap).size
        rw [hsize];omega
 · rw [h1];trivial
end
section
variable {P:Program} {gs:List Nat} {ds:List (Option Tmp)} {o:Oper}
theorem Dj {h:Hp} {b ao m:Nat} {cs:List Value} (hc:cellsOf h b ao m=some cs):∃ c n e cl ro,h.at b=some (.row c n e cl ro)∧ao+m≤n∧cR c ao m []=some cs:=by
 unfold cellsOf at hc
 obtain ⟨ob,hob,hc⟩:=fN _ _ hc
 obtain ⟨c,n,e,cl,ro,rfl,h1,h2⟩:=Dg hc
 exact ⟨c,n,e,cl,ro,hob,h1,h2⟩
theorem yG {w:World} {A:Addr} {l':List Value} (h:∀ j v,l'[j]?=some v→w.cell? (A.add j)=some v) {m:Nat} (hm:m≤l'.length):(loadCells A m).run P w=.ok (l'.take m).toArray w:=by
 have:=run_loadCells_list (P:=P) w A (l'.take m) fun j v hj=>by
  rw [List.getElem?_take] at hj
  split at hj
  · exact h j v hj
  · cases hj
 rwa [List.length_take,Nat.min_eq_left hm] at this
theorem aIk {R:Type} {f:Map} {h:Hp} {w:World} {s:Nat} {v v':Value} (hr:gX f h w) (hv:bS f v v') (k:Nat→List Value→R) (z:R):Ut h s v k z=z ∨
 ∃ n new new',Ut h s v k z=k n new∧dA f new new'∧new.length=n*s∧(∀ w:World,(Builtin.lenOf v').run P w=.ok n w)∧(∀ w2:World,w2.heap=w.heap→∀ m,m≤n→(Builtin.firstCells s m v').run P w2=.ok (new'.take (m*s)).toArray w2):=by
 cases v with
 | slice p l c =>
  have e1:Ut h s (.slice p l c) k z=bif Nat.beq l 0 then k 0 [] else Option.rec (motive:=fun _=>R) z (fun a=>eC (cellsOf h a.block a.off (Nat.mul l s)) (k l) z) p:=rfl
  rw [e1]
  cases hl:Nat.beq l 0 with
  | true =>
   have:=Nat.eq_of_beq_eq_true hl;subst this
   refine .inr ⟨0,[],[],rfl,dA.nil f,by simp,?_⟩
   have hfin:∃ q c',v'=.slice q 0 c':=by
    cases p with
    | none=>cases hv;exact ⟨_,_,rfl⟩
    | some ad=>obtain ⟨i,A,c',_,hx,_⟩:=hv.mD;exact ⟨_,_,hx⟩
   obtain ⟨q,c',rfl⟩:=hfin
   refine ⟨fun w=>rfl,fun w2 _ m hm=>?_⟩
   have:m=0:=by omega
   subst this
   cases q with
   | none=>simp [Builtin.firstCells]
   | some A=>simp [Builtin.firstCells,loadCells,loadCellsFrom]
  | false =>
   have hl0:0<l:=by
    rcases Nat.eq_zero_or_pos l with h|h
    · subst h;cases hl
    · exact h
   cases p with
   | none=>exact .inl rfl
   | some ad =>
    show eC (cellsOf h ad.block ad.off (Nat.mul l s)) (k l) z=z∨_
    cases hcs:cellsOf h ad.block ad.off (Nat.mul l s) with
    | none=>exact .inl rfl
    | some cs =>
     obtain ⟨i,A,c',hi,rfl,hA⟩:=hv.mD
     obtain ⟨c2,n,e,cl,ro,hat,hm,hld⟩:=Dj hcs
     obtain ⟨x,hx,hor⟩:=hr.obj _ _ i hi hat
     obtain ⟨h1,l',h2,h3,h4⟩:=yE (P:=P) hor hx hm hld
     refine .inr ⟨l,cs,l',(by show eC (cellsOf h ad.block ad.off (Nat.mul l s)) (k l) z=_;rw [hcs];rfl),h2,h1,fun w=>rfl,fun w2 hw2 m hm2=>?_⟩
     rw [hA hl0]
     have h5:∀ j v,l'[j]?=some v→w2.cell? ((⟨i.fE,i.o+ad.off,none⟩:Addr).add j)=some v:=fun j v hj=>by
      have:=h3 j v hj
      unfold World.cell? at this ⊢
      rw [hw2];exact this
     exact yG h5 (by rw [← h2.1,h1];exact Nat.mul_le_mul_right s hm2)
 | string str =>
  have:=hv.jW;subst this
  have e1:Ut h s (.string str) k z=bif Nat.beq s 1 then k (len (bl str)) (Jv (bl str)) else z:=rfl
  rw [e1]
  cases hs:Nat.beq s 1 with
  | false=>exact .inl rfl
  | true =>
   have:=Nat.eq_of_beq_eq_true hs;subst this
   refine .inr ⟨str.size,Jv (bl str),Jv (bl str),by rw [eF,jD];rfl,?_,by rw [vF];simp [jD],fun w=>rfl,fun w2 _ m hm=>?_⟩
   · rw [vF]
     exact dA.plain (by rw [List.all_map,List.all_eq_true];intro b _;rfl)
   · rw [vF,Nat.mul_one,← List.map_take]
     simp only [Builtin.firstCells,Sem.run_pure]
     congr 1
     apply Array.toList_inj.1
     have e2:(str.extract 0 m).data.toList=(bl str).take m:=by
      simp [bl,ByteArray.data_extract]
     simp only [Array.toList_map,e2]
     rfl
 | _=>exact .inl rfl
theorem bS.Ft {f:Map} {v':Value} {a:Addr} {l c:Nat} (h:bS f (.slice (some a) l c) v') (hl:0<l):∃ i c',f a.block=some i∧v'=.slice (some ⟨i.fE,i.o+a.off,none⟩) l c':=by
 obtain ⟨i,A,c',hi,rfl,hA⟩:=h.mD
 exact ⟨i,c',hi,by rw [hA hl]⟩
theorem Rl (k:IntKind) (n:Nat) (h:Hp):Oa (jS k n) h=.val (.int k (n:Int)) h:=by rw [lY];rfl
theorem Ko {dT sT ty e:TypeId} {ti:TypeInfo} {base:Option Addr} {dl dc n:Nat} {src:Value} {cs:List Value} {w w':World} (hu:P.underlying dT=some (.slice e)) (hi:P.info? e=some ti) (hlen:(Builtin.lenOf src).run P w=.ok n w)
 (hf:(Builtin.firstCells ti.size (Nat.min n dl) src).run P w=.ok cs.toArray w) (hst:match base with|some A=>(storeCells A cs).run P w=.ok () w'|none=>w'=w) :
 (Builtin.copy_ #[dT,sT] ty #[.slice base dl dc,src]).run P w=.ok (goInt (Nat.min n dl)) w':=by
 have hs:(sizeOf e).run P w=.ok ti.size w:=by simp [sizeOf,typeInfo,hi]
 cases base with
 | none=>subst hst;simp [Builtin.copy_,run_underlying hu,hlen,hs,hf]
 | some A=>simp [Builtin.copy_,run_underlying hu,hlen,hs,hf,hst]
theorem aN1 {x y:Operand} {args:Array Operand} {ats:Array TypeId} {t u e:TypeId} {ti:TypeInfo} (ho:o.op=.call { callee:=.builtin .copy,args:=args,argTypes:=ats }) (ha:args.toList=[x,y]) (hat:ats.toList=[t,u])
 (ht:P.underlying t=some (.slice e)) (hi:P.info? e=some ti):lL P gs ds o (aND ti.size (aU gs ds x) (aU gs ds y)):=by
 intro call hcall lo tm f h a w hG hE hr
 have hx:=bJ hG hE x
 have hy:=bJ hG hE y
 have:=vD ha;subst this
 have:=vD hat;subst this
 obtain ⟨cs,hrun⟩:=iC (P:=P) a.eval w ho
 have e4:(#[x,y]:Array Operand).map a.eval=#[a.eval x,a.eval y]:=by simp
 rw [e4] at hrun
 have hfin:∀ (f':Map) (h':Hp) (w':World) (m:Nat),cV h h'→cY f h w f' h' w'→(Builtin.copy_ #[t,u] o.type #[a.eval x,a.eval y]).run P w=.ok (goInt m) w'→cK P f h w a o (.val (.int .i64 (m:Int)) h'):=fun f' h' w' m h1 h2 h3=>by
  refine cK.value h1 (v':=.int .i64 (m:Int)) ?_ h2 (.int _ _)
  rw [hrun]
  simp [builtin,h3,goInt]
 unfold aND
 rcases aIk (P:=P) hr hy (s:=ti.size) (fun n new=>rW (bW (aU gs ds x) lo tm)
  (fun b o l _=>bN (xU n l) fun m=>bif Nat.beq m 0 then Oa (jS .i64 0) h else jR h b o (xW (Nat.mul m ti.size) new) (fun h=>Oa (jS .i64 m) h) .none) (fun l _=>bif Nat.beq l 0 then Oa (jS .i64 0) h else .none) .none) .none with h1|⟨n,new,new',h1,h2,h3,h4,h5⟩
 · rw [h1];trivial
 · rw [h1]
   rcases Av (bW (aU gs ds x) lo tm) (fun b o l _=>bN (xU n l) fun m=>bif Nat.beq m 0 then Oa (jS .i64 0) h else jR h b o (xW (Nat.mul m ti.size) new) (fun h=>Oa (jS .i64 m) h) .none) (fun l _=>bif Nat.beq l 0 then Oa (jS .i64 0) h else .none) fV.none with ⟨ad,l,c,e1,h6⟩|⟨l,c,e1,h6⟩|h6
   · rw [h6,bD,Re];rw [e1] at hx
     have hmin:Nat.min n l=min n l:=rfl
     have hf5:=h5 w rfl (Nat.min n l) (Nat.min_le_left _ _)
     cases hm:Nat.beq (min n l) 0 with
     | true =>
      have hm:=Nat.eq_of_beq_eq_true hm
      show cK P f h w a o (Oa (jS .i64 0) h)
      rw [Rl]
      obtain ⟨i,A,c',hi',hxe,hA⟩:=hx.mD
      refine hfin f h w 0 (cV.refl h) (cY.refl hr) ?_
      rw [hxe]
      have:=Ko (P:=P) (sT:=u) (ty:=o.type) (base:=some A) (dl:=l) (dc:=c') (cs:=new'.take (Nat.min n l*ti.size)) (w':=w) ht hi (h4 w) hf5 (by
       show (storeCells A (new'.take (Nat.min n l*ti.size))).run P w=_
       rw [hmin,hm];simp [storeCells])
      rw [hmin,hm] at this
      exact this
     | false =>
      have hm0:0<min n l:=by
       rcases Nat.eq_zero_or_pos (min n l) with h|h
       · rw [h] at hm;cases hm
       · exact h
      obtain ⟨i,c',hi',hxe⟩:=hx.Ft (by omega)
      show cK P f h w a o (jR h ad.block ad.off (xW (Nat.mul (min n l) ti.size) new) (fun h=>Oa (jS .i64 (min n l)) h) .none)
      rw [Kf]
      rcases Dh (P:=P) (o:=ad.off) hr hi' (h2.take (Nat.mul (min n l) ti.size)) (fun h=>Oa (jS .i64 (min n l)) h) .none with h7|⟨h',w',h7,h8,h9,h10⟩
      · rw [h7];trivial
      · rw [h7,Rl]
        refine hfin f h' w' _ h8 h9 ?_
        rw [hxe]
        exact Ko (P:=P) (sT:=u) (ty:=o.type) (base:=some ⟨i.fE,i.o+ad.off,none⟩) (dl:=l) (dc:=c') (cs:=new'.take (Nat.min n l*ti.size)) (w':=w') ht hi (h4 w) hf5 h10
   · rw [h6];rw [e1] at hx
     cases hl:Nat.beq l 0 with
     | false=>trivial
     | true =>
      have:=Nat.eq_of_beq_eq_true hl;subst this
      show cK P f h w a o (Oa (jS .i64 0) h)
      rw [Rl]
      have hxe:a.eval x=.slice none 0 c:=by
       generalize a.eval x=ux at *
       cases hx;rfl
      refine hfin f h w 0 (cV.refl h) (cY.refl hr) ?_
      rw [hxe]
      have:=Ko (P:=P) (sT:=u) (ty:=o.type) (base:=none) (dl:=0) (dc:=c) (cs:=new'.take (Nat.min n 0*ti.size)) (w':=w) ht hi (h4 w) (h5 w rfl _ (Nat.min_le_left _ _)) rfl
      rwa [show Nat.min n 0=0 from Nat.min_zero n] at this
   · rw [h6];trivial
theorem cY.drop {f:Map} {h:Hp} {w:World} {b:Nat} {i:Cn} (hr:gX f h w) (hb:f b=some i) (hl:(h.at b).isSome):cY f h w f (h.put b none) w:=by
 have hat:∀ c,(h.put b none).at c=if b=c then none else h.at c:=fun c=>Hp.uW h b c none
 refine ⟨hr,Map.le_refl f,⟨?_,?_,hr.fresh,?_,hr.base⟩,Nat.le_refl _,rfl,rfl,rfl,fun _ _ _=>rfl,fun c j e e'=>by rw [e] at e';cases e'⟩
 · intro c o' j hc ho'
   rw [hat] at ho'
   split at ho'
   · cases ho'
   · exact hr.obj c o' j hc ho'
 · intro c d j k hc hd hlc hld e
   rw [hat] at hlc hld
   refine hr.inj c d j k hc hd ?_ ?_ e
   · split at hlc
     · cases hlc
     · exact hlc
   · split at hld
     · cases hld
     · exact hld
 · intro c hc
   rw [hat]
   split
   · rfl
   · exact hr.dead c hc
theorem aFl (m:Nat):∀ (r c:Nat),c<m→Builtin.growBy m r c≤m+(m+768) / 4:=by
 intro r
 induction r with
 | zero=>intro c hc;simp [Builtin.growBy];omega
 | succ r ih =>
  intro c hc
  simp only [Builtin.growBy]
  rw [if_neg (by omega)]
  by_cases h:c+(c+768) / 4<m
  · exact ih _ h
  · cases r with
    | zero=>simp [Builtin.growBy];omega
    | succ r=>simp only [Builtin.growBy];rw [if_pos (by omega)];omega
theorem Dk {need sCap:Nat} (h:sCap<need) (hn:need≤16777216):Builtin.nextslicecap need sCap≤33554432:=by
 unfold Builtin.nextslicecap
 split
 · omega
 · split
   · omega
   · have:=aFl need 4 sCap h;omega
def aIl (P:Program) (e:TypeId) (ti:TypeInfo) (zeros:Bool) (n:Nat) (x:Value) (news:List Value) (w:World):Prop :=
 (if zeros then ∃ (k:IntKind) (z:Value),x=.int k (n:Int)∧n≤16777216∧ti.bytes≤8388608∧ti.zero=some z∧z.cells.size=ti.size∧news=dU n z.cells.toList
   else (Builtin.lenOf x).run P w=.ok n w∧∀ w2:World,w2.heap=w.heap→(Builtin.firstCells ti.size n x).run P w2=.ok news.toArray w2)
theorem qF (zero:Array Value) (n s:Nat) (hs:zero.size=s):(Builtin.zeroCells zero n).toList=dU n zero.toList:=by
 have:=Km zero n s hs
 rw [← this]
 unfold Builtin.zeroCells
 rw [hs]
section
variable {t u ty e:TypeId} {ti:TypeInfo} {zeros:Bool} {base:Option Addr} {sLen sCap n:Nat} {x:Value} {news:List Value} {w:World} {z:Value}
theorem vG (ht:P.underlying t=some (.slice e)) (hu:if zeros then ∃ k,P.underlying u=some (.int k) else (∃ e',P.underlying u=some (.slice e'))∨P.underlying u=some .string) (hi:P.info? e=some ti) (ha:aIl P e ti zeros n x news w) (hfit:sLen+n≤sCap) {w':World}
 (hst:match base with|some A=>(storeCells (A.add (sLen*ti.size)) news).run P w=.ok () w'|none=>w'=w) :
 (Builtin.append_ #[t,u] ty #[.slice base sLen sCap,x]).run P w=.ok (.slice base (sLen+n) sCap) w':=by
 cases zeros with
 | true =>
  obtain ⟨k,z,rfl,hn,hb,hz,hzs,rfl⟩:∃ (k:IntKind) (z:Value),x=.int k (n:Int)∧n≤16777216∧ti.bytes≤8388608∧ti.zero=some z∧z.cells.size=ti.size∧news=dU n z.cells.toList:=ha
  obtain ⟨k',hu⟩:∃ k,P.underlying u=some (.int k):=hu
  have hw:IntKind.i64.wrap (n:Int)=n:=by rw [IntKind.wrap_i64];omega
  have hneg:¬ ((n:Int)<0):=by omega
  have hmul:n*ti.bytes≤16777216*8388608:=Nat.mul_le_mul hn hb
  have hbig:¬ (281474976710656<(n:Int)*(ti.bytes:Int)):=by
   have:((n*ti.bytes:Nat):Int)≤((16777216*8388608:Nat):Int):=Int.ofNat_le.mpr hmul
   rw [Int.natCast_mul] at this
   have h2:((16777216*8388608:Nat):Int)≤281474976710656:=by decide
   omega
  have hzc:=qF z.cells n ti.size hzs
  by_cases h0:n*ti.size=0
  · have hr0:dU n z.cells.toList=[]:=by
     apply List.eq_nil_of_length_eq_zero
     rw [mJ];simpa [hzs] using h0
    rw [hr0] at hst
    have hw':w'=w:=by
     cases base with
     | none=>exact hst
     | some A=>simp [storeCells] at hst;exact hst.symm
    subst hw'
    cases base<;>simp [Builtin.append_,run_underlying ht,run_underlying hu,sizeOf,typeInfo,hi,asInt,asIntOf,hw,hneg,hbig,hfit,h0,storeCells]
  · cases base with
    | none=>subst hst;simp [Builtin.append_,run_underlying ht,run_underlying hu,sizeOf,typeInfo,zeroValue,hz,hi,asInt,asIntOf,hw,hneg,hbig,hfit,h0]
    | some A =>
     have hst:(storeCells (A.add (sLen*ti.size)) (dU n z.cells.toList)).run P w=.ok () w':=hst
     simp [Builtin.append_,run_underlying ht,run_underlying hu,sizeOf,typeInfo,zeroValue,hz,hi,asInt,asIntOf,hw,hneg,hbig,hfit,h0,hzc,hst]
 | false =>
  obtain ⟨h1,h2⟩:(Builtin.lenOf x).run P w=.ok n w∧∀ w2:World,w2.heap=w.heap→(Builtin.firstCells ti.size n x).run P w2=.ok news.toArray w2:=ha
  have h2':=h2 w rfl
  rcases hu with ⟨e',hu⟩|hu
  · cases base with
    | none=>subst hst;simp [Builtin.append_,run_underlying ht,run_underlying hu,sizeOf,typeInfo,hi,h1,hfit,h2']
    | some A =>
     have hst:(storeCells (A.add (sLen*ti.size)) news).run P w=.ok () w':=hst
     simp [Builtin.append_,run_underlying ht,run_underlying hu,sizeOf,typeInfo,hi,h1,hfit,h2',hst]
  · cases base with
    | none=>subst hst;simp [Builtin.append_,run_underlying ht,run_underlying hu,sizeOf,typeInfo,hi,h1,hfit,h2']
    | some A =>
     have hst:(storeCells (A.add (sLen*ti.size)) news).run P w=.ok () w':=hst
     simp [Builtin.append_,run_underlying ht,run_underlying hu,sizeOf,typeInfo,hi,h1,hfit,h2',hst]
theorem Hv (ht:P.underlying t=some (.slice e)) (hu:if zeros then ∃ k,P.underlying u=some (.int k) else (∃ e',P.underlying u=some (.slice e'))∨P.underlying u=some .string) (hi:P.info? e=some ti) (hz:ti.zero=some z) (ha:aIl P e ti zeros n x news w) (hg:sCap<sLen+n)
 (hn:sLen+n≤16777216) (hb:ti.bytes≤8388608) {olds:List Value} (hold:(Builtin.firstCells ti.size sLen (.slice base sLen sCap)).run P w.drew=.ok olds.toArray w.drew) :
 ∃ arr:Array Value,arr.toList=olds++news++(Builtin.zeroCells z.cells (grownCap w (sLen+n) sCap e - (sLen+n))).toList ∧
 (Builtin.append_ #[t,u] ty #[.slice base sLen sCap,x]).run P w=.ok (.slice (some ⟨w.heap.size,0,none⟩) (sLen+n) (grownCap w (sLen+n) sCap e)) (w.drew.alloc (.cells arr e)):=by
 have hnf:¬ (sLen+n≤sCap):=by omega
 have h63:¬ (9223372036854775807<((sLen:Int)+(n:Int))):=by omega
 have h48:¬ (281474976710656<Builtin.nextslicecap (sLen+n) sCap*ti.bytes):=by
  have h1:=Dk hg hn
  have:=Nat.mul_le_mul h1 hb
  omega
 cases zeros with
 | true =>
  obtain ⟨k,z2,rfl,hn2,_,hz2,hzs,rfl⟩:∃ (k:IntKind) (z:Value),x=.int k (n:Int)∧n≤16777216∧ti.bytes≤8388608∧ti.zero=some z∧z.cells.size=ti.size∧news=dU n z.cells.toList:=ha
  rw [hz] at hz2;cases hz2
  have hneg:¬ ((n:Int)<0):=by omega
  obtain ⟨k',hu⟩:∃ k,P.underlying u=some (.int k):=hu
  have hw:IntKind.i64.wrap (n:Int)=n:=by rw [IntKind.wrap_i64];omega
  have hmul:n*ti.bytes≤16777216*8388608:=Nat.mul_le_mul hn2 hb
  have hbig:¬ (281474976710656<(n:Int)*(ti.bytes:Int)):=by
   have:((n*ti.bytes:Nat):Int)≤((16777216*8388608:Nat):Int):=Int.ofNat_le.mpr hmul
   rw [Int.natCast_mul] at this
   have h2:((16777216*8388608:Nat):Int)≤281474976710656:=by decide
   omega
  have hzc:=qF z.cells n ti.size hzs
  by_cases h0:n*ti.size=0
  · have hr0:dU n z.cells.toList=[]:=by
     apply List.eq_nil_of_length_eq_zero
     rw [mJ];simpa [hzs] using h0
    refine ⟨olds.toArray++#[]++Builtin.zeroCells z.cells (grownCap w (sLen+n) sCap e - (sLen+n)),by simp [hr0],?_⟩
    simp [Builtin.append_,run_underlying ht,run_underlying hu,sizeOf,typeInfo,zeroValue,hz,hi,asInt,asIntOf,hw,hneg,hbig,hnf,h63,h48,h0,Question.forced,hold,newRow,grownCap]
  · refine ⟨olds.toArray++Builtin.zeroCells z.cells n++Builtin.zeroCells z.cells (grownCap w (sLen+n) sCap e - (sLen+n)),by simp [hzc],?_⟩
    simp [Builtin.append_,run_underlying ht,run_underlying hu,sizeOf,typeInfo,zeroValue,hz,hi,asInt,asIntOf,hw,hneg,hbig,hnf,h63,h48,h0,Question.forced,hold,newRow,grownCap]
 | false =>
  obtain ⟨h1,h2⟩:(Builtin.lenOf x).run P w=.ok n w∧∀ w2:World,w2.heap=w.heap→(Builtin.firstCells ti.size n x).run P w2=.ok news.toArray w2:=ha
  have h2':=h2 w.drew rfl
  refine ⟨olds.toArray++news.toArray++Builtin.zeroCells z.cells (grownCap w (sLen+n) sCap e - (sLen+n)),by simp,?_⟩
  rcases hu with ⟨e',hu⟩|hu
  · simp [Builtin.append_,run_underlying ht,run_underlying hu,sizeOf,typeInfo,zeroValue,hz,hi,h1,hnf,h63,h48,Question.forced,hold,h2',newRow,grownCap]
    congr 2
    apply Array.ext'
    simp [List.append_assoc]
  · simp [Builtin.append_,run_underlying ht,run_underlying hu,sizeOf,typeInfo,zeroValue,hz,hi,h1,hnf,h63,h48,Question.forced,hold,h2',newRow,grownCap]
    congr 2
    apply Array.ext'
    simp [List.append_assoc]
end
end
section
variable {P:Program} {gs:List Nat} {ds:List (Option Tmp)} {o:Oper}
theorem Pl {f:Map} {h:Hp} {w w':World} {e:TypeId} {s need cap:Nat} {l l' rest:List Value} {arr:Array Value} (hr:gX f h w) (hl:dA f l l') (hlen:l.length=need*s) (hn:need≤16777216) (hcap:need≤cap)
 (harr:arr.toList=l'++rest) (hrest:rest.length=(cap - need)*s) (hheap:w'.heap=w.heap.push (.cells arr e)) (ht:w'.tape=w.tape) (hos:w'.os=w.os) (hout:w'.output=w.output) :
 ∃ h' f' c,opened e s l need h=.val (cB h.next 0 need c) h'∧cV h h'∧cY f h w f' h' w'∧bS f' (cB h.next 0 need c) (.slice (some ⟨w.heap.size,0,none⟩) need cap):=by
 have hsz:arr.size=cap*s:=by
  have:=congrArg List.length harr
  simp [hrest,← hl.1,hlen] at this
  rw [this,← Nat.add_mul];congr 1;omega
 have hle:l.length≤arr.size:=by rw [hlen,hsz];exact Nat.mul_le_mul_right s hcap
 have hc:=cY.newRow (f:=f) (h:=h) (w:=w) (w':=w') (l:=l) (arr:=arr) (e:=e) (n:=l.length) (cl:=false) (s:=s) (fz:=(0,0)) hr (fun k v hk hkn=>by
  obtain ⟨v',h1,h2⟩:=hl.2 k v hk
  refine ⟨v',?_,h2⟩
  have h3:arr.toList[k]?=some v':=by rw [harr,List.getElem?_append_left (by rw [← hl.1];exact hkn)];exact h1
  simpa using h3) hle (fun h=>by cases h) (zJ _) hheap ht hos hout
 refine ⟨_,_,cM s need,?_,cV.new _ hr.base,hc,?_⟩
 · unfold opened
   rw [eG,bD,eF]
 · have hO:=uH
   refine .iM h.next 0 need _ need _ 0 cap (Map.fM _ _ _) ?_ (by omega) (Nat.le_refl _) hcap (.inl rfl) ?_
   · show Nat.add (Nat.mul eY (Nat.succ s)) need=eY*(s+1)+need
     rfl
   · show 0+cap*s≤arr.size
     omega
theorem bS.aN2 {f:Map} {p:Addr} {l c need:Nat} {v':Value} (h:bS f (.slice (some p) l c) v') (hn:need≤sure c):∃ A c',v'=.slice (some A) l c'∧need≤c'∧bS f (.slice (some p) need c) (.slice (some A) need c'):=by
 cases h with
 | slice b o _ _ i h hc hl =>
  rw [(jP hc).2] at hn
  exact ⟨_,_,rfl,hn,.slice b o need c i h hc hn⟩
 | iM b o _ _ lb i o' c' h hc hlb hl hb ho hnn =>
  rw [(kK hc hlb).2.1] at hn
  exact ⟨_,_,rfl,by omega,.iM b o need c lb i o' c' h hc hlb hn hb ho hnn⟩
theorem aIm {f:Map} {h:Hp} {w:World} {a:Act} {t u ty e:TypeId} {ti:TypeInfo} {z:Value} {zeros:Bool} {n l c:Nat} {new new':List Value} {p:Addr} {s' x':Value} (hr:gX f h w)
 (ht:P.underlying t=some (.slice e)) (hu:if zeros then ∃ k,P.underlying u=some (.int k) else (∃ e',P.underlying u=some (.slice e'))∨P.underlying u=some .string) (hi:P.info? e=some ti) (hz:ti.zero=some z) (hzs:z.cells.size=ti.size)
 (hb:ti.bytes≤8388608) (ha:aIl P e ti zeros n x' new' w) (hnew:dA f new new') (hnl:new.length=n*ti.size) (hs:bS f (.slice (some p) l c) s')
 (hrun:(execOp a.eval o).run P w=((Builtin.append_ #[t,u] ty #[s',x']).run P w).andThen fun v w=>.ok (.value v) w):cK P f h w a o (oM e ti.size h n new p.block p.off l c):=by
 have hsp:p.spot=none:=by cases hs<;>rfl
 have hpe:(⟨p.block,p.off,none⟩:Addr)=p:=by cases p;cases hsp;rfl
 unfold oM
 rw [bD]
 show cK P f h w a o (bif Nat.ble (l+n) (sure c) then _ else _)
 cases hfit:Nat.ble (l+n) (sure c) with
 | true =>
  have hfit:=Nat.ble_eq.mp hfit
  obtain ⟨A,c',rfl,hc',hv'⟩:=hs.aN2 hfit
  cases hn0:Nat.beq n 0 with
  | true =>
   have:=Nat.eq_of_beq_eq_true hn0;subst this
   show cK P f h w a o (.val (cB p.block p.off l c) h)
   have hnil:new'=[]:=by
    apply List.eq_nil_of_length_eq_zero
    rw [← hnew.1,hnl];simp
   subst hnil
   have hap:=vG (P:=P) (t:=t) (u:=u) (ty:=ty) (base:=some A) (w':=w) ht hu hi ha hc' (by simp [storeCells])
   refine cK.value (cV.refl h) (v':=.slice (some A) (l+0) c') ?_ (cY.refl hr) ?_
   · rw [hrun,hap];rfl
   · unfold cB;rw [hpe];exact hv'
  | false =>
   have hnpos:0<n:=by
    rcases Nat.eq_zero_or_pos n with h|h
    · subst h;cases hn0
    · exact h
   show cK P f h w a o (jR h p.block (Nat.add p.off (Nat.mul l ti.size)) new (fun h=>.val (cB p.block p.off (l+n) c) h) .none)
   obtain ⟨i,c2,hpi,hA⟩:=hv'.Ft (by omega)
   cases hA
   rcases Dh (P:=P) (o:=p.off+l*ti.size) hr hpi hnew (fun h=>fV.val (cB p.block p.off (l+n) c) h) fV.none with h7|⟨h',w',h7,h8,h9,h10⟩
   · exact (by rw [show Nat.add p.off (Nat.mul l ti.size)=p.off+l*ti.size from rfl,h7];trivial)
   · rw [show Nat.add p.off (Nat.mul l ti.size)=p.off+l*ti.size from rfl,h7]
     have hap:=vG (P:=P) (t:=t) (u:=u) (ty:=ty) (base:=some ⟨i.fE,i.o+p.off,none⟩) (w':=w') ht hu hi ha hc' (by
      show (storeCells ((⟨i.fE,i.o+p.off,none⟩:Addr).add (l*ti.size)) new').run P w=_
      rw [uG,Nat.add_assoc];exact h10)
     refine cK.value h8 (v':=.slice (some ⟨i.fE,i.o+p.off,none⟩) (l+n) c') ?_ h9 ?_
     · rw [hrun,hap];rfl
     · unfold cB;rw [hpe];exact hv'
 | false =>
  have hfit':sure c<l+n:=by
   rcases Nat.lt_or_ge (sure c) (l+n) with h|h
   · exact h
   · rw [Nat.ble_eq.mpr h] at hfit;cases hfit
  show cK P f h w a o (bif Nat.ble (l+n) 16777216 then _ else .none)
  cases hbig:Nat.ble (l+n) 16777216 with
  | false=>trivial
  | true =>
  have hbig:=Nat.ble_eq.mp hbig
  have hrest:∀ cap,(Builtin.zeroCells z.cells (cap - (l+n))).toList.length=(cap - (l+n))*ti.size:=fun cap=>by
   rw [qF _ _ _ hzs,mJ];simp [hzs]
  have hgrow:∀ (h1:Hp) (A:Addr) (c':Nat) (dL old':List Value),s'=.slice (some A) l c'→c'<l+n→dA f dL old'→dL.length=l*ti.size→(Builtin.firstCells ti.size l (.slice (some A) l c')).run P w.drew=.ok old'.toArray w.drew →
   cV h h1→cY f h w f h1 w→h1.next=h.next→cK P f h w a o (opened e ti.size (dL++new) (l+n) h1):=fun h1 A c' dL old' hs' hlt hold hol hload hst1 hcs1 hnx=>by
   subst hs'
   obtain ⟨arr,harr,hap⟩:=Hv (P:=P) (t:=t) (u:=u) (ty:=ty) (base:=some A) (sLen:=l) (sCap:=c') ht hu hi hz ha hlt hbig hb hload
   have hge:=Di w (l+n) c' e
   generalize grownCap w (l+n) c' e=cap at *
   obtain ⟨h',f',c2,g1,g2,g3,g4⟩:=Pl (f:=f) (h:=h1) (w:=w) (w':=w.drew.alloc (.cells arr e)) (e:=e) (s:=ti.size) hcs1.rel (hold.append hnew) (by rw [List.length_append,hol,hnl,Nat.add_mul]) hbig hge harr (hrest cap) rfl rfl rfl rfl
   rw [g1]
   refine cK.value (hst1.trans g2) (v':=.slice (some ⟨w.heap.size,0,none⟩) (l+n) cap) ?_ (hcs1.trans hst1 g2 g3) g4
   rw [hrun,hap];rfl
  cases hl0:Nat.beq l 0 with
  | true =>
   have:=Nat.eq_of_beq_eq_true hl0;subst this
   show cK P f h w a o (bif eU c then .none else opened e ti.size new (0+n) h)
   cases hop:eU c with
   | true=>trivial
   | false =>
    show cK P f h w a o (opened e ti.size new (0+n) h)
    have hcl:∃ A,s'=.slice (some A) 0 c∧c<0+n:=by
     obtain ⟨i,hpi,⟨hc,_,hxe⟩|⟨lb,_,_,hc,hlb,_⟩⟩:=hs.lF
     · exact ⟨_,hxe,by rw [(jP hc).2] at hfit';exact hfit'⟩
     · rw [(kK hc hlb).1] at hop;cases hop
    obtain ⟨A,hs',hlt⟩:=hcl
    have:=hgrow h A c [] [] hs' hlt (dA.nil f) (by simp) (by simp [Builtin.firstCells,loadCells,loadCellsFrom]) (cV.refl h) (cY.refl hr) rfl
    simpa using this
  | false =>
   have hlpos:0<l:=by
    rcases Nat.eq_zero_or_pos l with h|h
    · subst h;cases hl0
    · exact h
   show cK P f h w a o (eC (cellsOf h p.block p.off (Nat.mul l ti.size)) _ .none)
   cases hcs:cellsOf h p.block p.off (Nat.mul l ti.size) with
   | none=>trivial
   | some dL =>
    obtain ⟨i,c',hpi,hs'⟩:=hs.Ft hlpos
    obtain ⟨cc,m,e',cl,ro,hat,hm,hld⟩:=Dj hcs
    obtain ⟨ox,hox,hor⟩:=hr.obj _ _ i hpi hat
    obtain ⟨h1,old',h2,h3,h4⟩:=yE (P:=P) hor hox hm hld
    have hold:(Builtin.firstCells ti.size l (.slice (some ⟨i.fE,i.o+p.off,none⟩) l c')).run P w.drew=.ok old'.toArray w.drew:=by
     have:=yG (P:=P) (w:=w.drew) (A:=⟨i.fE,i.o+p.off,none⟩) (l':=old') (fun j v hj=>h3 j v hj) (m:=l*ti.size) (by rw [← h2.1,h1];exact Nat.le_refl _)
     rw [List.take_of_length_le (by rw [← h2.1,h1];exact Nat.le_refl _)] at this
     exact this
    have hlive:(h.at p.block).isSome:=by rw [hat];rfl
    show cK P f h w a o (bif eU c then pU h p.block (fun _ _ e' _ ro=>bif ro then .none else bif Nat.beq e e' && Nat.beq (esz c) (Nat.succ ti.size) && bY new then h.nT p.block none fun h=>opened e ti.size (dL++new) (l+n) h else .none) .none else opened e ti.size (dL++new) (l+n) h)
    cases hop:eU c with
    | false =>
     have hlt:c'<l+n:=by
      obtain ⟨i2,hpi2,⟨hc,_,hxe⟩|⟨lb,_,_,hc,hlb,_⟩⟩:=hs.lF
      · rw [hpi] at hpi2;cases hpi2;rw [hs'] at hxe;cases hxe;rw [(jP hc).2] at hfit';exact hfit'
      · rw [(kK hc hlb).1] at hop;cases hop
     exact hgrow h _ c' dL old' hs' hlt h2 h1 hold (cV.refl h) (cY.refl hr) rfl
    | true =>
     show cK P f h w a o (pU h p.block (fun _ _ e' _ ro=>bif ro then .none else bif Nat.beq e e' && Nat.beq (esz c) (Nat.succ ti.size) && bY new then h.nT p.block none fun h=>opened e ti.size (dL++new) (l+n) h else .none) .none)
     have hrk:pU h p.block (fun _ _ e' _ ro=>bif ro then fV.none else bif Nat.beq e e' && Nat.beq (esz c) (Nat.succ ti.size) && bY new then h.nT p.block none fun h=>opened e ti.size (dL++new) (l+n) h else .none) .none =
      bif ro then fV.none else bif Nat.beq e e' && Nat.beq (esz c) (Nat.succ ti.size) && bY new then h.nT p.block none fun h=>opened e ti.size (dL++new) (l+n) h else .none:=by
      unfold pU
      unfold Hp.at at hat
      rw [hat];rfl
     rw [hrk]
     cases ro with
     | true=>trivial
     | false =>
      show cK P f h w a o (bif Nat.beq e e' && Nat.beq (esz c) (Nat.succ ti.size) && bY new then _ else .none)
      cases hcond:(Nat.beq e e' && Nat.beq (esz c) (Nat.succ ti.size) && bY new) with
      | false=>trivial
      | true =>
       rw [Bool.and_eq_true,Bool.and_eq_true] at hcond
       obtain ⟨⟨c1,c2⟩,c3⟩:=hcond
       have c1:=Nat.eq_of_beq_eq_true c1
       have c2:=Nat.eq_of_beq_eq_true c2
       subst c1
       show cK P f h w a o (h.nT p.block none fun h=>opened e ti.size (dL++new) (l+n) h)
       rw [Hp.qD]
       by_cases hcc:c'<l+n
       · exact hgrow (h.put p.block none) _ c' dL old' hs' hcc h2 h1 hold (cV.put none hlive) (cY.drop hr hpi hlive) rfl
       · have hcc:l+n≤c':=by omega
         have hopen:i.s=ti.size∧i.o+p.off+c'*ti.size≤i.n:=by
          obtain ⟨i2,hpi2,⟨hc,_,hxe⟩|⟨lb,o',c2',hc,hlb,hll,hlc,hoo,hnn,hxe⟩⟩:=hs.lF
          · rw [(jP hc).1] at hop;cases hop
          · rw [hpi] at hpi2;cases hpi2
            rw [hs'] at hxe
            cases hxe
            have he:=(kK hc hlb).2.2
            have:i.s=ti.size:=by omega
            rw [this] at hnn
            exact ⟨this,hnn⟩
         obtain ⟨his,hfitn⟩:=hopen
         have hmul:(l+n)*ti.size≤c'*ti.size:=Nat.mul_le_mul_right _ hcc
         rw [Nat.add_mul] at hmul
         have hnl':new'.length=n*ti.size:=by rw [← hnew.1];exact hnl
         have hol':old'.length=l*ti.size:=by rw [← h2.1];exact h1
         cases hor with
         | row _ _ _ _ _ arr e2 fz he hsz hn hcl hro hc =>
         obtain ⟨w',arr',g1,g2,g3,g4,g5,g6,g7,g8,g9⟩:=yF P i.fE e2 fz new' (i.o+p.off+l*ti.size) 0 arr w hox (by rw [hsz,hnl'];omega) (hnew.one c3) (by rw [hsz];exact hro rfl)
         have hap:=vG (P:=P) (t:=t) (u:=u) (ty:=ty) (base:=some ⟨i.fE,i.o+p.off,none⟩) (sLen:=l) (sCap:=c') (w':=w') ht hu hi ha hcc (by
          show (storeCells ((⟨i.fE,i.o+p.off,none⟩:Addr).add (l*ti.size)) new').run P w=_
          rw [uG];exact g1)
         have hnone:f h.next=none:=Map.uV hr (Nat.le_refl _)
         have hlen:(dL++new).length=l*ti.size+n*ti.size:=by rw [List.length_append,h1,hnl];rfl
         have hmm:p.off+l*ti.size≤m:=hm
         have hcons:=cY.consume (w':=w') (j:=⟨i.fE,i.o+p.off,i.n,ti.size⟩) (x:=.cells arr' e2 fz) (o:=.row (aL (dL++new) 0 .nil fun t=>t) (dL++new).length e false false) hr hpi hlive rfl g2
          (.row _ _ _ _ _ arr' e2 fz he (by rw [g3];exact hsz) (by show i.o+p.off+_≤i.n;rw [hlen];omega) (fun h=>by cases h) (fun _=>hro rfl) fun k v hk hv=>by
            rw [oN] at hv
            rw [if_pos (by omega)] at hv
            rw [Nat.sub_zero] at hv
            show ∃ v',arr'[i.o+p.off+k]?=some v'∧_
            rw [g4]
            by_cases hkl:k<l*ti.size
            · rw [if_neg (by omega)]
              rw [List.getElem?_append_left (by rw [h1];exact hkl)] at hv
              obtain ⟨v',q1,q2⟩:=h2.2 k v hv
              refine ⟨v',?_,q2.mono (Map.Js _ hnone)⟩
              have:=h3 k v' q1
              rw [uG] at this
              simpa [World.cell?,hox] using this
            · rw [if_pos (by rw [hnl'];omega)]
              rw [List.getElem?_append_right (by rw [h1];exact Nat.le_of_not_lt hkl),h1] at hv
              obtain ⟨v',q1,q2⟩:=hnew.2 _ v hv
              refine ⟨v',?_,q2.mono (Map.Js _ hnone)⟩
              rw [← q1];congr 1
              have:Nat.mul l ti.size=l*ti.size:=rfl
              omega) g5 g6 g7 g8 g9
         have hope:opened e ti.size (dL++new) (l+n) (h.put p.block none)=.val (cB h.next 0 (l+n) (cM ti.size (l+n))) ((h.put p.block none).new (.row (aL (dL++new) 0 .nil fun t=>t) (dL++new).length e false false)):=by
          unfold opened
          rw [eG,bD,eF];rfl
         rw [hope]
         refine cK.value (cV.consume _ hlive hr.base) (v':=.slice (some ⟨i.fE,i.o+p.off,none⟩) (l+n) c') ?_ hcons ?_
         · rw [hrun,hs',hap];rfl
         · have hO:=uH
           refine .iM h.next 0 (l+n) _ (l+n) ⟨i.fE,i.o+p.off,i.n,ti.size⟩ (i.o+p.off) c' (Map.fM _ _ _) ?_ (by omega) (Nat.le_refl _) hcc (.inl rfl) ?_
           · show Nat.add (Nat.mul eY (Nat.succ ti.size)) (l+n)=eY*(ti.size+1)+(l+n)
             rfl
           · exact hfitn
theorem aIn {f:Map} {h:Hp} {w:World} {a:Act} {t u ty e:TypeId} {ti:TypeInfo} {z:Value} {zeros:Bool} {n l c:Nat} {new new':List Value} {x':Value} (hr:gX f h w)
 (ht:P.underlying t=some (.slice e)) (hu:if zeros then ∃ k,P.underlying u=some (.int k) else (∃ e',P.underlying u=some (.slice e'))∨P.underlying u=some .string) (hi:P.info? e=some ti) (hz:ti.zero=some z) (hzs:z.cells.size=ti.size)
 (hb:ti.bytes≤8388608) (ha:aIl P e ti zeros n x' new' w) (hnew:dA f new new') (hnl:new.length=n*ti.size)
 (hrun:(execOp a.eval o).run P w=((Builtin.append_ #[t,u] ty #[.slice none l c,x']).run P w).andThen fun v w=>.ok (.value v) w):cK P f h w a o (tH e ti.size h n new l c):=by
 unfold tH
 cases hl:Nat.beq l 0 with
 | false=>trivial
 | true =>
 cases hc:Nat.beq c 0 with
 | false=>trivial
 | true =>
 have:=Nat.eq_of_beq_eq_true hl;subst this
 have:=Nat.eq_of_beq_eq_true hc;subst this
 cases hn:Nat.beq n 0 with
 | true =>
  have:=Nat.eq_of_beq_eq_true hn;subst this
  show cK P f h w a o (.val (.slice none 0 0) h)
  have hap:=vG (P:=P) (t:=t) (u:=u) (ty:=ty) (base:=none) (sLen:=0) (sCap:=0) (w':=w) ht hu hi ha (Nat.le_refl _) rfl
  refine cK.value (cV.refl h) (v':=.slice none (0+0) 0) ?_ (cY.refl hr) (.iF 0 0)
  rw [hrun,hap];rfl
 | false =>
  have hnpos:0<n:=by
   rcases Nat.eq_zero_or_pos n with h|h
   · subst h;cases hn
   · exact h
  show cK P f h w a o (bif Nat.ble n 16777216 then opened e ti.size new n h else .none)
  cases hbig:Nat.ble n 16777216 with
  | false=>trivial
  | true =>
   have hbig:=Nat.ble_eq.mp hbig
   obtain ⟨arr,harr,hap⟩:=Hv (P:=P) (t:=t) (u:=u) (ty:=ty) (base:=none) (sLen:=0) (sCap:=0) (olds:=[]) ht hu hi hz ha (by omega) (by omega) hb (by simp [Builtin.firstCells])
   have hge:=Di w (0+n) 0 e
   generalize grownCap w (0+n) 0 e=cap at *
   rw [Nat.zero_add] at *
   obtain ⟨h',f',c2,g1,g2,g3,g4⟩:=Pl (f:=f) (h:=h) (w:=w) (w':=w.drew.alloc (.cells arr e)) (e:=e) (s:=ti.size) (cap:=cap) (need:=n) hr hnew hnl hbig hge harr (by rw [qF _ _ _ hzs,mJ];simp [hzs]) rfl rfl rfl rfl
   show cK P f h w a o (opened e ti.size new n h)
   rw [g1]
   refine cK.value g2 (v':=.slice (some ⟨w.heap.size,0,none⟩) n cap) ?_ g3 g4
   rw [hrun,hap];rfl
theorem Kp {f:Map} {h:Hp} {w:World} {a:Act} {t u ty e:TypeId} {ti:TypeInfo} {z:Value} {zeros:Bool} {n:Nat} {new new':List Value} {x x' s':Value} (hr:gX f h w)
 (ht:P.underlying t=some (.slice e)) (hu:if zeros then ∃ k,P.underlying u=some (.int k) else (∃ e',P.underlying u=some (.slice e'))∨P.underlying u=some .string) (hi:P.info? e=some ti) (hz:ti.zero=some z) (hzs:z.cells.size=ti.size)
 (hb:ti.bytes≤8388608) (ha:aIl P e ti zeros n x' new' w) (hnew:dA f new new') (hnl:new.length=n*ti.size) (hs:bS f x s')
 (hrun:(execOp a.eval o).run P w=((Builtin.append_ #[t,u] ty #[s',x']).run P w).andThen fun v w=>.ok (.value v) w):cK P f h w a o (rW x (oM e ti.size h n new) (tH e ti.size h n new) .none):=by
 rcases Av x (oM e ti.size h n new) (tH e ti.size h n new) .none with ⟨p,l,c,rfl,h1⟩|⟨l,c,rfl,h1⟩|h1
 · rw [h1];exact aIm hr ht hu hi hz hzs hb ha hnew hnl hs hrun
 · rw [h1]
   have:s'=.slice none l c:=by cases hs;rfl
   subst this
   exact aIn hr ht hu hi hz hzs hb ha hnew hnl hrun
 · rw [h1];trivial
theorem Iy {x y:Operand} {args:Array Operand} {ats:Array TypeId} {t u:TypeId} (a:Act) (w:World) (ho:o.op=.call { callee:=.builtin .append,args:=args,argTypes:=ats }) (ha:args.toList=[x,y]) (hat:ats.toList=[t,u]) :
 (execOp a.eval o).run P w=((Builtin.append_ #[t,u] o.type #[a.eval x,a.eval y]).run P w).andThen fun v w=>.ok (.value v) w:=by
 have:=vD ha;subst this
 have:=vD hat;subst this
 obtain ⟨cs,hrun⟩:=iC (P:=P) a.eval w ho
 rw [hrun,show (#[x,y]:Array Operand).map a.eval=#[a.eval x,a.eval y] by simp]
 simp [builtin]
theorem aDr {x y:Operand} {args:Array Operand} {ats:Array TypeId} {t u e:TypeId} {ti:TypeInfo} {z:List Value} (ho:o.op=.call { callee:=.builtin .append,args:=args,argTypes:=ats }) (ha:args.toList=[x,y]) (hat:ats.toList=[t,u])
 (ht:P.underlying t=some (.slice e)) (hu:(∃ e',P.underlying u=some (.slice e'))∨P.underlying u=some .string) (hi:P.info? e=some ti) (hz:pI P e=some z) (hb:ti.bytes≤8388608):lL P gs ds o (iN e ti.size (aU gs ds x) (aU gs ds y)):=by
 intro call hcall lo tm f h a w hG hE hr
 have hx:=bJ hG hE x
 have hy:=bJ hG hE y
 obtain ⟨ti',v,hi',hiz,rfl,hzz,hzl,hsz⟩:=jX hz
 rw [hi] at hi';cases hi'
 unfold iN
 rcases aIk (P:=P) hr hy (s:=ti.size) (fun n new=>rW (bW (aU gs ds x) lo tm) (oM e ti.size h n new) (tH e ti.size h n new) .none) .none with h1|⟨n,new,new',h1,h2,h3,h4,h5⟩
 · rw [h1];trivial
 · rw [h1]
   refine Kp (zeros:=false) (new':=new') hr ht hu hi hiz (by rw [← hzl];simp) hb ⟨h4 w,fun w2 hw2=>?_⟩ h2 h3 hx (Iy a w ho ha hat)
   have:=h5 w2 hw2 n (Nat.le_refl _)
   rwa [List.take_of_length_le (by rw [← h2.1,h3];exact Nat.le_refl _)] at this
theorem aIo {x y:Operand} {args:Array Operand} {ats:Array TypeId} {t u e:TypeId} {ti:TypeInfo} {k:IntKind} {z:List Value} (ho:o.op=.call { callee:=.builtin .append,args:=args,argTypes:=ats }) (ha:args.toList=[x,y]) (hat:ats.toList=[t,u])
 (ht:P.underlying t=some (.slice e)) (hu:P.underlying u=some (.int k)) (hi:P.info? e=some ti) (hz:pI P e=some z) (hb:ti.bytes≤8388608):lL P gs ds o (aDi e ti.size z (aU gs ds x) (aU gs ds y)):=by
 intro call hcall lo tm f h a w hG hE hr
 have hx:=bJ hG hE x
 have hy:=bJ hG hE y
 obtain ⟨ti',v,hi',hiz,rfl,hzz,hzl,hsz⟩:=jX hz
 rw [hi] at hi';cases hi'
 have hvs:v.cells.size=ti.size:=by rw [← hzl];simp
 unfold aDi
 rcases oZ (bW (aU gs ds y) lo tm) (fun n=>bif Nat.ble n 16777216 then rW (bW (aU gs ds x) lo tm) (oM e ti.size h n (dU n v.cells.toList)) (tH e ti.size h n (dU n v.cells.toList)) .none else .none) .none with ⟨k1,n,e1,h1⟩|h1
 · rw [h1];rw [e1] at hy
   cases hn:Nat.ble n 16777216 with
   | false=>trivial
   | true =>
    have hn:=Nat.ble_eq.mp hn
    show cK P f h w a o (rW (bW (aU gs ds x) lo tm) (oM e ti.size h n (dU n v.cells.toList)) (tH e ti.size h n (dU n v.cells.toList)) .none)
    exact Kp (zeros:=true) (new':=dU n v.cells.toList) hr ht ⟨k,hu⟩ hi hiz hvs hb ⟨k1,v,hy.gI,hn,hb,hiz,hvs,rfl⟩ (Kn (hzz f) n) (by rw [mJ];simp [hvs]) hx (Iy a w ho ha hat)
 · rw [h1];trivial
end
section
variable {P:Program} {gs:List Nat} {ds:List (Option Tmp)} {o:Oper}
theorem aBc {e:TypeId} (hc:P.cellsOf e=1) (count off n:Nat) (hn:off+n≤count):liesAt P P.depth e (count / P.cellsOf e) off e n=true:=by
 have hd:P.depth=(2*(P.types.size+Made.depth)+1)+1:=rfl
 rw [hd]
 simp only [liesAt,Bool.or_eq_true]
 left
 rw [hd]
 simp [rowAt,hc,hn,sameLayout,Nat.mod_one]
theorem aIp {x y:Operand} {args:Array Operand} {ats:Array TypeId} {t e:TypeId} {rest:List TypeId} (ho:o.op=.call { callee:=.builtin .unsafeString,args:=args,argTypes:=ats }) (ha:args.toList=[x,y]) (hat:ats.toList=t::rest)
 (ht:P.underlying t=some (.pointer e)) (hc1:P.cellsOf e=1) (hU:e≠UNK):lL P gs ds o (aDj e (aU gs ds x) (aU gs ds y)):=by
 intro call hcall lo tm f h a w hG hE hr
 have hx:=bJ hG hE x
 have hy:=bJ hG hE y
 have:=vD ha;subst this
 have hat0:ats[0]?=some t:=by rw [← Array.getElem?_toList,hat];rfl
 obtain ⟨csx,hrun⟩:=iC (P:=P) a.eval w ho
 rw [show (#[x,y]:Array Operand).map a.eval=#[a.eval x,a.eval y] by simp] at hrun
 unfold aDj
 rcases oZ (bW (aU gs ds y) lo tm) (fun n=>bif Nat.beq n 0 || Nat.blt 16777216 n then fV.none else kO (bW (aU gs ds x) lo tm) (fun b o =>
  pU h b (fun c m e' cl _=>bif Nat.beq e e' then bif Nat.ble (Nat.add o n) m then eC (cR c o n []) (fun cs=>eC (cG.bytesOf cs) (fun bs=>h.nT b (some (.row c m e' cl true)) fun h=>Oa (Ad bs) h) .none) .none else .none else .none) .none) .none) .none with ⟨k1,n,e1,h1⟩|h1
 · rw [h1];rw [e1] at hy
   cases hn:(Nat.beq n 0 || Nat.blt 16777216 n) with
   | true=>trivial
   | false =>
   rw [Bool.or_eq_false_iff] at hn
   have hn0:n≠0:=by intro h;subst h;cases hn.1
   have hnb:n≤16777216:=by
    rcases Nat.lt_or_ge 16777216 n with h|h
    · rw [Nat.blt_eq.mpr h] at hn;cases hn.2
    · exact h
   show cK P f h w a o (kO (bW (aU gs ds x) lo tm) (fun b o =>
    pU h b (fun c m e' cl _=>bif Nat.beq e e' then bif Nat.ble (Nat.add o n) m then eC (cR c o n []) (fun cs=>eC (cG.bytesOf cs) (fun bs=>h.nT b (some (.row c m e' cl true)) fun h=>Oa (Ad bs) h) .none) .none else .none else .none) .none) .none)
   rcases oW (bW (aU gs ds x) lo tm) (fun b o =>
    pU h b (fun c m e' cl _=>bif Nat.beq e e' then bif Nat.ble (Nat.add o n) m then eC (cR c o n []) (fun cs=>eC (cG.bytesOf cs) (fun bs=>h.nT b (some (.row c m e' cl true)) fun h=>Oa (Ad bs) h) .none) .none else .none else .none) .none) fV.none with ⟨ad,e2,h2⟩|h2
   · rw [h2];rw [e2] at hx
     obtain ⟨_,i,hi,hxe⟩:=hx.mX
     rcases Rj h ad.block (fun c m e' cl _=>bif Nat.beq e e' then bif Nat.ble (Nat.add ad.off n) m then eC (cR c ad.off n []) (fun cs=>eC (cG.bytesOf cs) (fun bs=>h.nT ad.block (some (.row c m e' cl true)) fun h=>Oa (Ad bs) h) .none) .none else .none else .none) fV.none with ⟨c,m,e',cl,ro,hrow,h3⟩|h3
     · rw [h3]
       cases hee:Nat.beq e e' with
       | false=>trivial
       | true =>
       cases hble:Nat.ble (Nat.add ad.off n) m with
       | false=>trivial
       | true =>
       have hee:=Nat.eq_of_beq_eq_true hee
       subst hee
       have hble:ad.off+n≤m:=Nat.ble_eq.mp hble
       show cK P f h w a o (eC (cR c ad.off n []) (fun cs=>eC (cG.bytesOf cs) (fun bs=>h.nT ad.block (some (.row c m e cl true)) fun h=>Oa (Ad bs) h) .none) .none)
       cases hld:cR c ad.off n [] with
       | none=>trivial
       | some cs =>
       show cK P f h w a o (eC (cG.bytesOf cs) (fun bs=>h.nT ad.block (some (.row c m e cl true)) fun h=>Oa (Ad bs) h) .none)
       cases hbs:cG.bytesOf cs with
       | none=>trivial
       | some bs =>
       show cK P f h w a o (h.nT ad.block (some (.row c m e cl true)) fun h=>Oa (Ad bs) h)
       rw [Hp.qD]
       obtain ⟨ob,hob,hor⟩:=hr.obj _ _ i hi hrow
       obtain ⟨q1,q2,_⟩:=Ax (P:=P) hor hob (ao:=ad.off) (m:=n) (cs:=cs) (bs:=bs) (by unfold kR tF;show (bif Nat.ble (Nat.add ad.off n) m then cR c ad.off n [] else none)=_;rw [show Nat.ble (Nat.add ad.off n) m=true from Nat.ble_eq.mpr hble];exact hld) hbs
       have hlive:(h.at ad.block).isSome:=by rw [hrow];rfl
       cases hor with
       | row _ _ _ _ _ arr e2 fz he hsz hnn hcl hro hc =>
       have hee:e2=e:=by
        rcases he with h|h
        · exact h.symm
        · exact absurd h hU
       subst hee
       have hbl:i.fE<w.heap.size:=(hr.fresh _ _ hi).2
       have hheap:∃ fz',(w.freeze ⟨i.fE,i.o+ad.off,none⟩ n).heap[i.fE]?=some (.cells arr e2 fz'):=by
        unfold World.freeze
        rw [if_neg hn0]
        refine ⟨if fz.1 == fz.2 then (i.o+ad.off,i.o+ad.off+n) else (min fz.1 (i.o+ad.off),max fz.2 (i.o+ad.off+n)),?_⟩
        simp only [Array.getElem?_modify,hob]
        simp
       obtain ⟨fz',hheap⟩:=hheap
       have hcs:=cY.put (w':=w.freeze ⟨i.fE,i.o+ad.off,none⟩ n) (x:=.cells arr e2 fz') (o:=.row c m e2 cl true) hr hi hlive hheap (.row _ _ _ _ _ arr e2 fz' (.inl rfl) hsz hnn hcl (fun h=>by cases h) hc)
        (by unfold World.freeze;rw [if_neg hn0];simp) (fun c hc=>by unfold World.freeze;rw [if_neg hn0];simp only [Array.getElem?_modify];rw [if_neg (fun e=>hc e.symm)])
        (by unfold World.freeze;rw [if_neg hn0]) (by unfold World.freeze;rw [if_neg hn0]) (by unfold World.freeze;rw [if_neg hn0])
       refine cK.value (cV.put _ hlive) (v':=.string (jM bs)) ?_ hcs (.string _)
       have hlb:=Lib.run_loadBytes (P:=P) w bs ⟨i.fE,i.o+ad.off,none⟩ .empty q2
       rw [q1,Fs] at hlb
       have hsh:w.shape? i.fE=some (e2,i.n):=by simp [World.shape?,hob,hsz]
       have hlies:=aBc (P:=P) hc1 i.n (i.o+ad.off) n (by omega)
       have hdef:∀ (A:Addr) (v:Value),Builtin.unsafeString_ ats o.type #[.pointer (some A),v]=(do
        let n ← asInt v
        let some pt:=ats[0]?|stuck _
        if n<0 then runtimePanic (.error _)
        if n>IntKind.i64.max then unsupported (.unsafePointer _)
        if n=0 then pure (.string .empty)
        else if ← variablesAt A (← elemOf pt) n.toNat then do
         let s ← loadBytes A .empty n.toNat
         freeze A n.toNat
         pure (.string s)
        else unsupported (.unsafePointer _)):=fun _ _=>rfl
       have hmax:IntKind.i64.max=9223372036854775807:=rfl
       have hneg:¬ (n:Int)<0:=by omega
       have h63:¬ (9223372036854775807:Int)<(n:Int):=by omega
       have hb:(Builtin.unsafeString_ ats o.type #[a.eval x,a.eval y]).run P w=.ok (.string (jM bs)) (w.freeze ⟨i.fE,i.o+ad.off,none⟩ n):=by
        rw [hxe,hy.gI,hdef]
        simp [asInt,asIntOf,hmax,h63,hneg,hn0,hat0,variablesAt,hsh,elemOf,run_underlying ht,hlies,hlb]
       rw [hrun]
       simp [builtin,hb]
     · rw [h3];trivial
   · rw [h2];trivial
 · rw [h1];trivial
theorem Vq:∀ (n t:Nat) (acc:Array Value),(Extern.BytealgMakeNoZero.digits n t acc).size=acc.size+n:=by
 intro n
 induction n with
 | zero=>intro t acc;rfl
 | succ n ih=>intro t acc;rw [Extern.BytealgMakeNoZero.digits,ih];simp;omega
theorem aIq {g:FuncId} {xs:List (Nat×Nat)} {x:Operand} {args:Array Operand} {ats:Array TypeId} {fn:Func} {e rt:TypeId} (ho:o.op=.call { callee:=.value (.func g),args:=args,argTypes:=ats }) (ha:args.toList=[x]) (hX:XOk P xs) (hk:xk xs g=some 1)
 (hfn:P.funcs[g]?=some fn) (hrt:fn.resultTypes[0]?=some rt) (hre:P.underlying rt=some (.slice e)):lL P gs ds o (aDk e (aU gs ds x)):=by
 intro call hcall lo tm f h a w hG hE hr
 have hx:=bJ hG hE x
 have:=lH ha;subst this
 obtain ⟨fn',ent,hfn',he,hrun⟩:=vE (P:=P) (ρ:=a.eval) w ho rfl hX hk
 rw [hfn] at hfn';cases hfn'
 have he:ent=Extern.BytealgMakeNoZero.makeNoZero fn.params fn.resultTypes:=he
 subst he
 unfold aDk
 rcases jV (bW (aU gs ds x) lo tm) (fun kd n=>bif Nat.beq (kN kd) 3 then qV n (fun n=>bif Nat.ble n 16777216 then h.Ff (.row .nil n e false false) fun b h=>bN n fun n=>bN (cM 1 n) fun c=>fV.val (cB b 0 n c) h else .none) .none else .none) .none with ⟨kd,nn,e1,h1⟩|h1
 · rw [h1];rw [e1] at hx
   cases hkd:Nat.beq (kN kd) 3 with
   | false=>trivial
   | true =>
   have hkd:kd=.i64:=by cases kd<;>first|rfl|cases hkd
   subst hkd
   show cK P f h w a o (qV nn (fun n=>bif Nat.ble n 16777216 then h.Ff (.row .nil n e false false) fun b h=>bN n fun n=>bN (cM 1 n) fun c=>fV.val (cB b 0 n c) h else .none) .none)
   rcases mW nn (fun n=>bif Nat.ble n 16777216 then h.Ff (.row .nil n e false false) fun b h=>bN n fun n=>bN (cM 1 n) fun c=>fV.val (cB b 0 n c) h else .none) fV.none with ⟨n,rfl,h2⟩|h2
   · rw [h2]
     cases hn:Nat.ble n 16777216 with
     | false=>trivial
     | true =>
     have hn:=Nat.ble_eq.mp hn
     show cK P f h w a o (h.Ff (.row .nil n e false false) fun b h=>bN n fun n=>bN (cM 1 n) fun c=>fV.val (cB b 0 n c) h)
     rw [Hp.zG,bD,bD]
     have hge:=Di w n 0 e
     have hrun2:∃ arr:Array Value,arr.size=grownCap w n 0 e∧(Extern.BytealgMakeNoZero.makeNoZero fn.params fn.resultTypes #[.int .i64 (n:Int)]).run P w=.ok (.slice (some ⟨w.heap.size,0,none⟩) n (grownCap w n 0 e)) (w.drew.drew.alloc (.cells arr e)):=by
      obtain ⟨q,hdef,hq⟩:∃ q:Question,(∀ m:Int,Extern.BytealgMakeNoZero.makeNoZero fn.params fn.resultTypes #[.int .i64 m]=(do
       let some t:=fn.resultTypes[0]?|stuck _
       let .slice elem ← underlying t|stuck _
       if m<0 || m>2 ^ 48 then runtimePanic (.error _)
       let cap ← choose (.appendCap m.toNat 0 elem)
       askRoom cap
       let bytes ← choose q
       let a ← newRow elem (Extern.BytealgMakeNoZero.digits cap bytes #[])
       pure (.slice (some a) m.toNat cap)))∧q.forced=false:=⟨_,fun _=>rfl,rfl⟩
      refine ⟨Extern.BytealgMakeNoZero.digits (grownCap w n 0 e) (q.cut (w.drew.tape w.drew.drawn q)) #[],by rw [Vq];simp,?_⟩
      have h1:¬ ((n:Int)<0):=by omega
      have h2:¬ (281474976710656<(n:Int)):=by omega
      rw [hdef]
      simp [hrt,run_underlying hre,h1,h2,hq,show ∀ a b c,(Question.appendCap a b c).forced=false from fun _ _ _=>rfl,newRow,grownCap]
     obtain ⟨arr,harr,hrun2⟩:=hrun2
     generalize grownCap w n 0 e=cap at *
     have hc:=cY.newRow (w':=w.drew.drew.alloc (.cells arr e)) (l:=[]) (s:=1) (e:=e) (cl:=false) (n:=n) hr (fun k v hk _=>by simp at hk) (by omega) (fun h=>by cases h) (zJ _) rfl rfl rfl rfl
     refine cK.value (cV.new _ hr.base) (v':=.slice (some ⟨w.heap.size,0,none⟩) n cap) ?_ hc ?_
     · rw [hrun,show (#[x]:Array Operand).map a.eval=#[a.eval x] by simp,hx.gI,hrun2]
       rfl
     · have hO:=uH
       refine .iM h.next 0 n _ n _ 0 cap (Map.fM _ _ _) ?_ (by omega) (Nat.le_refl _) hge (.inl rfl) ?_
       · show Nat.add (Nat.mul eY (Nat.succ 1)) n=eY*(1+1)+n
         rfl
       · show 0+cap*1≤arr.size
         omega
   · rw [h2];trivial
 · rw [h1];trivial
end
section
variable {P:Program} {gs:List Nat} {ds:List (Option Tmp)} {o:Oper}
theorem Rm {R:Type} (v:Value) (k:Nat→R) (kn z:R):(∃ b,v=.map (some b)∧Jy v k kn z=k b)∨(v=.map none∧Jy v k kn z=kn)∨Jy v k kn z=z:=by
 cases v with
 | map a=>cases a with
  | none=>exact .inr (.inl ⟨rfl,rfl⟩)
  | some b=>exact .inl ⟨b,rfl,rfl⟩
 | _=>exact .inr (.inr rfl)
theorem Rn {R:Type} (ob:dY) (k:List (Value×Value)→R) (z:R):(∃ es,ob=.mp es∧Il ob k z=k es)∨Il ob k z=z:=by
 cases ob with
 | mp es=>exact .inl ⟨es,rfl,rfl⟩
 | _=>exact .inr rfl
theorem bS.vH {f:Map} {b:Nat} {v':Value} (h:bS f (.map (some b)) v'):∃ i,f b=some i∧v'=.map (some i.fE):=by
 cases h with
 | map _ i h=>exact ⟨i,h,rfl⟩
theorem bS.Kq {f:Map} {v':Value} (h:bS f (.map none) v'):v'=.map none:=by
 cases h;rfl
def Vr (td:TypeDesc):Prop:=td=.bool∨(∃ k,td=.int k)∨td=.string
theorem aDs {t:TypeId} (h:aAL P t=true):∃ td,P.underlying t=some td∧Vr td:=by
 unfold aAL eE at h
 cases hu:P.underlying t with
 | none=>rw [hu] at h;cases h
 | some td =>
  rw [hu] at h
  cases td<;>first|exact ⟨_,rfl,.inl rfl⟩|exact ⟨_,rfl,.inr (.inl ⟨_,rfl⟩)⟩|exact ⟨_,rfl,.inr (.inr rfl)⟩|cases h
theorem qG {kt:TypeId} {td:TypeDesc} (hu:P.underlying kt=some td) (hk:Vr td) (e:Bool) (v:Value) (w:World):(Instr.checkKey e 10000 kt v).run P w=.ok () w:=by
 rw [show (10000:Nat)=9999+1 from rfl,Instr.checkKey]
 simp only [Sem.run_bind,run_underlying hu,Result.andThen_ok]
 rcases hk with rfl|⟨k,rfl⟩|rfl<;>rfl
theorem Kr {f:Map} {t:TypeId} {td:TypeDesc} (hu:P.underlying t=some td) (hk:Vr td) {x y x':Value} {b:Bool} (hx:bS f x x') (h:rZ (eE P t) x y=some b) :
 x'=x∧Instr.sameNow td x y=some b∧(b=true→Instr.sameBits 10000 y x=true):=by
 obtain ⟨ht,h⟩:=qR h
 have hy:∃ y',bS f y y':=by
  cases x<;>cases y<;>first|exact ⟨_,.int _ _⟩|exact ⟨_,.bool _⟩|exact ⟨_,.string _⟩|(cases h)
 obtain ⟨y',hy⟩:=hy
 obtain ⟨rfl,rfl,h⟩:=Rg hx hy h
 refine ⟨rfl,?_⟩
 rcases h with ⟨k,m,n,rfl,rfl,rfl⟩|⟨p,q,rfl,rfl,rfl⟩|⟨p,q,rfl,rfl,rfl⟩
 · obtain ⟨k',hk'⟩:=Fq.2.1 ht.symm
   rw [hu] at hk';cases hk'
   refine ⟨by simp [Instr.sameNow],fun hb=>?_⟩
   have:=eq_of_beq hb;subst this
   simp [Instr.sameBits]
 · have:=Fq.1 ht.symm
   rw [hu] at this;cases this
   refine ⟨by simp [Instr.sameNow],fun hb=>?_⟩
   have:=eq_of_beq hb;subst this
   simp [Instr.sameBits]
 · have:=Fq.2.2 ht.symm
   rw [hu] at this;cases this
   refine ⟨by simp [Instr.sameNow,beq_toListBytes],fun hb=>?_⟩
   have:=eq_of_beq hb
   simp [Instr.sameBits,beq_toListBytes,this]
def Hw (f:Map) (es:List (Value×Value)) (en:List MapEntry):Prop:=en.length=es.length∧∀ (j:Nat) (e:Value×Value),es[j]?=some e→∃ x,en[j]?=some x∧x.key=e.1∧bS f e.2 x.val
theorem Hw.tail {f:Map} {e:Value×Value} {es:List (Value×Value)} {x:MapEntry} {en:List MapEntry} (h:Hw f (e::es) (x::en)):x.key=e.1∧bS f e.2 x.val∧Hw f es en:=by
 obtain ⟨y,hy,a,b⟩:=h.2 0 e rfl
 cases hy
 refine ⟨a,b,by simpa using h.1,fun j e' he=>?_⟩
 obtain ⟨z,hz,c⟩:=h.2 (j+1) e' (by simpa using he)
 exact ⟨z,by simpa using hz,c⟩
theorem aIr {R:Type} {f:Map} {t:TypeId} {td:TypeDesc} (hu:P.underlying t=some td) (hk:Vr td) {k k':Value} (hx:bS f k k') (y:Value→R) (n z:R) :
 ∀ (es:List (Value×Value)) (en:List MapEntry) (i:Nat),Hw f es en→p9 (eE P t) k es y n z=z ∨
  (∃ j v x,p9 (eE P t) k es y n z=y v∧Instr.findNow td k' en i=some (some (j,x))∧bS f v x) ∨
  (p9 (eE P t) k es y n z=n∧Instr.findNow td k' en i=some none):=by
 intro es
 induction es with
 | nil =>
  intro en i h
  have:en=[]:=List.length_eq_zero_iff.1 h.1
  subst this
  exact .inr (.inr ⟨rfl,rfl⟩)
 | cons e es ih =>
  intro en i h
  cases en with
  | nil=>simp [Hw] at h
  | cons x en =>
   obtain ⟨h1,h2,h3⟩:=h.tail
   have hu1:p9 (eE P t) k (e::es) y n z=eC (rZ (eE P t) k e.1) (fun t'=>Bool.rec (motive:=fun _=>R) (p9 (eE P t) k es y n z) (y e.2) t') z:=rfl
   rw [hu1]
   cases hs:rZ (eE P t) k e.1 with
   | none=>exact .inl rfl
   | some b =>
    obtain ⟨rfl,hn,_⟩:=Kr hu hk hx hs
    cases b with
    | true =>
     refine .inr (.inl ⟨i,e.2,x.val,rfl,?_,h2⟩)
     rw [Instr.findNow,h1,hn]
    | false =>
     show p9 (eE P t) k' es y n z=z∨_
     have hf:Instr.findNow td k' (x::en) i=Instr.findNow td k' en (i+1):=by rw [Instr.findNow,h1,hn]
     rw [hf]
     exact ih en (i+1) h3
theorem Pm {t:TypeId} {z:Value} (hz:(P.info? t).bind (·.zero)=some z) (w:World):(zeroValue t).run P w=.ok z w:=by
 cases hi:P.info? t with
 | none=>rw [hi] at hz;cases hz
 | some i =>
  rw [hi] at hz
  have hz':i.zero=some z:=hz
  simp [zeroValue,typeInfo,hi,hz']
theorem Fu {f:Map} {z:Value} (hp:(gL z).all gG=true):bS f z z:=by
 cases z with
 | agg c =>
  refine .agg _ _ rfl fun i hi=>?_
  have hm:c.getD i undef∈c.toList:=by
   rw [Array.getD_eq_getD_getElem?,Array.getElem?_eq_getElem hi]
   simp
  exact bS.plain (List.all_eq_true.1 hp _ hm)
 | _=>exact bS.plain (List.all_eq_true.1 hp _ (List.mem_singleton.2 rfl))
theorem Pn {f:Map} {ok b:Bool} {v v' u:Value} (hv:bS f v v') (h:pH ok v b=some u):bS f u (if ok then .tuple #[v',.bool b] else v'):=by
 cases ok with
 | true=>cases h;exact bS.oJ (dA.cons hv (dA.cons (.bool b) (dA.nil f)))
 | false=>cases h;exact hv
theorem pD.vH {f:Map} {i:Cn} {es:List (Value×Value)} {x:Obj} (h:pD f i (.mp es) x):∃ en ck,x=.map en ck∧ck=en.size∧Hw f es en.toList ∧
 ∀ (j:Nat) (e:Value×Value),es[j]?=some e→(0<Ac e.1∧Ac e.1<4)∧∃ x,en[j]?=some x∧x.key=e.1∧bS f e.2 x.val∧x.born=j:=by
 cases h with
 | mp _ en ck hl hck he =>
  refine ⟨en,ck,rfl,hck,⟨by simpa using hl,fun j e hj=>?_⟩,he⟩
  obtain ⟨_,x,a,b,c,_⟩:=he j e hj
  exact ⟨x,by simpa using a,b,c⟩
theorem sP {kt:TypeId} {td:TypeDesc} (hu:P.underlying kt=some td) {k:Value} {es:List MapEntry} {r:Option (Nat×Value)} (h:Instr.findNow td k es 0=some r) (w:World):(Instr.findKey kt k es).run P w=.ok r w:=by
 simp only [Instr.findKey,Sem.run_bind,run_underlying hu,Result.andThen_ok,h]
 rfl
theorem aFm {t kt et:TypeId} {x k:Operand} {ok:Bool} {z:Value} (ho:o.op=.lookup t x k ok) (ht:P.underlying t=some (.map kt et)) (hz:(P.info? et).bind (·.zero)=some z) (hp:(gL z).all gG=true) (hkt:aAL P kt=true) :
 rF P gs ds o (Jz (eE P kt) z ok (aU gs ds x) (aU gs ds k)):=by
 intro lo tm f a w hG hE
 have hx:=bJ hG hE x
 have hkr:=bJ hG hE k
 obtain ⟨td,htd,hkd⟩:=aDs hkt
 unfold Jz
 rcases Rm (bW (aU gs ds x) lo tm) (fun b=>PR.read b fun ob=>Il ob (fun es=>p9 (eE P kt) (bW (aU gs ds k) lo tm) es (fun v=>pH ok v true) (pH ok z false) none) none) (aAI (pH ok z false)) .none with ⟨b,e,h⟩|⟨e,h⟩|h
 · rw [h];rw [e] at hx
   obtain ⟨i,hi,hxe⟩:=hx.vH
   refine ⟨i,hi,fun ob v x' hv hx' hor=>?_⟩
   dsimp only at hv
   rcases Rn ob (fun es=>p9 (eE P kt) (bW (aU gs ds k) lo tm) es (fun v=>pH ok v true) (pH ok z false) none) none with ⟨es,rfl,h2⟩|h2
   · rw [h2] at hv
     obtain ⟨en,ck,rfl,hck,her,_⟩:=hor.vH
     have hrun:∀ {r:Option (Nat×Value)} (u:Value),Instr.findNow td (a.eval k) en.toList 0=some r→(match r with|some (_,v)=>(v,true)|none=>(z,false))=(u,r.isSome)→(execOp a.eval o).run P w=.ok (.value (if ok then .tuple #[u,.bool r.isSome] else u)) w:=by
      intro r u hr hu
      simp only [execOp,ho,Instr.lookup,Sem.run_bind,run_underlying ht,Result.andThen_ok,hxe]
      rw [show (getObj i.fE).run P w=.ok (.map en ck) w by simp [getObj,Sem.run,hx']]
      simp only [Result.andThen_ok,Sem.run_bind,Sem.run_pure,qG htd hkd,sP htd hr]
      cases r with
      | none =>
       cases hu
       simp [Pm hz]
      | some p =>
       obtain ⟨j,pv⟩:=p
       cases hu
       simp
     rcases aIr htd hkd hkr (fun v=>pH ok v true) (pH ok z false) none es en.toList 0 her with h3|⟨j,pv,px,h3,h4,h5⟩|⟨h3,h4⟩
     · rw [h3] at hv;cases hv
     · rw [h3] at hv
       exact ⟨_,hrun px h4 rfl,Pn h5 hv⟩
     · rw [h3] at hv
       exact ⟨_,hrun z h4 rfl,Pn (Fu hp) hv⟩
   · rw [h2] at hv;cases hv
 · rw [h];rw [e] at hx
   have hxe:=hx.Kq
   have hrun:(execOp a.eval o).run P w=.ok (.value (if ok then .tuple #[z,.bool false] else z)) w:=by
    simp only [execOp,ho,Instr.lookup,Sem.run_bind,run_underlying ht,Result.andThen_ok,hxe,Sem.run_pure,qG htd hkd]
    rw [sP htd (r:=none) rfl]
    simp [Pm hz]
   cases ok with
   | true=>exact ⟨_,hrun,bS.oJ (dA.cons (Fu hp) (dA.cons (.bool false) (dA.nil f)))⟩
   | false=>exact ⟨_,hrun,Fu hp⟩
 · rw [h];trivial
theorem aFn {x:Operand} {t k e:TypeId} {args:Array Operand} {ats:Array TypeId} (ho:o.op=.call { callee:=.builtin .len,args:=args,argTypes:=ats }) (ha:args.toList=[x]) (hat:ats.toList=[t]) (ht:P.underlying t=some (.map k e)) :
 rF P gs ds o (aDg (aU gs ds x)):=by
 intro lo tm f a w hG hE
 have hx:=bJ hG hE x
 have:=lH ha;subst this
 have:=lH hat;subst this
 unfold aDg
 rcases Rm (bW (aU gs ds x) lo tm) (fun b=>PR.read b fun ob=>Il ob (fun es=>jS .i64 (len es)) none) (.val (.int .i64 (.ofNat 0))) .none with ⟨b,e,h⟩|⟨e,h⟩|h
 · rw [h];rw [e] at hx
   obtain ⟨i,hi,hxe⟩:=hx.vH
   refine ⟨i,hi,fun ob v x' hv hx' hor=>?_⟩
   dsimp only at hv
   rcases Rn ob (fun es=>jS .i64 (len es)) none with ⟨es,rfl,h2⟩|h2
   · rw [h2] at hv
     obtain ⟨en,ck,rfl,hck,her,_⟩:=hor.vH
     unfold jS at hv
     rw [bD,eF] at hv
     cases hv
     refine ⟨.int .i64 (es.length:Nat),?_,.int _ _⟩
     have hsz:en.size=es.length:=by simpa using her.1
     simp [execOp,ho,resolve,invoke,builtin,Builtin.len_,run_underlying ht,hxe,getObj,Sem.run,hx',hsz,goInt]
   · rw [h2] at hv;cases hv
 · rw [h];rw [e] at hx
   have hxe:=hx.Kq
   refine ⟨.int .i64 0,?_,.int _ _⟩
   simp [execOp,ho,resolve,invoke,builtin,Builtin.len_,run_underlying ht,hxe,goInt]
 · rw [h];trivial
theorem aDt {f:Map} {h:Hp} {w:World} (hr:gX f h w):cY f h w (f.ext h.next ⟨w.heap.size,0,0,0⟩) (h.new (.mp [])) { w with heap:=w.heap.push (.map #[] 0) } :=
 cY.new (i:=⟨w.heap.size,0,0,0⟩) (o:=.mp []) hr rfl (.mp [] #[] 0 rfl rfl fun j e h=>by simp at h) rfl rfl rfl rfl
theorem aN3 {t:TypeId} (ho:o.op=.makeMap t none):lL P gs ds o aEX:=by
 intro call hcall lo tm f h a w hG hE hr
 unfold aEX
 rw [Hp.zG]
 refine cK.value (cV.new _ hr.base) (v':=.map (some w.heap.size)) ?_ (aDt hr) (.map h.next _ (Map.fM _ _ _))
 simp [execOp,ho,Instr.makeMap,newObj,Sem.run]
theorem aIs {t k e:TypeId} {x:Operand} (ho:o.op=.makeMap t (some x)) (ht:P.underlying t=some (.map k e)):lL P gs ds o (aHC (aU gs ds x)):=by
 intro call hcall lo tm f h a w hG hE hr
 have hx:=bJ hG hE x
 unfold aHC
 rcases jV (bW (aU gs ds x) lo tm) (fun _ _=>h.Ff (.mp []) fun b h=>fV.val (.map (some b)) h) .none with ⟨kd,m,e,h1⟩|h1
 · rw [h1];rw [e] at hx
   have hxe:=hx.gI
   rw [Hp.zG]
   refine cK.value (cV.new _ hr.base) (v':=.map (some w.heap.size)) ?_ (aDt hr) (.map h.next _ (Map.fM _ _ _))
   simp [execOp,ho,Instr.makeMap,newObj,Sem.run,run_underlying ht,hxe,asInt,asIntOf]
 · rw [h1];trivial
theorem aN4 {f:Map} {t:TypeId} {td:TypeDesc} (hu:P.underlying t=some td) (hk:Vr td) {k k' v:Value} (hx:bS f k k') (ht:Ac k=eE P t) :
 ∀ (es:List (Value×Value)) (en:List MapEntry) (i:Nat) (r:List (Value×Value)),Hw f es en→xL (eE P t) k v es=some r →
  (∃ j e x,es[j]?=some e∧en[j]?=some x∧r=es.set j (e.1,v)∧Instr.findNow td k' en i=some (some (i+j,x.val))∧Instr.sameBits 10000 x.key k'=true∧k'=x.key) ∨
  (r=es++[(k,v)]∧Instr.findNow td k' en i=some none):=by
 intro es
 induction es with
 | nil =>
  intro en i r h hr
  have:en=[]:=List.length_eq_zero_iff.1 h.1
  subst this
  cases hr
  exact .inr ⟨rfl,rfl⟩
 | cons e es ih =>
  intro en i r h hr
  cases en with
  | nil=>simp [Hw] at h
  | cons x en =>
   obtain ⟨h1,h2,h3⟩:=h.tail
   have hu1:xL (eE P t) k v (e::es)=eC (rZ (eE P t) k e.1) (fun t'=>Bool.rec (motive:=fun _=>Option (List (Value×Value))) (eC (xL (eE P t) k v es) (fun l=>some (e::l)) none) (some ((e.1,v)::es)) t') none:=rfl
   rw [hu1] at hr
   cases hs:rZ (eE P t) k e.1 with
   | none=>rw [hs] at hr;cases hr
   | some b =>
    rw [hs] at hr
    obtain ⟨hkk,hn,hb⟩:=Kr hu hk hx hs
    cases b with
    | true =>
     cases hr
     have hsb:=hb rfl
     refine .inl ⟨0,e,x,rfl,rfl,rfl,by rw [hkk,Instr.findNow,h1,hn];rfl,by rw [h1,hkk];exact hsb,?_⟩
     rw [hkk,h1]
     have h4:=(qR hs).2
     have hy:∃ y',bS f e.1 y':=by
      cases k<;>cases he:e.1<;>first|exact ⟨_,.int _ _⟩|exact ⟨_,.bool _⟩|exact ⟨_,.string _⟩|(rw [he] at h4;cases h4)
     obtain ⟨y',hy⟩:=hy
     obtain ⟨_,_,h5⟩:=Rg hx hy h4
     rcases h5 with ⟨k1,m,n,e1,e2,e3⟩|⟨p,q,e1,e2,e3⟩|⟨p,q,e1,e2,e3⟩
     · rw [e1,e2];rw [eq_of_beq e3.symm]
     · rw [e1,e2];rw [eq_of_beq e3.symm]
     · rw [e1,e2]
       have h6:p.toList=q.toList:=eq_of_beq e3.symm
       rw [uE,uE] at h6
       obtain ⟨⟨p⟩⟩:=p;obtain ⟨⟨q⟩⟩:=q
       have h7:p=q:=h6
       rw [h7]
    | false =>
     have hr:eC (xL (eE P t) k v es) (fun l=>some (e::l)) none=some r:=hr
     obtain ⟨l,hl,hr⟩:=fN _ _ hr
     cases hr
     have hf:Instr.findNow td k' (x::en) i=Instr.findNow td k' en (i+1):=by rw [Instr.findNow,h1,hkk,hn]
     rw [hf]
     rcases ih en (i+1) l h3 hl with ⟨j,e',x',a,b,c,d,g⟩|⟨a,b⟩
     · refine .inl ⟨j+1,e',x',by simpa using a,by simpa using b,by simp [c],?_,g⟩
       rw [d,Nat.add_right_comm];rfl
     · exact .inr ⟨by rw [a];rfl,b⟩
theorem aN5 {f f':Map} {h h':Hp} {w w':World} {a:Act} {s:Sem Unit} (hs:cV h h') (he:execOp a.eval o=(do s;pure .skip)) (hr:s.run P w=.ok () w') (hc:cY f h w f' h' w'):cK P f h w a o (.val undef h') :=
 cK.skip hs (by rw [he];simp [hr]) hc
theorem Vs {t kt et:TypeId} {m k v:Operand} (ho:o.op=.mapUpdate t m k v∨o.op=.insert t m k v) (ht:P.underlying t=some (.map kt et)) (hkt:aAL P kt=true):lL P gs ds o (sH (eE P kt) (aU gs ds m) (aU gs ds k) (aU gs ds v)):=by
 intro call hcall lo tm f h a w hG hE hr
 have hm:=bJ hG hE m
 have hkr:=bJ hG hE k
 have hv:=bJ hG hE v
 obtain ⟨td,htd,hkd⟩:=aDs hkt
 have hex:execOp a.eval o=(do Instr.mapUpdate t (a.eval m) (a.eval k) (a.eval v);pure .skip):=by
  rcases ho with ho|ho<;>simp only [execOp,ho]
 unfold sH
 rcases Rm (bW (aU gs ds m) lo tm) (fun b=>eC (h.bl.get (path b)) (fun ob=>Il ob (fun es =>
  bif Nat.beq (Ac (bW (aU gs ds k) lo tm)) (eE P kt) then eC (xL (eE P kt) (bW (aU gs ds k) lo tm) (bW (aU gs ds v) lo tm) es) (fun es=>h.nT b (some (.mp es)) fun h=>fV.val undef h) .none else .none) .none) .none) .none .none with ⟨b,e,h1⟩|⟨_,h1⟩|h1
 · rw [h1];rw [e] at hm
   obtain ⟨i,hi,hme⟩:=hm.vH
   generalize bW (aU gs ds k) lo tm=ka at hkr
   generalize bW (aU gs ds v) lo tm=va at hv
   cases hat:h.at b with
   | none=>rw [show h.bl.get (path b)=none from hat];trivial
   | some ob =>
    rw [show h.bl.get (path b)=some ob from hat]
    show cK P f h w a o (Il ob (fun es=>bif Nat.beq (Ac ka) (eE P kt) then eC (xL (eE P kt) ka va es) (fun es=>h.nT b (some (.mp es)) fun h=>fV.val undef h) .none else .none) .none)
    rcases Rn ob (fun es=>bif Nat.beq (Ac ka) (eE P kt) then eC (xL (eE P kt) ka va es) (fun es=>h.nT b (some (.mp es)) fun h=>fV.val undef h) .none else .none) fV.none with ⟨es,rfl,h2⟩|h2
    · rw [h2]
      cases htg:Nat.beq (Ac ka) (eE P kt) with
      | false=>trivial
      | true =>
       have htg:=Nat.eq_of_beq_eq_true htg
       rw [cond_true]
       cases hp:xL (eE P kt) ka va es with
       | none=>trivial
       | some es' =>
        show cK P f h w a o (h.nT b (some (.mp es')) fun h=>fV.val undef h)
        rw [Hp.qD]
        obtain ⟨x,hx,hor⟩:=hr.obj b _ i hi hat
        obtain ⟨en,ck,rfl,hck,her,hall⟩:=hor.vH
        have hlive:(h.at b).isSome:=by rw [hat];rfl
        have hbl:i.fE<w.heap.size:=(hr.fresh _ _ hi).2
        have hsz:en.size=es.length:=by simpa using her.1
        have hi0:0<eE P kt∧eE P kt<4:=by
         refine ⟨?_,Nat.blt_eq.mp hkt⟩
         unfold eE
         split<;>decide
        have fin:∀ en' ck',(Instr.mapUpdate t (a.eval m) (a.eval k) (a.eval v)).run P w=.ok () { w with heap:=w.heap.setIfInBounds i.fE (.map en' ck') }→pD f i (.mp es') (.map en' ck')→cK P f h w a o (.val undef (h.put b (some (.mp es')))):=by
         intro en' ck' hrun hor'
         refine aN5 (f':=f) (cV.put _ hlive) hex hrun ?_
         exact cY.put (o:=.mp es') (x:=.map en' ck') hr hi hlive (by simp [hbl]) hor' (by simp) (fun c hc=>by simp only [Array.getElem?_setIfInBounds];rw [if_neg (fun e=>hc e.symm)]) rfl rfl rfl
        have hget:(getObj i.fE).run P w=.ok (.map en ck) w:=by simp [getObj,Sem.run,hx]
        have hset:∀ x',(setObj i.fE x').run P w=.ok () { w with heap:=w.heap.setIfInBounds i.fE x' }:=fun x'=>by simp only [setObj,Sem.run,hx]
        rcases aN4 htd hkd hkr htg es en.toList 0 es' her hp with ⟨j,ej,xj,a1,a2,a3,a4,a5,a6⟩|⟨a3,a4⟩
        · have a2':en[j]?=some xj:=by simpa using a2
          refine fin (en.modify j fun e=>{ e with key:=a.eval k,val:=a.eval v }) ck ?_ ?_
          · simp only [Instr.mapUpdate,Sem.run_bind,run_underlying ht,Result.andThen_ok,hme,hget,qG htd hkd,sP htd a4,Nat.zero_add,a2',Option.map_some,Option.getD_some,Instr.keyThatStays,a5,if_true,Sem.run_pure,hset]
          · subst a3
            refine .mp _ _ _ (by simp [hsz]) (by simp [hck]) fun n e' hn=>?_
            rw [List.getElem?_set] at hn
            by_cases hjn:j=n
            · subst hjn
              have hjl:j<es.length:=(List.getElem?_eq_some_iff.1 a1).1
              rw [if_pos rfl,if_pos hjl] at hn
              cases hn
              obtain ⟨b0,x0,b1,b2,b3,b4⟩:=hall j ej a1
              rw [a2'] at b1;cases b1
              exact ⟨b0,{ xj with key:=a.eval k,val:=a.eval v },by rw [Array.getElem?_modify,if_pos rfl,a2'];rfl,a6.trans b2,hv,b4⟩
            · rw [if_neg hjn] at hn
              obtain ⟨b0,x0,b1,b2⟩:=hall n e' hn
              exact ⟨b0,x0,by rw [Array.getElem?_modify,if_neg hjn];exact b1,b2⟩
        · refine fin (en.push { key:=a.eval k,val:=a.eval v,born:=ck }) (ck+1) ?_ ?_
          · simp only [Instr.mapUpdate,Sem.run_bind,run_underlying ht,Result.andThen_ok,hme,hget,qG htd hkd,sP htd a4,hset]
          · subst a3
            have hkk:a.eval k=ka:=by
             cases hka:ka<;>rw [hka] at htg hkr<;>first|exact hkr.gI|exact hkr.jW|exact hkr.sM|(exfalso;have:(0:Nat)=eE P kt:=htg;omega)
            refine .mp _ _ _ (by simp [hsz]) (by simp [hck]) fun n e' hn=>?_
            rw [List.getElem?_append] at hn
            by_cases hnl:n<es.length
            · rw [if_pos hnl] at hn
              obtain ⟨b0,x0,b1,b2⟩:=hall n e' hn
              exact ⟨b0,x0,by rw [Array.getElem?_push,if_neg (by omega)];exact b1,b2⟩
            · rw [if_neg hnl] at hn
              have hn0:n=es.length:=by
               have:=(List.getElem?_eq_some_iff.1 hn).1
               simp at this;omega
              subst hn0
              rw [Nat.sub_self] at hn
              cases hn
              exact ⟨by rw [htg];exact hi0,_,by rw [Array.getElem?_push,if_pos hsz.symm],hkk,hv,by rw [hck,hsz]⟩
    · rw [h2];trivial
 · rw [h1];trivial
 · rw [h1];trivial
def MOk (P:Program) (ms:List (String×Nat×Nat)):Prop:=∀ e,e∈ms→∃ info m d ptr,P.info? e.2.1=some info∧info.methods.find? (·.name == e.1)=some m∧m.path=#[]∧m.func=some (e.2.2,ptr) ∧
 P.underlying e.2.1=some d∧(match d with|.pointer _=>ptr=true|_=>ptr=false)
def xO (P:Program) (cx:Cx):Prop:=XOk P cx.xs∧MOk P cx.ms
theorem aIt {ms:List (String×Nat×Nat)} {n:String} {x:Nat×Nat} (h:x∈Uu ms n):(n,x)∈ms:=by
 induction ms with
 | nil=>cases h
 | cons e r ih =>
  unfold Uu at h
  cases he:(e.1 == n) with
  | false=>rw [he] at h;exact List.mem_cons_of_mem _ (ih h)
  | true =>
   rw [he] at h
   have:=eq_of_beq he
   rcases List.mem_cons.1 h with rfl|h
   · subst this;exact List.mem_cons_self
   · exact List.mem_cons_of_mem _ (ih h)
theorem aN6 {tb:List (Nat×Nat)} {t g:Nat} (h:asc tb t=some g):(t,g)∈tb:=by
 induction tb with
 | nil=>cases h
 | cons e r ih =>
  have h':(bif Nat.beq e.1 t then some e.2 else asc r t)=some g:=h
  cases hb:Nat.beq e.1 t with
  | true =>
   rw [hb] at h'
   have:=Nat.eq_of_beq_eq_true hb
   cases h';subst this
   exact List.mem_cons_self
  | false=>rw [hb] at h';exact List.mem_cons_of_mem _ (ih h')
theorem aBd {ms:List (String×Nat×Nat)} (hM:MOk P ms) {n:String} {t g:Nat} (h:(n,t,g)∈ms) (D:Nat) (v:Value) (w:World):(method (D+1) t v n).run P w=.ok (g,v) w:=by
 obtain ⟨info,m,d,ptr,hi,hm,hp,hf,hd,hptr⟩:=hM _ h
 rw [method]
 have hti:(typeInfo t).run P w=.ok info w:=by simp [typeInfo,hi]
 simp only [Sem.run_bind,hti,Result.andThen_ok,hm,hp,follow,Sem.run_pure,hf]
 have hr:∀ o,(receiverAt t (.val v) ptr o).run P w=.ok v w:=by
  intro o
  simp only [receiverAt,Sem.run_bind,run_underlying hd,Result.andThen_ok]
  cases d<;>(dsimp only at hptr;subst hptr;rfl)
 simp [hr]
theorem aN7 {ms:List (String×Nat×Nat)} (hM:MOk P ms) {r:Operand} {n:String} {args:Array Operand} {ats:Array TypeId} (ho:o.op=.call { callee:=.invoke r n,args:=args,argTypes:=ats }) :
 lL P gs ds o (Ka (Uu ms n) (aU gs ds r) (args.toList.map (aU gs ds))):=by
 intro call hcall lo tm f h a w hG hE hr
 have hl:=vB hG hE args.toList
 have hx:=bJ hG hE r
 unfold Ka
 rcases Fk (bW (aU gs ds r) lo tm) (fun t v=>eC (asc (Uu ms n) t) (fun g=>call g (v::Co (args.toList.map (aU gs ds)) lo tm) h) fV.none) .none .none with ⟨t,v,e,h1⟩|⟨e,h1⟩|h1
 · rw [h1];rw [e] at hx
   obtain ⟨v',hxe,hv⟩:=hx.Fo
   cases ha:asc (Uu ms n) t with
   | none=>trivial
   | some g =>
    have hmem:=aIt (aN6 ha)
    show cK P f h w a o (call g (v::Co (args.toList.map (aU gs ds)) lo tm) h)
    refine cK.call hcall hG hr (args':=#[v']++args.map a.eval) (by simpa using dA.cons hv hl) ?_
    have hm:=aBd (P:=P) hM hmem (P.types.size+Made.depth - 1) v' w
    rw [show P.types.size+Made.depth - 1+1=P.types.size+Made.depth from by simp [Made.depth]] at hm
    have h0:(#[Value.iface t v']++args.map a.eval)[0]?=some (.iface t v'):=by
     rw [Array.getElem?_append_left (by simp)];rfl
    have h1:(#[Value.iface t v']++args.map a.eval).extract 1 (#[Value.iface t v']++args.map a.eval).size=args.map a.eval:=by
     apply Array.ext'
     simp
     exact List.take_of_length_le (by simp)
    unfold execOp
    rw [ho]
    simp only [resolve,hxe,Sem.run_bind,Sem.run_pure,Result.andThen_ok,invoke,h0,callMethod,h1]
    rw [show (program).run P w=.ok P w from rfl]
    simp only [Result.andThen_ok,Sem.run_bind,hm]
 · rw [h1];trivial
 · rw [h1];trivial
end
section
variable {P:Program} {gs:List Nat} {ds:List (Option Tmp)} {o:Oper}
def COk (P:Program) (gs:List Nat) (ds:List (Option Tmp)) (o:Oper):CO→Prop
 | .p f=>eB P gs ds o f
 | .r f=>rF P gs ds o f
 | .g f=>lL P gs ds o f
theorem cA:COk P gs ds o bad:=aHS
theorem gR {b:Bool} {c:CO} (h:b=true→COk P gs ds o c):COk P gs ds o (bif b then c else bad):=by
 cases b with
 | true=>exact h rfl
 | false=>exact cA
theorem Dl {b:Bool} {c:CO} (h:b=false→COk P gs ds o c):COk P gs ds o (bif b then bad else c):=by
 cases b with
 | true=>exact cA
 | false=>exact h rfl
theorem vI {b:Bool} {c d:CO} (h:b=true→COk P gs ds o c) (h':b=false→COk P gs ds o d):COk P gs ds o (bif b then c else d):=by
 cases b with
 | true=>exact h rfl
 | false=>exact h' rfl
theorem lR {t:TypeId} (h:isK P t=true):∃ d,P.underlying t=some d:=Option.isSome_iff_exists.1 h
theorem sQ {t:TypeId} (h:eR P t=true):∃ d,P.underlying t=some d:=by
 unfold eR at h
 cases hu:P.underlying t with
 | none=>rw [hu] at h;cases h
 | some d=>exact ⟨d,rfl⟩
theorem aDu {t:TypeId} (h:sz P t≠0):∃ j,P.info? t=some j∧j.size≠0:=by
 unfold sz Program.cellsOf at h
 cases hi:P.info? t with
 | none=>simp [hi] at h
 | some j=>exact ⟨j,rfl,by simpa [hi] using h⟩
theorem tJ {a b:Nat} (h:Nat.beq a b=false):a≠b:=fun e=>by subst e;rw [Nat.beq_refl] at h;cases h
theorem aN8 {op:BinOp} {t yt:TypeId} {x y:Operand} (ho:o.op=.binOp op t x y yt):COk P gs ds o (aHE op (aU gs ds x) (aU gs ds y)):=by
 obtain ⟨fn,h1,h2⟩:=aHT (P:=P) (gs:=gs) (ds:=ds) ho
 rw [h1];exact h2
theorem aN9 {op:BinOp} {t yt:TypeId} {x y:Operand} (ho:o.op=.binOp op t x y yt):COk P gs ds o (aHF P (aU gs ds) op t x y):=by
 unfold aHF
 cases hu:P.underlying t with
 | none=>exact cA
 | some d =>
  cases d with
  | int k=>exact aN8 ho
  | string=>exact aAX ho
  | bool=>cases op<;>first | exact cA | exact Hs (neg:=false) ho rfl hu | exact Hs (neg:=true) ho rfl hu
  | struct fs =>
   refine gR fun hg=>?_
   cases hl:leaves P 100 t 0 with
   | none=>exact cA
   | some ls =>
    have ha:eR P t=true:=by unfold eR;rw [hu]
    have hg':P.eqGuardType P.depth t=false:=by simpa using hg
    cases op<;>first|exact cA|exact Dc (neg:=false) ho rfl hg' hl ha|exact Dc (neg:=true) ho rfl hg' hl ha
  | array n e =>
   refine gR fun hg=>?_
   cases hl:leaves P 100 t 0 with
   | none=>exact cA
   | some ls =>
    have ha:eR P t=true:=by unfold eR;rw [hu]
    have hg':P.eqGuardType P.depth t=false:=by simpa using hg
    cases op<;>first|exact cA|exact Dc (neg:=false) ho rfl hg' hl ha|exact Dc (neg:=true) ho rfl hg' hl ha
  | pointer e =>
   have hp:aNE P t=true→P.cellsOf e≠0:=fun h=>by
    unfold aNE at h;rw [hu] at h
    have h':(!Nat.beq (sz P e) 0)=true:=h
    have h'':Nat.beq (sz P e) 0=false:=by simpa using h'
    exact tJ h''
   dsimp only
   split
   · exact iV (neg:=false) ho rfl trivial (Vc hu)
   · exact iV (neg:=true) ho rfl trivial (Vc hu)
   · exact gR fun h=>Vh (neg:=false) ho rfl hu (hp h)
   · exact gR fun h=>Vh (neg:=true) ho rfl hu (hp h)
   · exact cA
  | func a b c =>
   dsimp only
   split
   · exact iV (neg:=false) ho rfl trivial (Vf hu)
   · exact iV (neg:=true) ho rfl trivial (Vf hu)
   · exact cA
  | slice e =>
   dsimp only
   split
   · exact iV (neg:=false) ho rfl trivial (Vd hu)
   · exact iV (neg:=true) ho rfl trivial (Vd hu)
   · exact cA
  | map k e =>
   dsimp only
   split
   · exact iV (neg:=false) ho rfl trivial (Ve hu)
   · exact iV (neg:=true) ho rfl trivial (Ve hu)
   · exact cA
  | interface ms =>
   dsimp only
   split
   · exact iV (neg:=false) ho rfl trivial (Vg hu)
   · exact iV (neg:=true) ho rfl trivial (Vg hu)
   · exact Vn (neg:=false) ho rfl hu
   · exact Vn (neg:=true) ho rfl hu
   · exact cA
  | _=>exact cA
theorem aIu {x:Operand} {s d:TypeId} (ho:o.op=.convert s d x):COk P gs ds o (Uv P (aU gs ds x) s d):=by
 unfold Uv
 cases hs:P.underlying s with
 | none=>exact cA
 | some a =>
  cases hd:P.underlying d with
  | none=>cases a<;>exact cA
  | some b =>
   split
   · rename_i h1 h2;cases h1;cases h2;exact aAY ho hs hd
   · rename_i e h1 h2;cases h1;cases h2
     split
     · rename_i he;exact Rk ho hs hd he
     · exact cA
   · rename_i e h1 h2;cases h1;cases h2
     split
     · rename_i he;exact Of ho hs he hd
     · exact cA
   · rename_i h1 h2;cases h1;cases h2;exact Rh ho hs hd
   · rename_i e h1 h2;cases h1;cases h2
     refine Dl fun h=>?_
     obtain ⟨j,hj,hj0⟩:=aDu (P:=P) (tJ h)
     exact aFc ho hs hd hj hj0
   · rename_i e h1 h2;cases h1;cases h2
     refine Dl fun h=>?_
     rw [Bool.or_eq_false_iff] at h
     obtain ⟨j,hj,hj0⟩:=aDu (P:=P) (tJ h.1)
     exact aFd ho hs hd hj (tJ h.1) (tJ h.2)
   · exact cA
theorem Vt {b:Builtin} {args:Array Operand} {ats:Array TypeId} (ho:o.op=.call { callee:=.builtin b,args:=args,argTypes:=ats }):COk P gs ds o (x7 P (aU gs ds) b args.toList ats.toList):=by
 generalize ha:args.toList=as
 generalize hat:ats.toList=ts
 unfold x7
 split
 · rename_i x t
   cases hu:P.underlying t with
   | none=>exact cA
   | some d =>
    split
    · rename_i h;cases h;exact aE9 ho ha hat hu
    · rename_i h;cases h;exact aE8 ho ha hat hu
    · rename_i h;cases h;exact Pg ho ha hat (.inl ⟨_,hu⟩)
    · rename_i h;cases h;exact aFn ho ha hat hu
    · rename_i h;cases h
      split
      · rename_i h;exact Pg ho ha hat (.inr ⟨_,_,hu,h⟩)
      · exact cA
    · exact cA
 · rename_i x t
   split
   · rename_i h;exact aIa ho ha hat h
   · exact cA
 · rename_i x y t u
   split
   · rename_i h1 h2
     refine Dl fun _=>?_
     split
     · rename_i z hz
       refine gR fun hb=>?_
       obtain ⟨ti,v,hi,_,_,_,_,hsz⟩:=jX hz
       have hb:=Nat.ble_eq.mp hb
       rw [hsz]
       exact aDr ho ha hat h1 (.inl ⟨_,h2⟩) hi hz (by simpa [Program.bytesOf,hi] using hb)
     · exact cA
   · rename_i h1 h2
     refine Dl fun _=>?_
     split
     · rename_i z hz
       refine gR fun hb=>?_
       obtain ⟨ti,v,hi,_,_,_,_,hsz⟩:=jX hz
       have hb:=Nat.ble_eq.mp hb
       rw [hsz]
       exact aIo ho ha hat h1 h2 hi hz (by simpa [Program.bytesOf,hi] using hb)
     · exact cA
   · rename_i h1 h2
     refine gR fun hs1=>?_
     have hs1:=Nat.eq_of_beq_eq_true hs1
     split
     · rename_i z hz
       refine gR fun hb=>?_
       obtain ⟨ti,v,hi,_,_,_,_,hsz⟩:=jX hz
       have hb:=Nat.ble_eq.mp hb
       have h1':ti.size=1:=by omega
       rw [← h1']
       exact aDr ho ha hat h1 (.inr h2) hi hz (by simpa [Program.bytesOf,hi] using hb)
     · exact cA
   · exact cA
 · rename_i x y t u
   split
   · rename_i h1
     split
     · rename_i ti hi;exact aN1 ho ha hat h1 hi
     · exact cA
   · exact cA
 · rw [← ha];exact Ph (mx:=false) ho
 · rw [← ha];exact Ph (mx:=true) ho
 · rename_i x n t r
   split
   · rename_i e h1
     split
     · rename_i h2
       refine gR fun h=>?_
       rw [Bool.and_eq_true] at h
       exact aIp ho ha hat h1 (Nat.eq_of_beq_eq_true h.1) (tJ (by simpa using h.2))
     · exact cA
   · exact cA
 · exact aA2 ho ha
 · exact cA
theorem aFo {cx:Cx} (hX:XOk P cx.xs) {g:FuncId} {fn:Func} {args:Array Operand} {ats:Array TypeId} (ho:o.op=.call { callee:=.value (.func g),args:=args,argTypes:=ats }) (hfn:P.funcs[g]?=some fn):COk P cx.gs ds o (Qy P cx ds fn args.toList g):=by
 unfold Qy
 cases hk:xk cx.xs g with
 | none=>exact gR fun _=>aFj ho
 | some k =>
  show COk P cx.gs ds o (aHD P k fn (args.toList.map (aU cx.gs ds)))
  generalize ha:args.toList=as
  unfold aHD
  split
  · rename_i q hq
    match as,ha,hq with
    | [x],ha,hq =>
     cases hq
     refine vI (fun h=>?_) (fun _=>gR fun h=>?_)
     · have:=Nat.eq_of_beq_eq_true h;subst this
       exact aA4 ho ha hX hk
     · have:=Nat.eq_of_beq_eq_true h;subst this
       split
       · rename_i e hre
         refine gR fun _=>?_
         cases hrt:fn.resultTypes[0]? with
         | none=>rw [hrt] at hre;cases hre
         | some rt=>rw [hrt] at hre;exact aIq ho ha hX hk hfn hrt hre
       · exact cA
  · rename_i q r hq
    match as,ha,hq with
    | [x,y],ha,hq =>
     cases hq
     refine vI (fun h=>?_) (fun _=>vI (fun h=>?_) fun _=>gR fun h=>?_)
     · have:=Nat.eq_of_beq_eq_true h;subst this
       exact aFf ho ha hX hk
     · have:=Nat.eq_of_beq_eq_true h;subst this
       exact aFg ho ha hX hk
     · have:=Nat.eq_of_beq_eq_true h;subst this
       exact aFb ho ha hX hk
  · exact cA
theorem Ro {cx:Cx} (hX:xO P cx):COk P cx.gs ds o (uC P cx ds o):=by
 unfold uC
 cases ho:o.op<;>dsimp only<;>try exact cA
 case move x=>exact Pf (.inl ho)
 case assign x=>exact Pf (.inr ho)
 case pick a b c=>exact aE2 ho
 case alloc e =>
  cases hz:pI P e with
  | none=>exact cA
  | some z=>exact aFi ho hz
 case box e x=>exact aNW ho
 case build t parts =>
  cases hz:pI P t with
  | none=>exact cA
  | some z =>
   cases hu:P.underlying t with
   | none=>exact cA
   | some d =>
    cases d<;>try exact cA
    case array n e =>
     dsimp only
     split
     · rename_i ie hie
       split
       · rename_i l hl;exact Kj ho hz (.inr ⟨n,e,ie,hu,hie,rfl⟩) hl
       · exact cA
     · exact cA
    case struct fs =>
     dsimp only
     split
     · rename_i pl hpl
       split
       · rename_i l hl;exact Kj ho hz (.inl ⟨fs,pl,hu,hpl,rfl⟩) hl
       · exact cA
     · exact cA
 case buildSlice t n parts =>
  split
  · rename_i e hu
    split
    · rename_i z l hz hl
      refine gR fun h=>?_
      rw [Bool.and_eq_true] at h
      exact aBb ho hu hz hl (Nat.ble_eq.mp h.1) (Nat.ble_eq.mp h.2)
    · exact cA
  · exact cA
 case load t x =>
  refine vI (fun h=>?_) (fun h=>gR fun hk=>?_)
  · obtain ⟨d,hd⟩:=sQ h;exact aA8 ho hd h
  · obtain ⟨d,hd⟩:=lR hk;exact aA6 ho hd h
 case store t x y =>
  refine vI (fun h=>?_) (fun h=>gR fun hk=>?_)
  · obtain ⟨d,hd⟩:=sQ h;exact aBa ho hd
  · rw [Bool.and_eq_true] at hk
    obtain ⟨d,hd⟩:=lR hk.1;exact aA9 ho hd (Nat.eq_of_beq_eq_true hk.2)
 case nilCheck x=>exact Vi ho
 case binOp op t x y yt=>exact aN9 ho
 case unOp op t x=>cases op<;>first|exact aHV ho|exact aHW ho|exact aHX ho|exact cA
 case convert s d x=>exact aIu ho
 case makeInterface t x =>
  split
  · exact cA
  · rename_i d hne hd;exact aHY ho hd (fun ms h=>by subst h;exact hne _ rfl)
  · exact cA
 case makeFunc g first cap =>
  cases g<;>first|exact aHZ ho|exact cA
 case makeSlice t n m =>
  split
  · rename_i e hu
    split
    · rename_i z hz;exact aN0 ho hu hz
    · exact cA
  · exact cA
 case slice t x l h m =>
  split
  · rename_i e hu
    exact gR fun hk=>by obtain ⟨d,hd⟩:=lR hk;exact aH6 ho hu hd
  · rename_i hu
    cases m with
    | none=>exact aA1 ho hu
    | some m=>exact cA
  · rename_i n e hu
    refine gR fun hk=>?_
    rw [Bool.and_eq_true] at hk
    obtain ⟨d,hd⟩:=lR hk.1
    have:=Nat.ble_eq.mp hk.2
    have hO:=uH
    exact aH8 ho hu (by omega) hd
  · exact cA
 case fieldAddr s x i =>
  split
  · rename_i fs hu
    split
    · rename_i fd hf
      refine Dl fun h=>?_
      rw [Bool.or_eq_false_iff] at h
      obtain ⟨d,hd⟩:=lR (P:=P) (t:=fd.type) (by simpa using h.1)
      exact aE6 ho hu hf hd (tJ h.2)
    · exact cA
  · exact cA
 case field s x i =>
  split
  · rename_i fs hu
    split
    · rename_i fd hf
      refine vI (fun h=>?_) (fun h=>gR fun hk=>?_)
      · obtain ⟨d,hd⟩:=sQ h;exact aE5 ho hu hf hd h
      · obtain ⟨d,hd⟩:=lR hk;exact aE4 ho hu hf hd h
    · exact cA
  · exact cA
 case indexAddr t x i =>
  split
  · rename_i n e hu;exact gR fun hk=>by obtain ⟨d,hd⟩:=lR hk;exact aA0 ho hu hd
  · rename_i e hu;exact gR fun hk=>by obtain ⟨d,hd⟩:=lR hk;exact aE7 ho hu hd
  · exact cA
 case index t x i =>
  split
  · rename_i n e hu
    refine vI (fun h=>?_) (fun h=>gR fun hk=>?_)
    · obtain ⟨d,hd⟩:=sQ h;exact aH3 ho hu hd h
    · rw [Bool.and_eq_true] at hk
      obtain ⟨d,hd⟩:=lR hk.1;exact aH1 ho hu hd h (Nat.eq_of_beq_eq_true hk.2)
  · rename_i hu;exact aAZ ho hu
  · exact cA
 case range t x =>
  split
  · rename_i hu;exact aNY ho hu
  · exact cA
 case next x s =>
  cases s with
  | true=>exact aNZ ho
  | false=>exact cA
 case typeAssert x xt t ok =>
  split
  · exact cA
  · rename_i d z hne hd hz
    exact gR fun h=>aH9 ho hd (fun ms h=>by subst h;exact hne _ rfl) hz h
  · exact cA
 case extract x i=>exact aH0 ho
 case panic x=>exact aNX ho
 case call cl =>
  obtain ⟨callee,args,ats⟩:=cl
  dsimp only at ho ⊢
  split
  · rename_i g
    split
    · rename_i fn hfn;exact aFo hX.1 ho hfn
    · exact cA
  · exact aFk ho
  · exact Vt ho
  · exact aN7 hX.2 ho
 case makeMap t r =>
  cases r with
  | none=>exact aN3 ho
  | some x =>
   dsimp only
   split
   · rename_i hu;exact aIs ho hu
   · exact cA
 case lookup t x k ok =>
  split
  · rename_i kt et hu
    split
    · rename_i z hz
      refine gR fun h=>?_
      rw [Bool.and_eq_true] at h
      exact aFm ho hu hz h.1 h.2
    · exact cA
  · exact cA
 case mapUpdate t m k v =>
  split
  · rename_i hu;exact gR fun h=>Vs (.inl ho) hu h
  · exact cA
 case insert t m k v =>
  split
  · rename_i hu;exact gR fun h=>Vs (.inr ho) hu h
  · exact cA
end
section
variable {P:Program}
structure Inv (live nt:Nat) (f:Map) (tm:T Value) (tmps:Array Value):Prop where
 env:Env f [] [] tm tmps
 dead:∀ t,bit live t=false→tm.get (path t)=none
 size:tmps.size=nt
inductive xP (f:Map):Df→List Deferred→Prop where
 | nil:xP f [] []
 | cons {g:FuncId} {args:List Value} {d:Deferred} {df:Df} {ds:List Deferred} (cap:Array Value) (ht:d.target=.fn (.func g) cap) (ha:dA f args (d.args++cap).toList) (hr:xP f df ds):xP f ((g,args)::df) (d::ds)
theorem xP.mono {f g:Map} (hfg:f.le g) {df:Df} {ds:List Deferred} (h:xP f df ds):xP g df ds:=by
 induction h with
 | nil=>exact .nil
 | cons cap ht ha _ ih=>exact .cons cap ht (ha.mono hfg) ih
theorem Inv.mono {live nt:Nat} {f g:Map} {tm:T Value} {tmps:Array Value} (hfg:f.le g) (h:Inv live nt f tm tmps):Inv live nt g tm tmps:=⟨h.env.mono hfg,h.dead,h.size⟩
inductive aBe (f:Map):Ex→Exit→Prop where
 | normal:aBe f .normal .normal
 | exit (id:Nat):aBe f (.exit id) (.exit id)
 | ret:aBe f .ret .ret
 | panic {c c':List PanicEntry} (h:lQ f c c'):aBe f (.panic c) (.panic c')
def xQ (live nt:Nat) (f:Map) (h:Hp) (w:World) (r:eL) (wp:(Exit→Act→World→Prop)→Prop):Prop:=match r with
 | .none=>True
 | .ok e tm df h'=>∀ Q:Exit→Act→World→Prop,(∀ f' e' a' w',cV h h'→cY f h w f' h' w'→Inv live nt f' tm a'.tmps→xP f' df a'.defers→aBe f' e e'→Q e' a' w')→wp Q
theorem Env.cons {f:Map} {ds:List (Option Tmp)} {lo:List Value} {tm:T Value} {a:Act} {d:Option Tmp} {v v':Value} (h:Env f ds lo tm a.tmps) (hv:bS f v v') (hd:∀ t,d=some t→t<a.tmps.size) :
 Env f (d::ds) (v::lo) tm (a.put d v').tmps:=by
 intro t
 cases d with
 | none =>
  refine ⟨fun i hi=>?_,fun hi u hu=>?_⟩
  · have hi':(idx ds t).map (·+1)=some i:=hi
    cases hj:idx ds t with
    | none=>rw [hj] at hi';cases hi'
    | some j=>rw [hj] at hi';cases hi';exact (h t).1 j hj
  · have hi':(idx ds t).map (·+1)=none:=hi
    cases hj:idx ds t with
    | none=>exact (h t).2 hj u hu
    | some j=>rw [hj] at hi';cases hi'
 | some e =>
  have he:=hd e rfl
  have hput:(a.put (some e) v').tmps=a.tmps.setIfInBounds e v':=rfl
  rw [hput]
  have hidx:idx (some e::ds) t=bif Nat.beq e t then some 0 else (idx ds t).map (·+1):=rfl
  by_cases het:e=t
  · subst het
    refine ⟨fun i hi=>?_,fun hi=>?_⟩
    · rw [hidx,Nat.beq_refl] at hi
      cases hi
      show bS f v _
      rw [show (a.tmps.setIfInBounds e v').getD e undef=v' by simp [Array.getD_eq_getD_getElem?,he]]
      exact hv
    · rw [hidx,Nat.beq_refl] at hi;cases hi
  · have hb:Nat.beq e t=false:=by
     cases hb:Nat.beq e t with
     | false=>rfl
     | true=>exact absurd (Nat.eq_of_beq_eq_true hb) het
    have hget:(a.tmps.setIfInBounds e v').getD t undef=a.tmps.getD t undef:=by
     simp [Array.getD_eq_getD_getElem?,Array.getElem?_setIfInBounds,het]
    rw [hget]
    refine ⟨fun i hi=>?_,fun hi u hu=>?_⟩
    · rw [hidx,hb] at hi
      have hi':(idx ds t).map (·+1)=some i:=hi
      cases hj:idx ds t with
      | none=>rw [hj] at hi';cases hi'
      | some j=>rw [hj] at hi';cases hi';exact (h t).1 j hj
    · rw [hidx,hb] at hi
      have hi':(idx ds t).map (·+1)=none:=hi
      cases hj:idx ds t with
      | none=>exact (h t).2 hj u hu
      | some j=>rw [hj] at hi';cases hi'
theorem lB (a:Act) (d:Option Tmp) (v:Value):(a.put d v).tmps.size=a.tmps.size:=by cases d<;>simp [Act.put]
theorem put_defers (a:Act) (d:Option Tmp) (v:Value):(a.put d v).defers=a.defers:=by cases d<;>rfl
theorem zK {ds:List (Option Tmp)} {t:Tmp}:∀ {j:Nat},idx ds t=some j→ds[j]?=some (some t):=by
 induction ds with
 | nil=>intro j h;cases h
 | cons d ds ih =>
  intro j h
  have step:(idx ds t).map (·+1)=some j→(d::ds)[j]?=some (some t):=fun h'=>by
   cases hk:idx ds t with
   | none=>rw [hk] at h';cases h'
   | some k=>rw [hk] at h';cases h';simpa using ih hk
  cases d with
  | none=>exact step h
  | some e =>
   have h':(bif Nat.beq e t then some 0 else (idx ds t).map (·+1))=some j:=h
   cases he:Nat.beq e t with
   | true=>rw [he] at h';cases h';have:=Nat.eq_of_beq_eq_true he;subst this;rfl
   | false=>rw [he] at h';exact step h'
theorem Hx {ds:List (Option Tmp)} {t:Tmp} {i:Nat}:jU ds t i=true↔idx ds t=some i:=by
 unfold jU
 cases h:idx ds t with
 | none=>simp
 | some j =>
  constructor
  · intro h';have:=Nat.eq_of_beq_eq_true h';rw [this]
  · intro h';cases h';exact Nat.beq_refl _
noncomputable def kV (live:Nat) (ds:List (Option Tmp)) (lo:List Value) (i:Nat) (t:Tmp) (dL:Option Value):Option Value:=match idx ds t with
 | some j=>if bit live t=true∧i≤j then some (nth lo j) else dL
 | none=>dL
theorem Dm {live:Nat} {ds:List (Option Tmp)} {lo:List Value} {i:Nat} {t:Tmp} {dL:Option Value} (h:bit live t=true→idx ds t≠some i):kV live ds lo (i+1) t dL=kV live ds lo i t dL:=by
 unfold kV
 cases hj:idx ds t with
 | none=>rfl
 | some j =>
  dsimp only
  by_cases hl:bit live t=true
  · have:j≠i:=fun e=>h hl (by rw [hj,e])
    by_cases hij:i+1≤j
    · rw [if_pos ⟨hl,hij⟩,if_pos ⟨hl,by omega⟩]
    · rw [if_neg (fun q=>hij q.2),if_neg (fun q=>hij (by omega))]
  · rw [if_neg (fun q=>hl q.1),if_neg (fun q=>hl q.1)]
theorem aBf {live:Nat} {ds:List (Option Tmp)} {lo:List Value} {i:Nat} {e t:Tmp} {tm:T Value} (hf:(kS live e && jU ds e i)=true) :
 kV live ds lo (i+1) t ((T.set (path e) tm (some (nth lo i))).get (path t))=kV live ds lo i t (tm.get (path t)):=by
 rw [Bool.and_eq_true] at hf
 have hi:=Hx.1 hf.2
 rw [gC]
 by_cases h:e=t
 · subst h
   rw [if_pos rfl]
   unfold kV
   rw [hi]
   dsimp only
   rw [if_neg (fun q=>absurd q.2 (by omega)),if_pos ⟨hf.1,Nat.le_refl _⟩]
 · rw [if_neg h]
   refine Dm fun _ hj=>?_
   have h1:=zK hj
   have h2:=zK hi
   rw [h1] at h2
   cases h2
   exact h rfl
theorem Ks {live:Nat} {ds:List (Option Tmp)} {lo:List Value} {i:Nat} {d:Option Tmp} {t:Tmp} {dL:Option Value} (hd:ds[i]?=some d) (hf:∀ e,d=some e→(kS live e && jU ds e i)=false) :
 kV live ds lo (i+1) t dL=kV live ds lo i t dL:=by
 refine Dm fun hl hj=>?_
 have h1:=zK hj
 rw [hd] at h1
 cases h1
 have:=hf t rfl
 rw [Hx.2 hj,Bool.and_true] at this
 exact absurd hl (by unfold kS at this;simp [this])
theorem Vu {live:Nat} {ds:List (Option Tmp)} {lo:List Value} {i:Nat} {t:Tmp} {dL:Option Value} (h:ds.length≤i):kV live ds lo i t dL=dL:=by
 unfold kV
 cases hj:idx ds t with
 | none=>rfl
 | some j =>
  have:=(List.getElem?_eq_some_iff.1 (zK hj)).1
  dsimp only
  rw [if_neg (fun q=>absurd q.2 (by omega))]
theorem aBg {live:Nat} {ds:List (Option Tmp)} {lo:List Value}:∀ (r:List (Option Tmp)) (i:Nat) (tm:T Value),ds.drop i=r→∀ t,
 (kP live ds lo r i tm).get (path t)=kV live ds lo i t (tm.get (path t)):=by
 intro r
 induction r with
 | nil =>
  intro i tm hr t
  rw [Vu (by have:=congrArg List.length hr;simp at this;omega)];rfl
 | cons d r ih =>
  intro i tm hr t
  have hd:ds[i]?=some d:=by
   have:=congrArg (fun l=>l[0]?) hr
   simpa using this
  have hr':ds.drop (i+1)=r:=by
   have:=congrArg (List.drop 1) hr
   simpa [List.drop_drop,Nat.add_comm] using this
  cases d with
  | none =>
   show (kP live ds lo r (i+1) tm).get (path t)=_
   rw [ih (i+1) tm hr' t,Ks hd (fun e he=>by cases he)]
  | some e =>
   show (bif kS live e && jU ds e i then kP live ds lo r (i+1) (T.set (path e) tm (some (nth lo i))) else kP live ds lo r (i+1) tm).get (path t)=_
   cases hf:(kS live e && jU ds e i) with
   | true=>rw [cond_true,ih (i+1) _ hr' t];exact aBf hf
   | false=>rw [cond_false,ih (i+1) _ hr' t,Ks hd (fun e' he=>by cases he;exact hf)]
theorem Vv {live nt:Nat} {f:Map} {ds:List (Option Tmp)} {lo:List Value} {tm tm':T Value} {tmps:Array Value} (h:Env f ds lo tm tmps) (hd:∀ t,bit live t=false→tm.get (path t)=none) (hs:tmps.size=nt)
 (ht:∀ t,tm'.get (path t)=kV live ds lo 0 t (tm.get (path t))):Inv live nt f tm' tmps:=by
 refine ⟨fun t=>⟨fun i hi=>(by cases hi),fun _ v hv=>?_⟩,fun t hl=>?_,hs⟩
 · rw [ht] at hv
   unfold kV at hv
   cases hj:idx ds t with
   | none=>rw [hj] at hv;exact (h t).2 hj v hv
   | some j =>
    rw [hj] at hv
    dsimp only at hv
    by_cases hl:bit live t=true
    · rw [if_pos ⟨hl,Nat.zero_le _⟩] at hv
      cases hv
      exact (h t).1 j hj
    · rw [if_neg (fun q=>hl q.1),hd t (by simpa using hl)] at hv;cases hv
 · rw [ht]
   unfold kV
   cases hj:idx ds t with
   | none=>exact hd t hl
   | some j =>
    dsimp only
    rw [if_neg (fun q=>by rw [hl] at q;cases q.1)]
    exact hd t hl
theorem Rp {live nt:Nat} {f:Map} {ds:List (Option Tmp)} {lo:List Value} {tm:T Value} {tmps:Array Value} (h:Env f ds lo tm tmps) (hd:∀ t,bit live t=false→tm.get (path t)=none) (hs:tmps.size=nt) :
 Inv live nt f (Fl.go (live,ds) lo tm) tmps:=Vv h hd hs fun t=>aBg ds 0 tm rfl t
theorem Fv {live:Nat} {ds:List (Option Tmp)} {lo:List Value} {call:Call} {df:Df} {h:Hp}:∀ (r:List (Option Tmp)) (i:Nat) (tm:T Value),oV (mA live ds r i) call lo tm df h=.ok .normal (kP live ds lo r i tm) df h:=by
 intro r
 induction r with
 | nil=>intro i tm;rfl
 | cons d r ih =>
  intro i tm
  cases d with
  | none=>exact ih (i+1) tm
  | some t =>
   show oV (bif kS live t && jU ds t i then .flush i (path t) (mA live ds r (i+1)) else mA live ds r (i+1)) call lo tm df h=.ok .normal (bif kS live t && jU ds t i then kP live ds lo r (i+1) (T.set (path t) tm (some (nth lo i))) else kP live ds lo r (i+1) tm) df h
   cases kS live t && jU ds t i with
   | true =>
    show T.tD (path t) tm (some (nth lo i)) (fun tm=>oV (mA live ds r (i+1)) call lo tm df h)=_
    rw [T.iA,ih];rfl
   | false=>exact ih (i+1) tm
theorem aDv {live nt:Nat} {gs:List Nat} {ds:List (Option Tmp)} {o:Oper} {co:CO} {call:Call} {lo:List Value} {tm:T Value} {df:Df} {h:Hp} {f:Map} {a:Act} {w:World} {rest:CL}
 {K:(Exit→Act→World→Prop)→Act→World→Prop}
 (hcall:gW P gs call) (hc:COk P gs ds o co) (hG:mC gs f) (hE:Env f ds lo tm a.tmps) (hd:∀ t,bit live t=false→tm.get (path t)=none) (hs:a.tmps.size=nt) (hr:gX f h w) (hD:xP f df a.defers) (hdst:∀ t,o.dst=some t→t<nt)
 (ih:∀ v v' h1 f1 w1,cY f h w f1 h1 w1→cV h h1→Env f1 (o.dst::ds) (v::lo) tm (a.put o.dst v').tmps→gX f1 h1 w1→xP f1 df (a.put o.dst v').defers→xQ live nt f1 h1 w1 (oV rest call (v::lo) tm df h1) (fun Q=>K Q (a.put o.dst v') w1)) :
 xQ live nt f h w (lCO (live,ds) co (oV rest) call lo tm df h) (fun Q=>o.wp P a w (K Q) Q):=by
 have hdst':∀ t,o.dst=some t→t<a.tmps.size:=fun t ht=>by rw [hs];exact hdst t ht
 have key:∀ v h1,(∀ next Q,(∀ f' v' w',cV h h1→cY f h w f' h1 w'→bS f' v v'→next (a.put o.dst v') w')→o.wp P a w next Q)→xQ live nt f h w (oV rest call (v::lo) tm df h1) (fun Q=>o.wp P a w (K Q) Q):=fun v h1 hop=>by
  have hrest:∀ f' v' w',cV h h1→cY f h w f' h1 w'→bS f' v v'→xQ live nt f' h1 w' (oV rest call (v::lo) tm df h1) (fun Q=>K Q (a.put o.dst v') w'):=fun f' v' w' hA hC hV =>
   ih v v' h1 f' w' hC hA (Env.cons (hE.mono hC.le) hV hdst') hC.rel (by rw [put_defers];exact hD.mono hC.le)
  revert hrest
  cases oV rest call (v::lo) tm df h1 with
  | none=>intro _;trivial
  | ok e tm' df' h' =>
   intro hrest Q hQ
   refine hop (K Q) Q fun f' v' w' hA hC hV=>hrest f' v' w' hA hC hV Q fun f2 e2 a2 w2 hA2 hC2 hI hDD hX=>?_
   exact hQ f2 e2 a2 w2 (hA.trans hA2) (hC.trans hA hA2 hC2) hI hDD hX
 have pure:∀ v,(∃ v',(execOp a.eval o).run P w=.ok (.value v') w∧bS f v v')→xQ live nt f h w (oV rest call (v::lo) tm df h) (fun Q=>o.wp P a w (K Q) Q):=fun v ⟨v',h1,h2⟩ =>
  key v h fun next Q hk=>by
   unfold Oper.wp
   rw [h1]
   exact hk f v' w (cV.refl h) (cY.refl hr) h2
 cases co with
 | p fn =>
  show xQ live nt f h w (eC (fn lo tm) (fun v=>oV rest call (v::lo) tm df h) .none) _
  cases hv:fn lo tm with
  | none=>trivial
  | some v=>exact pure v (hc lo tm v hv f a w hG hE)
 | r fn =>
  have h1:sO P f a o w (fn lo tm):=hc lo tm f a w hG hE
  show xQ live nt f h w (prK h (fn lo tm) (fun v=>oV rest call (v::lo) tm df h)) _
  revert h1
  cases fn lo tm with
  | none=>intro _;trivial
  | val v=>intro h1;exact pure v h1
  | read b g =>
   intro ⟨i,hi,h1⟩
   show xQ live nt f h w (eC (h.bl.get (path b)) (fun ob=>eC (g ob) (fun v=>oV rest call (v::lo) tm df h) .none) .none) _
   cases hb:h.bl.get (path b) with
   | none=>trivial
   | some ob =>
    show xQ live nt f h w (eC (g ob) (fun v=>oV rest call (v::lo) tm df h) .none) _
    cases hg:g ob with
    | none=>trivial
    | some v =>
     obtain ⟨x,hx,hor⟩:=hr.obj b ob i hi hb
     exact pure v (h1 ob v x hg hx hor)
 | g fn =>
  have h1:cK P f h w a o (fn call lo tm h):=hc call hcall lo tm f h a w hG hE hr
  show xQ live nt f h w (Uw (Fl.go (live,ds) lo tm) df (fun v h=>oV rest call (v::lo) tm df h) (fn call lo tm h)) _
  revert h1
  cases fn call lo tm h with
  | none=>intro _;trivial
  | val v h1=>intro hg;exact key v h1 hg
  | panic c h1 =>
   intro hg Q hQ
   exact hg (K Q) Q fun f' c' w' hA hC hch=>hQ f' _ a w' hA hC (Rp (hE.mono hC.le) hd hs) (hD.mono hC.le) (.panic hch)
end
section
variable {P:Program}
theorem Po (fl:Fl) (co:CO) (r:CL):oV (Ux fl co r)=lCO fl co (oV r):=by cases co<;>rfl
theorem Pp {R:Type} {f:Map} {v v':Value} {want:Bool} (h:bS f v v') (y n z:R):(∃ b,v'=.bool b∧iB v want y n z=if b=want then y else n)∨((∃ xs,v'=.tuple xs)∧iB v want y n z=n)∨iB v want y n z=z:=by
 cases h with
 | bool b=>refine .inl ⟨b,rfl,?_⟩;cases b<;>cases want<;>rfl
 | tuple a a' hs h=>exact .inr (.inl ⟨⟨a',rfl⟩,rfl⟩)
 | _=>exact .inr (.inr rfl)
theorem Hy {ops:Array Oper} {o:Oper} {a:Act} {j:Nat} {want b:Bool} {d:Tmp} (hg:o.guard=some (j,want)) (hd:(ops[j]?).bind (·.dst)=some d) (hv:a.tmps.getD d undef=.bool b):Region.wanted o (yielded ops a.tmps)=(b == want):=by
 have ht:a.tmps[d]?=some (.bool b):=by
  rw [Array.getD_eq_getD_getElem?] at hv
  cases h:a.tmps[d]? with
  | none=>rw [h] at hv;cases hv
  | some v=>rw [h] at hv;cases hv;rfl
 unfold Region.wanted yielded
 rw [hg]
 simp only [hd,Option.bind_some,ht]
 cases b<;>cases want<;>rfl
theorem Dp {ops:Array Oper} {o:Oper} {a:Act} {j:Nat} {want:Bool} {d:Tmp} {xs:Array Value} (hg:o.guard=some (j,want)) (hd:(ops[j]?).bind (·.dst)=some d) (hv:a.tmps.getD d undef=.tuple xs):Region.wanted o (yielded ops a.tmps)=false:=by
 have ht:a.tmps[d]?=none∨∃ xs,a.tmps[d]?=some (.tuple xs):=by
  rw [Array.getD_eq_getD_getElem?] at hv
  cases h:a.tmps[d]? with
  | none=>exact .inl rfl
  | some v=>rw [h] at hv;exact .inr ⟨xs,by cases hv;rfl⟩
 unfold Region.wanted yielded
 rw [hg]
 simp only [hd,Option.bind_some]
 rcases ht with h|⟨ys,h⟩<;>rw [h]<;>cases want<;>rfl
theorem xQ.mono {live nt:Nat} {f:Map} {h:Hp} {w:World} {r:eL} {wp wp':(Exit→Act→World→Prop)→Prop} (hk:xQ live nt f h w r wp) (hw:∀ Q,wp Q→wp' Q):xQ live nt f h w r wp':=by
 cases r with
 | none=>trivial
 | ok e tm df h'=>exact fun Q hQ=>hw Q (hk Q hQ)
theorem aRz {cx:Cx} {live nt:Nat} {ops:Array Oper} {call:Call} (hX:xO P cx) (hcall:gW P cx.gs call):∀ (l:List Oper) (k:Nat) (ds:List (Option Tmp)),ops.toList.drop k=l →
 ∀ (lo:List Value) (tm:T Value) (df:Df) (h:Hp) (f:Map) (a:Act) (w:World),mC cx.gs f→Env f ds lo tm a.tmps→(∀ t,bit live t=false→tm.get (path t)=none)→a.tmps.size=nt→gX f h w→xP f df a.defers →
 xQ live nt f h w (oV (sA P cx live nt ops l ds) call lo tm df h) (fun Q=>wpOps P ops Q (List.range' k l.length) a w):=by
 intro l
 induction l with
 | nil =>
  intro k ds _ lo tm df h f a w hG hE hd hs hr hD
  show xQ live nt f h w (oV (mA live ds ds 0) call lo tm df h) _
  rw [Fv]
  intro Q hQ
  exact hQ f .normal a w (cV.refl h) (cY.refl hr) (Rp hE hd hs) hD .normal
 | cons o l ih =>
  intro k ds hk lo tm df h f a w hG hE hd hs hr hD
  have hok:ops[k]?=some o:=by
   have:=congrArg (fun l=>l[0]?) hk
   simpa using this
  have hk':ops.toList.drop (k+1)=l:=by
   have:=congrArg (List.drop 1) hk
   simpa [List.drop_drop,Nat.add_comm] using this
  have hwp:∀ Q,wpOps P ops Q (List.range' k (o::l).length) a w=(if Region.wanted o (yielded ops a.tmps) then o.wp P a w (wpOps P ops Q (List.range' (k+1) l.length)) Q∨(o.asks P a w∧LetsOut Q) else wpOps P ops Q (List.range' (k+1) l.length) (a.put o.dst undef) w):=fun Q=>by
   rw [List.length_cons,List.range'_succ]
   simp only [wpOps,hok]
  have hcons:sA P cx live nt ops (o::l) ds=bif oF nt o.dst then (match o.guard with
   | none=>(match o.op with
    | .defer cl=>(match cl.callee with
     | .value f=>.dfr (aU cx.gs ds f) (cl.args.toList.map (aU cx.gs ds)) (sA P cx live nt ops l (o.dst::ds))
     | _=>.bad)
    | _=>Ux (live,ds) (uC P cx ds o) (sA P cx live nt ops l (o.dst::ds)))
   | some (j,want)=>match (ops[j]?).bind (·.dst) with
    | some d=>.guard (live,ds) (aU cx.gs ds (.tmp d)) want (uC P cx ds o) (sA P cx live nt ops l (o.dst::ds))
    | none=>.bad) else .bad:=rfl
  rw [hcons]
  cases hdst:oF nt o.dst with
  | false=>trivial
  | true =>
  have hdst':∀ t,o.dst=some t→t<nt:=fun t ht=>by
   unfold oF at hdst;rw [ht] at hdst
   exact Nat.blt_eq.mp hdst
  have hdst2:∀ t,o.dst=some t→t<a.tmps.size:=fun t ht=>by rw [hs];exact hdst' t ht
  rw [cond_true]
  have hop:xQ live nt f h w (lCO (live,ds) (uC P cx ds o) (oV (sA P cx live nt ops l (o.dst::ds))) call lo tm df h) (fun Q=>o.wp P a w (wpOps P ops Q (List.range' (k+1) l.length)) Q) :=
   aDv (K:=fun Q=>wpOps P ops Q (List.range' (k+1) l.length)) hcall (Ro hX) hG hE hd hs hr hD hdst' fun v v' h1 f1 w1 hC hA hE1 hr1 hD1 =>
    ih (k+1) (o.dst::ds) hk' (v::lo) tm df h1 f1 (a.put o.dst v') w1 (hG.mono hC.le) hE1 hd (by rw [lB];exact hs) hr1 hD1
  cases hg:o.guard with
  | none =>
   have hwant:Region.wanted o (yielded ops a.tmps)=true:=by unfold Region.wanted;rw [hg]
   have hw2:∀ Q,wpOps P ops Q (List.range' k (o::l).length) a w=(o.wp P a w (wpOps P ops Q (List.range' (k+1) l.length)) Q∨(o.asks P a w∧LetsOut Q)):=fun Q=>by rw [hwp,if_pos hwant]
   dsimp only
   split
   · rename_i cl hcl
     split
     · rename_i x hx
       show xQ live nt f h w (vFn (bW (aU cx.gs ds x) lo tm) (fun g first cap=>oV (sA P cx live nt ops l (o.dst::ds)) call (undef::lo) tm ((g,first++(Co (cl.args.toList.map (aU cx.gs ds)) lo tm++cap))::df) h) .none) _
       have hxr:=bJ hG hE x
       have hlr:=vB hG hE cl.args.toList
       rcases aAS (bW (aU cx.gs ds x) lo tm) (fun g first cap=>oV (sA P cx live nt ops l (o.dst::ds)) call (undef::lo) tm ((g,first++(Co (cl.args.toList.map (aU cx.gs ds)) lo tm++cap))::df) h) eL.none with ⟨g,fi,cp,e,h1⟩|h1
       · rw [h1];rw [e] at hxr
         obtain ⟨fi',cp',hxe,hf1,hc1⟩:=hxr.aAT
         have hrun:(execOp a.eval o).run P w=.ok (.defer { target:=.fn (.func g) cp',args:=fi'++cl.args.map a.eval }) w:=by
          obtain ⟨callee,args,ats⟩:=cl
          dsimp only at hx
          subst hx
          simp [execOp,hcl,resolve,hxe,Deferred.ofValue]
         have:=ih (k+1) (o.dst::ds) hk' (undef::lo) tm ((g,fi.toList++(Co (cl.args.toList.map (aU cx.gs ds)) lo tm++cp.toList))::df) h f ({ a with defers:={ target:=.fn (.func g) cp',args:=fi'++cl.args.map a.eval }::a.defers }.put o.dst undef) w hG
          (Env.cons (a:={ a with defers:={ target:=.fn (.func g) cp',args:=fi'++cl.args.map a.eval }::a.defers }) hE (bS.undef f) hdst2) hd (by rw [lB];exact hs) hr (by
            rw [put_defers]
            refine .cons cp' rfl ?_ hD
            have:=hf1.append (hlr.append hc1)
            simpa [List.append_assoc] using this)
         refine this.mono fun Q hQ=>?_
         rw [hw2]
         refine .inl ?_
         unfold Oper.wp
         rw [hrun]
         exact hQ
       · rw [h1];trivial
     · trivial
   · rw [Po]
     exact hop.mono fun Q hQ=>by rw [hw2];exact .inl hQ
  | some p =>
   obtain ⟨j,want⟩:=p
   dsimp only
   cases hd2:(ops[j]?).bind (·.dst) with
   | none=>trivial
   | some d =>
    show xQ live nt f h w (iB (bW (aU cx.gs ds (.tmp d)) lo tm) want (lCO (live,ds) (uC P cx ds o) (oV (sA P cx live nt ops l (o.dst::ds))) call lo tm df h) (oV (sA P cx live nt ops l (o.dst::ds)) call (undef::lo) tm df h) .none) _
    have hskip:xQ live nt f h w (oV (sA P cx live nt ops l (o.dst::ds)) call (undef::lo) tm df h) (fun Q=>wpOps P ops Q (List.range' (k+1) l.length) (a.put o.dst undef) w) :=
     ih (k+1) (o.dst::ds) hk' (undef::lo) tm df h f (a.put o.dst undef) w hG (Env.cons hE (bS.undef f) hdst2) hd (by rw [lB];exact hs) hr (by rw [put_defers];exact hD)
    have hgr:bS f (bW (aU cx.gs ds (.tmp d)) lo tm) (a.tmps.getD d undef):=bJ hG hE (.tmp d)
    rcases Pp (want:=want) hgr (lCO (live,ds) (uC P cx ds o) (oV (sA P cx live nt ops l (o.dst::ds))) call lo tm df h) (oV (sA P cx live nt ops l (o.dst::ds)) call (undef::lo) tm df h) .none with ⟨b,hb,h1⟩|⟨⟨ys,hb⟩,h1⟩|h1
    · rw [h1]
      have hwant:=Hy (o:=o) (a:=a) hg hd2 hb
      by_cases hbw:b=want
      · rw [if_pos hbw]
        refine hop.mono fun Q hQ=>?_
        rw [hwp,hwant,if_pos (by simpa using hbw)]
        exact .inl hQ
      · rw [if_neg hbw]
        refine hskip.mono fun Q hQ=>?_
        rw [hwp,hwant,if_neg (by simpa using hbw)]
        exact hQ
    · rw [h1]
      have hwant:=Dp (o:=o) (a:=a) hg hd2 hb
      refine hskip.mono fun Q hQ=>?_
      rw [hwp,hwant]
      exact hQ
    · rw [h1];trivial
theorem aFp {cx:Cx} {live nt id:Nat} {ops:Array Oper} {call:Call} (hX:xO P cx) (hcall:gW P cx.gs call) {tm:T Value} {df:Df} {h:Hp} {f:Map} {a:Act} {w:World} (hG:mC cx.gs f) (hI:Inv live nt f tm a.tmps) (hr:gX f h w) (hD:xP f df a.defers) :
 xQ live nt f h w (oV (sA P cx live nt ops ops.toList []) call [] tm df h) (fun Q=>(Code.region id ops false).wp P Q a w):=by
 refine (aRz (cx:=cx) (ops:=ops) hX hcall ops.toList 0 [] rfl [] tm df h f a w hG hI.env hI.dead hI.size hr hD).mono fun Q hQ=>?_
 refine wp_region ?_
 rw [List.range_eq_range']
 simpa using hQ
end
section
variable {P:Program}
def tL (P:Program) (cx:Cx):Prop:=∀ (live nt id:Nat) (ops:Array Oper) (call:Call),gW P cx.gs call→∀ (tm:T Value) (df:Df) (h:Hp) (f:Map) (a:Act) (w:World),mC cx.gs f→Inv live nt f tm a.tmps→gX f h w→xP f df a.defers →
 xQ live nt f h w (iP (kU P cx live nt (.region id ops true)) call tm df h) (fun Q=>(Code.region id ops true).wp P Q a w)
theorem xQ.seq {live nt:Nat} {f:Map} {h:Hp} {w:World} {r:eL} {wp1 wp:(Exit→Act→World→Prop)→Prop} {kn:T Value→Df→Hp→eL} {nx:(Exit→Act→World→Prop)→Act→World→Prop}
 (h1:xQ live nt f h w r wp1)
 (hn:∀ tm df h1 f1 a1 w1,cV h h1→cY f h w f1 h1 w1→Inv live nt f1 tm a1.tmps→xP f1 df a1.defers→xQ live nt f1 h1 w1 (kn tm df h1) (fun Q=>nx Q a1 w1))
 (hw:∀ Q,wp1 (Exit.then (nx Q) Q)→wp Q):xQ live nt f h w (mT r kn (fun i tm df h=>.ok (.exit i) tm df h)) wp:=by
 cases r with
 | none=>trivial
 | ok e tm df h' =>
  cases e with
  | normal =>
   show xQ live nt f h w (kn tm df h') wp
   have hn':=hn tm df h'
   revert hn'
   cases kn tm df h' with
   | none=>intro _;trivial
   | ok e2 tm2 df2 h2 =>
    intro hn' Q hQ
    refine hw Q (h1 _ fun f' e' a' w' hA hC hI hD hX=>?_)
    cases hX
    exact hn' f' a' w' hA hC hI hD Q fun f2 e2 a2 w2 hA2 hC2 hI2 hD2 hX2=>hQ f2 e2 a2 w2 (hA.trans hA2) (hC.trans hA hA2 hC2) hI2 hD2 hX2
  | exit i=>exact fun Q hQ=>hw Q (h1 _ fun f' e' a' w' hA hC hI hD hX=>by cases hX;exact hQ f' _ a' w' hA hC hI hD (.exit i))
  | ret=>exact fun Q hQ=>hw Q (h1 _ fun f' e' a' w' hA hC hI hD hX=>by cases hX;exact hQ f' _ a' w' hA hC hI hD .ret)
  | panic c=>exact fun Q hQ=>hw Q (h1 _ fun f' e' a' w' hA hC hI hD hX=>by cases hX with | panic hc=>exact hQ f' _ a' w' hA hC hI hD (.panic hc))
def Kt (P:Program) (c:Code) (Q:Exit→Act→World→Prop) (a:Act) (w:World):Prop:=∀ (b:Frame) (k:List Item) (cs:List Frame),∃ e a' w',Q e a' w'∧Arrives P (lone (b.at a (.code c::.inLoop c::k)) cs w) b k cs e a' w'
theorem aBh {c:Code} {Q:Exit→Act→World→Prop} {a:Act} {w:World} (h:c.wp P (Exit.then (Kt P c Q) Q) a w):Kt P c Q a w:=by
 intro b k cs
 obtain ⟨e,a₁,w₁,hq,harr⟩:=h b (.inLoop c::k) cs
 cases e with
 | normal =>
  obtain ⟨e₂,a₂,w₂,hq₂,harr₂⟩:=hq b k cs
  exact ⟨e₂,a₂,w₂,hq₂,.of_steps (Steps.trans harr (.one step_inLoop)) harr₂⟩
 | exit id=>exact ⟨_,a₁,w₁,hq,.pass (x:=.inLoop c) rfl (fun _ _=>.inl (by simp)) harr⟩
 | goto l=>exact ⟨_,a₁,w₁,hq,.pass (x:=.inLoop c) rfl (fun _ _=>.inl (by simp)) harr⟩
 | ret=>exact ⟨_,a₁,w₁,hq,.pass (x:=.inLoop c) rfl (fun _ _=>.inl (by simp)) harr⟩
 | panic ch=>exact ⟨_,a₁,w₁,hq,.pass (x:=.inLoop c) rfl (fun _ _=>.inl (by simp)) harr⟩
 | outgrown=>exact ⟨_,a₁,w₁,hq,.pass (x:=.inLoop c) rfl (fun _ _=>.inl (by simp)) harr⟩
theorem aOa {c:Code} {Q:Exit→Act→World→Prop} {a:Act} {w:World} (h:Kt P c Q a w):(Code.loop c).wp P Q a w:=fun b k cs =>
 let ⟨e,a',w',hq,harr⟩:=h b k cs;⟨e,a',w',hq,.of_steps (.one step_loop) harr⟩
theorem aDw {cx:Cx} {live nt:Nat} {call:Call} (hX:xO P cx) (hdraw:tL P cx) (hcall:gW P cx.gs call):∀ (c:Code) (tm:T Value) (df:Df) (h:Hp) (f:Map) (a:Act) (w:World),mC cx.gs f→Inv live nt f tm a.tmps→gX f h w→xP f df a.defers →
 xQ live nt f h w (iP (kU P cx live nt c) call tm df h) (fun Q=>c.wp P Q a w):=by
 intro c
 induction c with
 | skip =>
  intro tm df h f a w hG hI hr hD
  exact fun Q hQ=>wp_skip (hQ f .normal a w (cV.refl h) (cY.refl hr) hI hD .normal)
 | region id ops draw =>
  intro tm df h f a w hG hI hr hD
  cases draw with
  | true=>exact hdraw live nt id ops call hcall tm df h f a w hG hI hr hD
  | false=>exact aFp hX hcall hG hI hr hD
 | seq x y ihx ihy =>
  intro tm df h f a w hG hI hr hD
  exact xQ.seq (nx:=fun Q a w=>y.wp P Q a w) (ihx tm df h f a w hG hI hr hD) (fun tm df h1 f1 a1 w1 hA hC hI1 hD1=>ihy tm df h1 f1 a1 w1 (hG.mono hC.le) hI1 hC.rel hD1) (fun Q h=>wp_seq h)
 | cond c x y ihx ihy =>
  intro tm df h f a w hG hI hr hD
  have hc:=bJ hG hI.env c
  show xQ live nt f h w (kZ (bW (aU cx.gs [] c) [] tm) (fun b'=>Bool.rec (motive:=fun _=>eL) (iP (kU P cx live nt y) call tm df h) (iP (kU P cx live nt x) call tm df h) b') .none) _
  rcases rC (bW (aU cx.gs [] c) [] tm) (fun b'=>Bool.rec (motive:=fun _=>eL) (iP (kU P cx live nt y) call tm df h) (iP (kU P cx live nt x) call tm df h) b') .none with ⟨b,e,h1⟩|h1
  · rw [h1];rw [e] at hc
    have hb:=hc.sM
    cases b with
    | true=>exact (ihx tm df h f a w hG hI hr hD).mono fun Q hQ=>wp_cond hb hQ
    | false=>exact (ihy tm df h f a w hG hI hr hD).mono fun Q hQ=>wp_cond hb hQ
  · rw [h1];trivial
 | block id b ih =>
  intro tm df h f a w hG hI hr hD
  have h1:=ih tm df h f a w hG hI hr hD
  show xQ live nt f h w (mT (iP (kU P cx live nt b) call tm df h) (fun tm df h=>.ok .normal tm df h) (fun i tm df h=>bif Nat.beq i id then .ok .normal tm df h else .ok (.exit i) tm df h)) _
  revert h1
  cases iP (kU P cx live nt b) call tm df h with
  | none=>intro _;trivial
  | ok e tm1 Vw h1 =>
   intro hk
   cases e with
   | normal=>exact fun Q hQ=>wp_block (hk _ fun f' e' a' w' hA hC hI hD hX=>by cases hX;exact hQ f' .normal a' w' hA hC hI hD .normal)
   | ret=>exact fun Q hQ=>wp_block (hk _ fun f' e' a' w' hA hC hI hD hX=>by cases hX;exact hQ f' .ret a' w' hA hC hI hD .ret)
   | panic c=>exact fun Q hQ=>wp_block (hk _ fun f' e' a' w' hA hC hI hD hX=>by cases hX with | panic hc=>exact hQ f' _ a' w' hA hC hI hD (.panic hc))
   | exit i =>
    show xQ live nt f h w (bif Nat.beq i id then .ok .normal tm1 Vw h1 else .ok (.exit i) tm1 Vw h1) _
    cases hi:Nat.beq i id with
    | true =>
     have:=Nat.eq_of_beq_eq_true hi;subst this
     exact fun Q hQ=>wp_block (hk _ fun f' e' a' w' hA hC hI hD hX=>by
      cases hX
      show (if i=i then Q .normal a' w' else Q (.exit i) a' w')
      rw [if_pos rfl]
      exact hQ f' .normal a' w' hA hC hI hD .normal)
    | false =>
     have hne:=tJ hi
     exact fun Q hQ=>wp_block (hk _ fun f' e' a' w' hA hC hI hD hX=>by
      cases hX
      show (if i=id then Q .normal a' w' else Q (.exit i) a' w')
      rw [if_neg hne]
      exact hQ f' (.exit i) a' w' hA hC hI hD (.exit i))
 | loop b ih =>
  intro tm df h f a w hG hI hr hD
  have main:∀ (n:Nat) (tm:T Value) (df:Df) (h:Hp) (f:Map) (a:Act) (w:World),mC cx.gs f→Inv live nt f tm a.tmps→gX f h w→xP f df a.defers→xQ live nt f h w (Hq (iP (kU P cx live nt b)) n call tm df h) (fun Q=>Kt P b Q a w):=by
   intro n
   induction n with
   | zero=>intros;trivial
   | succ n ihn =>
    intro tm df h f a w hG hI hr hD
    exact xQ.seq (nx:=fun Q a w=>Kt P b Q a w) (ih tm df h f a w hG hI hr hD) (fun tm df h1 f1 a1 w1 hA hC hI1 hD1=>ihn tm df h1 f1 a1 w1 (hG.mono hC.le) hI1 hC.rel hD1) (fun Q h=>aBh h)
  exact (main 1000000 tm df h f a w hG hI hr hD).mono fun Q hQ=>aOa hQ
 | exit id =>
  intro tm df h f a w hG hI hr hD
  exact fun Q hQ=>wp_exit (hQ f (.exit id) a w (cV.refl h) (cY.refl hr) hI hD (.exit id))
 | ret =>
  intro tm df h f a w hG hI hr hD
  exact fun Q hQ=>wp_ret (hQ f .ret a w (cV.refl h) (cY.refl hr) hI hD .ret)
 | _=>intros;trivial
end
end cG
end Go
