/-
A certified evaluator for calls of the program, part 03.
Conditions: none.
-/
import Derived.Recover
import Derived.Test.YtekknahndoonjaaGreatDoorEval02
set_option linter.all false
noncomputable section
namespace Go
namespace Abs
variable {m:Md} {u:FrameMode} {all i live s:Nat} {cc:CC} {c:Operand→OD} {c₀:Frame} {cs:List Frame} {d:Dn} {v':A0} {log rest:List Nat} {Q:Exit→Act→World→Prop} {K:Act→World→Prop} {fn:DO} {l:Option OD} {x:OD} {t:Tmp} {cm:Nat→Nat→Bool} {df:Df} {w0:World}
section
variable {P:Program}
theorem APd{f:Map}(c:Frame)(cs:List Frame)(hc:c.mode=u)(h:GP f m u):
 ∃v' u',F5 f (UF m).1 v'∧GP f (UF m).2 u'∧((recoverD (c::cs)=some (v',{ c with mode:=u' }::cs))∨(recoverD (c::cs)=none∧v'=.nilIface∧u'=u)):=by
 cases h with
 | ret=>exact⟨.nilIface,.returning,.nilIface,.ret,.inr ⟨by simp[recoverD,hc],rfl,rfl⟩⟩
 | Jj hh =>
  cases hh with
  | nil=>exact⟨.nilIface,.panicking [],.nilIface,.Jj .nil,.inr ⟨by simp[recoverD,hc],rfl,rfl⟩⟩
  | @cons e e' r r' h hr =>
   obtain⟨v,rc,g⟩:=e;obtain⟨v',rc',g'⟩:=e';obtain⟨hv,h2,h3⟩:=h;dsimp only at h2 h3 hv;subst h2;subst h3;cases rc with
   | true=>exact⟨.nilIface,.panicking ({ v:=v',recovered:=true,goexit:=g }::r'),.nilIface,.Jj (.cons ⟨hv,rfl,rfl⟩ hr),.inr ⟨by simp[recoverD,hc],rfl,rfl⟩⟩
   | false =>
    cases g with
    | true=>exact⟨.nilIface,.panicking ({ v:=v',recovered:=false,goexit:=true }::r'),.nilIface,.Jj (.cons ⟨hv,rfl,rfl⟩ hr),.inr ⟨by simp[recoverD,hc],rfl,rfl⟩⟩
    | false=>exact⟨v',.panicking ({ v:=v',recovered:=true }::r'),hv,.Jj (.cons ⟨hv,rfl,rfl⟩ hr),.inl (by simp[recoverD,hc])⟩
def A4f(P:Program)(live nt:Nat)(f:Map)(h:Hp)(w:World)(c₀:Frame)(cs:List Frame)(r:Ee)(wp:(Exit→Act→List Frame→World→Prop)→Prop):Prop:=match r with
 | .none=>True
 | .ok e tm m h'=>∀Q:Exit→Act→List Frame→World→Prop,(∀f' e' a' u' w',L6 h h'→L5 f h w f' h' w'→Inv live nt f' tm a'.tmps→a'.defers=[]→GP f' m u'→ADN f' e e'→Q e' a' ({ c₀ with mode:=u' }::cs) w')→wp Q
theorem AH1{cx:Cx}{nt:Nat}{A7:Call}{c:Code}{tm:T A0}{h:Hp}{f:Map}{a:Act}{w:World}(hM:GP f m u)(hcode:SG live nt f h w (Dx cc A7 tm [] h) (fun Q=>c.wp P Q a w)):A4f P live nt f h w c₀ cs (XP cc A7 tm m h) (fun Q=>c.wpS P Q a ({ c₀ with mode:=u }::cs) w):=by
 unfold XP;revert hcode;cases Dx cc A7 tm [] h with
 | none=>intro _;trivial
 | ok e tm1 df h1 =>
  cases df with
  | cons d df=>intro _;trivial
  | nil =>
   intro hcode Q hQ;refine wpS_of_wp (hcode _ fun f' e' a' w' hA hC hI hD hX=>?_);have hd:a'.defers=[]:=by generalize a'.defers=ds at hD;cases hD;rfl
   exact hQ f' e' a' u w' hA hC hI hd (hM.mono hC.le) hX
end
section
variable {P:Program}
theorem A6P{o:Oper}(ρ:Operand→A0)(w:World){args:Array Operand}{ats:Array TypeId}(ho:o.op=.call { callee:=.builtin .recover,args:=args,argTypes:=ats }):(execOp ρ o).run P w=.ok .recover w:=by obtain⟨cs,hr⟩:=AI (P:=P) ρ w ho;rw[hr];simp[builtin]
theorem A3W{o:Oper}(h:DQ o=true):∃args ats,o.op=.call { callee:=.builtin .recover,args:=args,argTypes:=ats }:=by unfold DQ at h;grind
def ASO(d:Option Tmp)(tm:T A0)(v:A0):T A0:=Option.rec (motive:=fun _=>T A0) tm (fun t=>T.set (path t) tm (some v)) d
theorem Inv.put{nt:Nat}{f:Map}{tm:T A0}{a:Act}{d:Option Tmp}{v:A0}(hI:Inv live nt f tm a.tmps)(hv:F5 f v v')(hok:Fj live nt=true)(hd:∀t,d=some t→t<nt):
 Inv live nt f (ASO d tm v) (a.put d v').tmps:=by
 cases d with
 | none=>exact hI
 | some t =>
  have ht:=hd t rfl;refine⟨fun s=>⟨fun i hi=>(by cases hi),fun _ u hu=>?_⟩,fun s hs=>?_,by rw[DB];exact hI.size⟩
  · change (T.set (path t) tm (some v)).get (path s)=some u at hu;rw[V9] at hu;by_cases e:t=s
    · subst e;rw[if_pos rfl] at hu;cases hu;have:(a.put (some t) v').tmps.getD t undef=v':=by
       show(a.tmps.setIfInBounds t v').getD t undef=v';simp[gS,hI.size,ht]
      rw[this];exact hv
    · rw[if_neg e] at hu;have:(a.put (some t) v').tmps.getD s undef=a.tmps.getD s undef:=by
       show(a.tmps.setIfInBounds t v').getD s undef=_;simp_all
      rw[this];exact(hI.env s).2 rfl u hu
  · show(T.set (path t) tm (some v)).get (path s)=none;rw[V9];by_cases e:t=s
    ·subst e;have:=YN hok ht;rw[hs] at this;cases this
    ·rw[if_neg e];exact hI.dead s hs
theorem A4q{ops:Array Oper}{o:Oper}{k:Nat}{a:Act}{w:World}{Q:Exit→Act→List Frame→World→Prop}(hok:ops[k]?=some o)(hg:o.guard=none)(h:o.wp P a w (fun a' w'=>wpOpsS P ops Q rest a' cs w') (fun e a' w'=>Q e a' cs w')):wpOpsS P ops Q (k::rest) a cs w:=by
 have hwant:Region.wanted o (yielded ops a.tmps)=true:=by unfold Region.wanted;rw[hg]
 unfold Oper.wp at h;simp only[wpOpsS,hok,hwant,if_true];revert h;generalize (execOp a.eval o).run P w=r;intro h;split
 ·exact h.elim
 ·exact h
theorem vi{ops:Array Oper}{o:Oper}{k:Nat}{a:Act}{w:World}{Q:Exit→Act→List Frame→World→Prop}(hok:ops[k]?=some o)(hg:o.guard=none)(hrec:DQ o=true){cs':List Frame}(hr:recoverD cs=some (v',cs')∨(recoverD cs=none∧v'=.nilIface∧cs'=cs))(h:wpOpsS P ops Q rest (a.put o.dst v') cs' w):wpOpsS P ops Q (k::rest) a cs w:=by
 have hwant:Region.wanted o (yielded ops a.tmps)=true:=by unfold Region.wanted;rw[hg]
 obtain⟨args,ats,ho⟩:=A3W hrec;simp only[wpOpsS,hok,hwant,if_true,A6P a.eval w ho];grind
theorem AM6{o:Oper}{a:Act}{w:World}{Q':Exit→Act→World→Prop}(h:o.wp P a w K Q)(hp:∀c a w,Q (.panic c) a w→Q' (.panic c) a w)(ho:LetsOut Q→LetsOut Q'):o.wp P a w K Q':=by
 unfold Oper.wp at *;generalize (execOp a.eval o).run P w=r at *;cases r with
 | ok n w' =>
  cases n<;>simp only[Oper.upon] at h ⊢ <;>
   first
    | exact h
    | exact Calls.mono h (fun e w'' he=>by grind)
 | halt x w'=>cases x<;>simp only[Oper.upon] at h ⊢<;>first | exact hp _ _ _ h | exact h
theorem A4f.seq{nt:Nat}{f:Map}{h:Hp}{w:World}{r:Ee}{wp1 wp:(Exit→Act→List Frame→World→Prop)→Prop}{kn:T A0→Md→Hp→Ee}{nx:(Exit→Act→List Frame→World→Prop)→Act→List Frame→World→Prop}(h1:A4f P live nt f h w c₀ cs r wp1)(hn:∀tm m u h1 f1 a1 w1,L6 h h1→L5 f h w f1 h1 w1→Inv live nt f1 tm a1.tmps→a1.defers=[]→GP f1 m u→A4f P live nt f1 h1 w1 c₀ cs (kn tm m h1) (fun Q=>nx Q a1 ({ c₀ with mode:=u }::cs) w1))(hw:∀Q,wp1 (Exit.thenS (nx Q) Q)→wp Q):
 A4f P live nt f h w c₀ cs (Ee.rec (motive:=fun _=>Ee) .none (fun e tm m h=>Ex.rec (motive:=fun _=>Ee) (kn tm m h) (fun i=>.ok (.exit i) tm m h) (.ok .ret tm m h) (fun c=>.ok (.panic c) tm m h) e) r) wp:=by
 cases r with
 | none=>trivial
 | ok e tm m h' =>
  cases e with
  | normal =>
   show A4f P live nt f h w c₀ cs (kn tm m h') wp;have hn':=fun u=>hn tm m u h';revert hn';cases kn tm m h' with
   | none=>intro _;trivial
   | ok e2 tm2 m2 h2 =>
    intro hn' Q hQ;refine hw Q (h1 _ fun f' e' a' u' w' hA hC hI hD hM hX=>?_);cases hX;exact hn' u' f' a' w' hA hC hI hD hM Q fun f2 e2 a2 u2 w2 hA2 hC2 hI2 hD2 hM2 hX2=>hQ f2 e2 a2 u2 w2 (hA.trans hA2) (hC.trans hA hA2 hC2) hI2 hD2 hM2 hX2
  | exit i=>exact fun Q hQ=>hw Q (h1 _ fun f' e' a' u' w' hA hC hI hD hM hX=>by cases hX;exact hQ f' _ a' u' w' hA hC hI hD hM (.exit i))
  | ret=>exact fun Q hQ=>hw Q (h1 _ fun f' e' a' u' w' hA hC hI hD hM hX=>by cases hX;exact hQ f' _ a' u' w' hA hC hI hD hM .ret)
  | panic c=>exact fun Q hQ=>hw Q (h1 _ fun f' e' a' u' w' hA hC hI hD hM hX=>by cases hX with | panic hc=>exact hQ f' _ a' u' w' hA hC hI hD hM (.panic hc))
theorem ADt{nt:Nat}{A7:Call}{tm:T A0}{h:Hp}{f:Map}{w:World}{wp:(Exit→Act→World→Prop)→Prop}(hM:GP f m u)(hcode:SG live nt f h w (Dx cc A7 tm [] h) wp):A4f P live nt f h w c₀ cs (XP cc A7 tm m h) (fun Q=>wp (fun e a' w'=>Q e a' ({ c₀ with mode:=u }::cs) w')):=by
 unfold XP;revert hcode;cases Dx cc A7 tm [] h with
 | none=>intro _;trivial
 | ok e tm1 df h1 =>
  cases df with
  | cons d df=>intro _;trivial
  | nil =>
   intro hcode Q hQ;refine hcode _ fun f' e' a' w' hA hC hI hD hX=>?_;have hd:a'.defers=[]:=by generalize a'.defers=ds at hD;cases hD;rfl
   exact hQ f' e' a' u w' hA hC hI hd (hM.mono hC.le) hX
theorem AUl{cx:Cx}{nt:Nat}{A7:Call}{o:Oper}(hX:SW P cx)(hcall:S9 P cx.gs A7)(hg:o.guard=none){tm:T A0}{h:Hp}{f:Map}{a:Act}{w:World}(hG:Dr cx.gs f)(hI:Inv all nt f tm a.tmps)(hr:Z6 f h w)(hD:a.defers=[])(hM:GP f m u):
 A4f P all nt f h w c₀ cs (XP (.region (Lz P cx all nt #[o] [o] [])) A7 tm m h) (fun Q=>o.wp P a w (fun a' w'=>Q .normal a' ({ c₀ with mode:=u }::cs) w') (fun e a' w'=>Q e a' ({ c₀ with mode:=u }::cs) w')):=by
 have hcons:Lz P cx all nt #[o] [o] []=bif Gu nt o.dst then(match o.guard with
  | none=>(match o.op with
   | .defer cl=>(match cl.callee with
    | .value f=>.AR7 (C3 cx.gs [] f) (cl.args.toList.map (C3 cx.gs [])) (Ed all [o.dst] [o.dst] 0)
    | _=>.bad)
   | _=>A52 (all,[]) (OS P cx [] o) (Ed all [o.dst] [o.dst] 0))
  | some (j,want)=>match ((#[o]:Array Oper)[j]?).bind (·.dst) with
   | some d=>.guard (all,[]) (C3 cx.gs [] (.tmp d)) want (OS P cx [] o) (Ed all [o.dst] [o.dst] 0)
   | none=>.bad) else .bad:=rfl
 have hDr:SA f [] a.defers:=by rw[hD];exact .nil
 rw[hcons];cases hdst:Gu nt o.dst with
 | false=>trivial
 | true =>
 have hdst':∀t,o.dst=some t→t<nt:=fun t ht=>by unfold Gu at hdst;simp_all
 rw[cond_true,hg];dsimp only;split
 · rename_i cl hcl;split
   · rename_i x hx;show A4f P all nt f h w c₀ cs (N7.rec (motive:=fun _=>Ee) .none (fun e tm df h=>List.rec (motive:=fun _=>Ee) (.ok e tm m h) (fun _ _ _=>.none) df) (AFi (G4 (C3 cx.gs [] x) [] tm) (fun g first cap=>Hb (Ed all [o.dst] [o.dst] 0) A7 [undef] tm [(g,first++(XW (cl.args.toList.map (C3 cx.gs [])) [] tm++cap))] h) .none)) _;rcases ABu (G4 (C3 cx.gs [] x) [] tm) (fun g first cap=>Hb (Ed all [o.dst] [o.dst] 0) A7 [undef] tm [(g,first++(XW (cl.args.toList.map (C3 cx.gs [])) [] tm++cap))] h) N7.none with⟨g,fi,cp,e,h1⟩|h1
     ·rw[h1,eU];trivial
     ·rw[h1];trivial
   ·trivial
 ·refine ADt (wp:=fun Q=>o.wp P a w (fun a' w'=>Q .normal a' w') Q) hM ?_;show SG all nt f h w (Hb (A52 (all,[]) (OS P cx [] o) (Ed all [o.dst] [o.dst] 0)) A7 [] tm [] h) _;rw[zH];refine AFp (K:=fun Q a w=>Q .normal a w) hcall (A0X hX) hG hI.env hI.dead hI.size hr hDr hdst' fun v v' h1 f1 w1 hC hA hE1 hr1 hD1=>?_;rw[eU];intro Q hQ;exact hQ f1 .normal _ w1 (L6.refl h1) (L5.refl hr1) (A2M hE1 hI.dead (by rw[DB];exact hI.size)) hD1 .normal
theorem A8q{cx:Cx}{nt:Nat}{A7:Call}{ops:Array Oper}(hX:SW P cx)(hcall:S9 P cx.gs A7)(hall:Fj all nt=true)(hng:∀o∈ops.toList,o.guard=none)(c₀:Frame)(cs:List Frame):∀(l:List Oper) (k:Nat),ops.toList.drop k=l →
 ∀(tm:T A0) (m:Md) (u:FrameMode) (h:Hp) (f:Map) (a:Act) (w:World),Dr cx.gs f→Inv all nt f tm a.tmps→Z6 f h w→a.defers=[]→GP f m u →
 A4f P all nt f h w c₀ cs (Rz (Bp P cx nt all l) A7 tm m h) (fun Q=>wpOpsS P ops Q (List.range' k l.length) a ({ c₀ with mode:=u }::cs) w):=by
 intro l;induction l with
 | nil =>
  intro k _ tm m u h f a w hG hI hr hD hM Q hQ;exact hQ f .normal a u w (L6.refl h) (L5.refl hr) hI hD hM .normal
 | cons o l ih =>
  intro k hk tm m u h f a w hG hI hr hD hM;have hok:ops[k]?=some o:=by have:=congrArg (fun l=>l[0]?) hk;simpa using this
  have hk':ops.toList.drop (k+1)=l:=by have:=congrArg (List.drop 1) hk;simpa[A5l,ik] using this
  have hg:o.guard=none:=hng o (by grind);rw[Gn,List.range'_succ];have hsplit:Bp P cx nt all (o::l)=bif DQ o then(bif (match o.guard with|none=>Gu nt o.dst|some _=>false) then .seq (.iu (o.dst.map path)) (Bp P cx nt all l) else .plain .bad)
   else .seq (.plain (.region (Lz P cx all nt #[o] [o] []))) (Bp P cx nt all l):=rfl
  rw[hsplit];cases hrec:DQ o with
  | true =>
   rw[cond_true,hg];dsimp only;cases hdst:Gu nt o.dst with
   | false=>trivial
   | true =>
   have hdst':∀t,o.dst=some t→t<nt:=fun t ht=>by unfold Gu at hdst;simp_all
   rw[cond_true];obtain⟨v',u',hv,hM',hrd⟩:=APd { c₀ with mode:=u } cs rfl hM;have hI':=Inv.put hI hv hall hdst';have hrest:=ih (k+1) hk' _ (UF m).2 u' h f (a.put o.dst v') w hG hI' hr (by rw[put_defers];exact hD) hM';have e:Rz (.seq (.iu (o.dst.map path)) (Bp P cx nt all l)) A7 tm m h=Rz (Bp P cx nt all l) A7 (ASO o.dst tm (UF m).1) (UF m).2 h:=by
    cases hd:o.dst with
    | none=>rfl
    | some t =>
     show Ee.rec (motive:=fun _=>Ee) .none _ (T.Gy (path t) tm (some (UF m).1) fun tm=>.ok .normal tm (UF m).2 h)=_;rw[T.X9];rfl
   rw[e];revert hrest;cases Rz (Bp P cx nt all l) A7 (ASO o.dst tm (UF m).1) (UF m).2 h with
   | none=>intro _;trivial
   | ok e2 tm2 m2 h2 =>
    intro hrest Q hQ;refine vi hok hg hrec (v':=v') (cs':={ c₀ with mode:=u' }::cs) ?_ (hrest Q hQ);grind
  | false =>
   exact A4f.seq (nx:=fun Q a cs w=>wpOpsS P ops Q (List.range' (k+1) l.length) a cs w) (AUl hX hcall hg hG hI hr hD hM)
    (fun tm m u h1 f1 a1 w1 hA hC hI1 hD1 hM1=>ih (k+1) hk' tm m u h1 f1 a1 w1 (hG.mono hC.le) hI1 hC.rel hD1 hM1)
    (fun Q hQ=>A4q hok hg (AM6 hQ (fun _ _ _ h=>h) (fun h=>h)))
end
section
variable {P:Program}
theorem AVK{cx:Cx}{nt:Nat}{A7:Call}(hX:SW P cx)(hdraw:QL P cx)(hcall:S9 P cx.gs A7)(hall:Fj all nt=true)(c₀:Frame)(cs:List Frame):∀(c:Code) (tm:T A0) (m:Md) (u:FrameMode) (h:Hp) (f:Map) (a:Act) (w:World),Dr cx.gs f→Inv all nt f tm a.tmps→Z6 f h w→a.defers=[]→GP f m u →
 A4f P all nt f h w c₀ cs (Rz (cS P cx all nt c) A7 tm m h) (fun Q=>c.wpS P Q a ({ c₀ with mode:=u }::cs) w):=by
 intro c;have plain:∀(c:Code) (tm:T A0) (m:Md) (u:FrameMode) (h:Hp) (f:Map) (a:Act) (w:World),Dr cx.gs f→Inv all nt f tm a.tmps→Z6 f h w→a.defers=[]→GP f m u →
  A4f P all nt f h w c₀ cs (XP (Cb P cx all nt c) A7 tm m h) (fun Q=>c.wpS P Q a ({ c₀ with mode:=u }::cs) w):=fun c tm m u h f a w hG hI hr hD hM =>
  AH1 (cx:=cx) hM (AEh hX hdraw hcall c tm [] h f a w hG hI hr (by rw[hD];exact .nil))
 induction c with
 | seq x y ihx ihy =>
  intro tm m u h f a w hG hI hr hD hM;exact A4f.seq (nx:=fun Q a cs w=>y.wpS P Q a cs w) (ihx tm m u h f a w hG hI hr hD hM) (fun tm m u h1 f1 a1 w1 hA hC hI1 hD1 hM1=>ihy tm m u h1 f1 a1 w1 (hG.mono hC.le) hI1 hC.rel hD1 hM1) (fun Q h=>wpS_seq h)
 | cond c x y ihx ihy =>
  intro tm m u h f a w hG hI hr hD hM;have hc:=F0 hG hI.env c;show A4f P all nt f h w c₀ cs (Cq (G4 (C3 cx.gs [] c) [] tm) (fun t=>Bool.rec (motive:=fun _=>Ee) (Rz (cS P cx all nt y) A7 tm m h) (Rz (cS P cx all nt x) A7 tm m h) t) .none) _;rcases Lr (G4 (C3 cx.gs [] c) [] tm) (fun t=>Bool.rec (motive:=fun _=>Ee) (Rz (cS P cx all nt y) A7 tm m h) (Rz (cS P cx all nt x) A7 tm m h) t) .none with⟨b,e,h1⟩|h1
  · rw[h1];rw[e] at hc;have hb:=hc.Mo;cases b with
    | true =>
     have:=ihx tm m u h f a w hG hI hr hD hM;show A4f P all nt f h w c₀ cs (Rz (cS P cx all nt x) A7 tm m h) _;revert this;cases Rz (cS P cx all nt x) A7 tm m h with
     | none=>intro _;trivial
     | ok e2 tm2 m2 h2=>intro hh Q hQ;exact wpS_cond hb (hh Q hQ)
    | false =>
     have:=ihy tm m u h f a w hG hI hr hD hM;show A4f P all nt f h w c₀ cs (Rz (cS P cx all nt y) A7 tm m h) _;revert this;cases Rz (cS P cx all nt y) A7 tm m h with
     | none=>intro _;trivial
     | ok e2 tm2 m2 h2=>intro hh Q hQ;exact wpS_cond hb (hh Q hQ)
  ·rw[h1];trivial
 | region id ops draw =>
  intro tm m u h f a w hG hI hr hD hM;show A4f P all nt f h w c₀ cs (Rz (bif ops.toList.any DQ then(bif draw||ops.toList.any (fun o=>o.guard.isSome) then .plain .bad else Bp P cx nt all ops.toList) else .plain (Cb P cx all nt (.region id ops draw))) A7 tm m h) _;cases hrc:ops.toList.any DQ with
  | false=>exact plain (.region id ops draw) tm m u h f a w hG hI hr hD hM
  | true =>
   rw[cond_true];cases hbd:(draw||ops.toList.any (fun o=>o.guard.isSome)) with
   | true=>trivial
   | false =>
    rw[cond_false];rw[A6r] at hbd;have hng:∀o∈ops.toList,o.guard=none:=fun o ho=>by have:=List.any_eq_false.1 hbd.2 o ho;simp_all
    have hs:=A8q hX hcall hall hng c₀ cs ops.toList 0 (by simp) tm m u h f a w hG hI hr hD hM;have hdr:=hbd.1;subst hdr;revert hs;cases Rz (Bp P cx nt all ops.toList) A7 tm m h with
    | none=>intro _;trivial
    | ok e2 tm2 m2 h2 =>
     intro hs Q hQ;refine wpS_region ?_;have:=hs Q hQ;rw[List.range_eq_range'];simpa using this
 | skip=>exact plain .skip
 | block i b _=>exact plain (.block i b)
 | loop b _=>exact plain (.loop b)
 | scope b _=>exact plain (.scope b)
 | exit i=>exact plain (.exit i)
 | ret=>exact plain .ret
 | rangeFunc a b c d _=>exact plain (.rangeFunc a b c d)
 | label l=>exact plain (.label l)
 | goto l=>exact plain (.goto l)
 | _=>intros;trivial
theorem Wm{fn:Func}(h:fn.results.isEmpty=true)(tmps:Array A0)(w:World):(results fn tmps).run P w=.ok (.tuple #[]) w:=by
 have:fn.results=#[]:=by simpa using h
 unfold results;simp[this]
theorem AER{cx:Cx}{A7:Call}(hX:SW P cx)(hdraw:QL P cx)(hcall:S9 P cx.gs A7):ks P cx.gs (fun g=>Xu (ACH P cx g) A7):=by
 intro g args args' m u f h w hG hr hl hM;show match Xu (ACH P cx g) A7 args m h with|.none=>True|.ok m' h'=>_
 have hcF:ACH P cx g=match P.funcs[g]? with
  | some fn=>match fn.body with
   | some c=>bif fn.results.isEmpty&&!(fn.name == "runtime.NumGoroutine")&&Fj (Nat.sub (Nat.pow 2 fn.ntmps) 1) fn.ntmps then .mk fn.ntmps (fn.params.size+fn.nfree) (cS P cx (Nat.sub (Nat.pow 2 fn.ntmps) 1) fn.ntmps c) else .bad
   | none=>.bad
  | none=>.bad:=rfl
 rw[hcF];cases hfn:P.funcs[g]? with
 | none=>trivial
 | some fn =>
 cases hb:fn.body with
 | none=>dsimp only;rw[hb];trivial
 | some c =>
 dsimp only;rw[hb];dsimp only;generalize Nat.sub (Nat.pow 2 fn.ntmps) 1=all;cases hok:(fn.results.isEmpty&&!(fn.name == "runtime.NumGoroutine")&&Fj all fn.ntmps) with
 | false=>trivial
 | true =>
 rw[U8,U8] at hok;obtain⟨⟨ho1,ho2⟩,ho3⟩:=hok;have hname:(fn.name == "runtime.NumGoroutine")=false:=by simpa using ho2
 generalize fn.params.size+fn.nfree=na;show match (bif Nat.beq (len args) na&&Nat.ble na fn.ntmps then WT args 0 .nil fun tm=>Ee.rec (motive:=fun _=>uW) .none (fun e _ m h=>Ex.rec (motive:=fun _=>uW) (.ok (MF m) h) (fun _=>.none) (.ok (MF m) h) (fun c=>.ok (kz m c) h) e) (Rz (cS P cx all fn.ntmps c) A7 tm m h) else .none) with|.none=>True|.ok m' h'=>_
 cases hn:(Nat.beq (len args) na&&Nat.ble na fn.ntmps) with
 | false=>trivial
 | true =>
 rw[U8] at hn;have hn1:=T9 hn.1;have hn2:=Nat.ble_eq.mp hn.2;rw[R4] at hn1;rw[cond_true,Kr,AK];have hent:Enters P g:=⟨fn,hfn,hname,by rw[hb];rfl⟩
 have hoa:Fj all na=true:=by unfold Fj;refine Cc.2 fun t ht=>?_;exact YN ho3 (by grind)
 have hI:=A07 hl hn1 hn2 hoa;have hcode:=fun(c₀:Frame) (cs:List Frame)=>AVK (nt:=fn.ntmps) hX hdraw hcall ho3 c₀ cs c (C7 args 0 .nil fun t=>t) m u h f { tmps:=args'.toArray++Array.replicate (fn.ntmps-args'.toArray.size) undef,defers:=[] } w hG hI hr rfl hM;revert hcode;cases Rz (cS P cx all fn.ntmps c) A7 (C7 args 0 .nil fun t=>t) m h with
 | none=>intro _;trivial
 | ok e tm1 m1 h1 =>
  intro hcode;cases e with
  | exit i=>trivial
  | normal =>
   refine⟨hent,callsD_of_wpS hfn hb fun c₀ cs hu=>?_⟩;have hc:=hcode c₀ cs;rw[show({ c₀ with mode:=u }:Frame)=c₀ by cases c₀;cases hu;rfl] at hc;refine hc _ fun f' e' a' u' w' hA hC hI1 hD1 hM1 hX1=>?_;cases hX1;exact⟨hD1,u',rfl,_,Wm ho1 _ _,f',hA,hC,hM1.settle,by simp⟩
  | ret =>
   refine⟨hent,callsD_of_wpS hfn hb fun c₀ cs hu=>?_⟩;have hc:=hcode c₀ cs;rw[show({ c₀ with mode:=u }:Frame)=c₀ by cases c₀;cases hu;rfl] at hc;refine hc _ fun f' e' a' u' w' hA hC hI1 hD1 hM1 hX1=>?_;cases hX1;exact⟨hD1,u',rfl,_,Wm ho1 _ _,f',hA,hC,hM1.settle,by simp⟩
  | panic c0 =>
   refine⟨hent,callsD_of_wpS hfn hb fun c₀ cs hu=>?_⟩;have hc:=hcode c₀ cs;rw[show({ c₀ with mode:=u }:Frame)=c₀ by cases c₀;cases hu;rfl] at hc;refine hc _ fun f' e' a' u' w' hA hC hI1 hD1 hM1 hX1=>?_;cases hX1 with
   | panic hch=>exact⟨hD1,u',rfl,f',hA,hC,hM1.raised hch,by simp⟩
theorem A7l{cx:Cx}(hX:SW P cx)(hdraw:QL P cx):∀n,S9 P cx.gs (gm P cx n):=ANx hX hdraw fun _ h=>AER hX hdraw h
end
section
variable {P:Program} {gs:List Nat} {ds:List (Option Tmp)} {o:Oper} {lo lo':List A0} {tm tm':T A0}
def IG(lo:List A0)(tm:T A0)(lo':List A0)(tm':T A0):CO→Prop
 | .p f=>f lo tm=f lo' tm'
 | .r f=>f lo tm=f lo' tm'
 | .g f=>∀A7 h,f A7 lo tm h=f A7 lo' tm' h
def X8(lo:List A0)(tm:T A0)(lo':List A0)(tm':T A0)(x:OD):Prop:=G4 x lo tm=G4 x lo' tm'
theorem Y2:IG lo tm lo' tm' bad:=rfl
theorem EL{b:Bool}{c d:CO}(h:IG lo tm lo' tm' c)(h':IG lo tm lo' tm' d):IG lo tm lo' tm' (bif b then c else d):=by cases b<;>assumption
theorem Hj{l:List OD}(h:∀x∈l,X8 lo tm lo' tm' x):XW l lo tm=XW l lo' tm':=by
 induction l with
 | nil=>rfl
 | cons x l ih =>
  show G4 x lo tm::XW l lo tm=G4 x lo' tm'::XW l lo' tm';rw[h x (by simp),ih fun y hy=>h y (by simp[hy])]
theorem oN{R:Type}{l:List (Nat×Nat×OD)}(h:∀p∈l,X8 lo tm lo' tm' p.2.2):∀(z:List A0) (k:List A0→R) (no:R),CT l lo tm z k no=CT l lo' tm' z k no:=by
 induction l with
 | nil=>intro z k no;rfl
 | cons p l ih =>
  intro z k no;show WG p.1 p.2.1 (G4 p.2.2 lo tm) z (fun z=>CT l lo tm z k no) no=WG p.1 p.2.1 (G4 p.2.2 lo' tm') z (fun z=>CT l lo' tm' z k no) no;rw[h p (by simp)];grind
theorem BN{R:Type}{x:Option OD}(h:∀y,x=some y→X8 lo tm lo' tm' y)(d t:Nat)(k:Nat→R)(z:R):m9 x lo tm d t k z=m9 x lo' tm' d t k z:=by
 cases x with
 | none=>rfl
 | some y =>
  show Hw (G4 y lo tm) _ _=Hw (G4 y lo' tm') _ _;rw[h y rfl]
theorem ny{place:Nat→Option (Nat×Nat)}:∀ {l:List (Nat×Operand)} {r:List (Nat×Nat×OD)},Lm gs ds place l=some r→∀p∈r,∃q∈l,p.2.2=C3 gs ds q.2:=by
 intro l;induction l with
 | nil=>intro r h p hp;cases h;cases hp
 | cons q l ih =>
  intro r h p hp;obtain⟨i,x⟩:=q;unfold Lm at h;split at h
  · rename_i o n l' h1 h2;cases h;rcases m8.1 hp with rfl|hp
    ·simp
    grind
  ·cases h
theorem A7M{h:Option OD}(hl:∀y,l=some y→X8 lo tm lo' tm' y)(hh:∀y,h=some y→X8 lo tm lo' tm' y)(b o n c:Nat):slice3 s l h lo tm b o n c=slice3 s l h lo' tm' b o n c:=by unfold slice3;rw[BN hh];congr 1;funext hi;rw[BN hl]
theorem A5T{h:Option OD}{m:OD}(hl:∀y,l=some y→X8 lo tm lo' tm' y)(hh:∀y,h=some y→X8 lo tm lo' tm' y)(hm:X8 lo tm lo' tm' m)(b o c:Nat):Le s l h m lo tm b o c=Le s l h m lo' tm' b o c:=by
 unfold Le;rw[BN (x:=some m) (fun y e=>by cases e;exact hm)];congr 2;funext mm;cases h with
 | none=>rfl
 | some h =>
  dsimp only;rw[BN hh];congr 1;funext hi;rw[BN hl]
theorem AGA{h m:Option OD}(hx:X8 lo tm lo' tm' x)(hl:∀y,l=some y→X8 lo tm lo' tm' y)(hh:∀y,h=some y→X8 lo tm lo' tm' y)(hm:∀y,m=some y→X8 lo tm lo' tm' y):Ii s x l h m lo tm=Ii s x l h m lo' tm':=by
 have hx':G4 x lo tm=G4 x lo' tm':=hx;cases m with
 | none =>
  show Np (G4 x lo tm) (slice3 s l h lo tm) (fun n c=>bif Nat.beq n 0 then bif Nat.beq c 0 then m9 h lo tm 0 0 (fun _=>m9 l lo tm 0 0 (fun _=>some (.slice none 0 0)) none) none else none else none) none
   = Np (G4 x lo' tm') (slice3 s l h lo' tm') (fun n c=>bif Nat.beq n 0 then bif Nat.beq c 0 then m9 h lo' tm' 0 0 (fun _=>m9 l lo' tm' 0 0 (fun _=>some (.slice none 0 0)) none) none else none else none) none
  have e1:slice3 s l h lo tm=slice3 s l h lo' tm':=by funext b o n c;exact A7M hl hh b o n c
  rw[hx',e1,BN hh,BN hl]
 | some m =>
  show Np (G4 x lo tm) (fun b o _ c=>Le s l h m lo tm b o c) _ none=Np (G4 x lo' tm') (fun b o _ c=>Le s l h m lo' tm' b o c) _ none;have e1:(fun b o (_:Nat) c=>Le s l h m lo tm b o c)=(fun b o (_:Nat) c=>Le s l h m lo' tm' b o c):=by funext b o n c;exact A5T hl hh (hm m rfl) b o c
  rw[hx',e1]
theorem A50{h:Option OD}(hx:X8 lo tm lo' tm' x)(hl:∀y,l=some y→X8 lo tm lo' tm' y)(hh:∀y,h=some y→X8 lo tm lo' tm' y):Ll x l h lo tm=Ll x l h lo' tm':=by have hx':G4 x lo tm=G4 x lo' tm':=hx;unfold Ll;rw[hx'];congr 1;funext s;rw[BN hh];congr 1;funext _;rw[BN hl]
theorem AHS{n:Nat}{h m:Option OD}(hx:X8 lo tm lo' tm' x)(hl:∀y,l=some y→X8 lo tm lo' tm' y)(hh:∀y,h=some y→X8 lo tm lo' tm' y):vO n s x l h m lo tm=vO n s x l h m lo' tm':=by
 have hx':G4 x lo tm=G4 x lo' tm':=hx;unfold vO;rw[hx'];congr 1;funext b o;cases m with
 | none =>
  dsimp only;rw[BN hh];congr 1;funext _;rw[BN hl]
 | some mm=>rfl
theorem AIt{op:BinOp}{y:OD}(hx:X8 lo tm lo' tm' x)(hy:X8 lo tm lo' tm' y):IG lo tm lo' tm' (AJI op x y):=by unfold X8 at hx hy;cases op<;>simp only[AJI,IG,V0,Kz,hx,hy]
theorem AHY{op:BinOp}{t:TypeId}{x y:Operand}(hx:X8 lo tm lo' tm' (c x))(hy:X8 lo tm lo' tm' (c y)):IG lo tm lo' tm' (AMO P c op t x y):=by
 unfold AMO;split
 ·exact AIt hx hy
 all_goals unfold X8 at hx hy
 all_goals repeat' (first|exact Y2|apply EL|split)
 all_goals simp only[IG,Q7,MH,XI,AB,A9A,AM5,hx,hy]
theorem ABm{s d:TypeId}(hx:X8 lo tm lo' tm' x):IG lo tm lo' tm' (A9o P x s d):=by
 unfold X8 at hx;unfold A9o
 repeat' (first|exact Y2|apply EL|split)
 all_goals simp only[IG,Xc,HL,Ov,Yb,A8a,A64,hx,implies_true]
theorem wu{b:Builtin}{args:List Operand}{ts:List TypeId}(h:∀x∈args,X8 lo tm lo' tm' (c x)):IG lo tm lo' tm' (Sb P c b args ts):=by
 unfold Sb
 repeat' (first|exact Y2|apply EL|split)
 all_goals first
  | (simp only[IG,Re];rw[Hj fun x hx=>by obtain⟨y,hy,rfl⟩:=FY.1 hx;exact h y hy];done)
  | (simp only[m8,ADd,or_false,forall_eq_or_imp,forall_eq,X8] at h;simp only[IG,rU,Rj,AFB,A6Y,A3Z,oJ,AHV,nT,XJ,AEb,h,implies_true])
theorem AHi{k:Nat}{fn:Func}{a:List OD}(h:∀x∈a,X8 lo tm lo' tm' x):IG lo tm lo' tm' (ALZ P k fn a):=by
 unfold ALZ
 repeat' (first|exact Y2|apply EL|split)
 all_goals (simp only[m8,ADd,or_false,forall_eq_or_imp,forall_eq,X8] at h;simp only[IG,R6,tJ,A7k,AIg,pV,h,implies_true])
theorem AN0{cx:Cx}(h:∀x∈o.op.operands,X8 lo tm lo' tm' (C3 cx.gs ds x)):IG lo tm lo' tm' (OS P cx ds o):=by
 obtain⟨dst,op,type,pos,after,guard⟩:=o;dsimp only at h;have omap:∀ {l:Option Operand},(∀x,l=some x→X8 lo tm lo' tm' (C3 cx.gs ds x))→∀y,l.map (C3 cx.gs ds)=some y→X8 lo tm lo' tm' y:=fun{l} hl y hy=>by
  cases l with
  | none=>cases hy
  | some x=>cases hy;exact hl x rfl
 have lmap:∀ {l:List Operand},(∀x∈l,X8 lo tm lo' tm' (C3 cx.gs ds x))→∀y∈l.map (C3 cx.gs ds),X8 lo tm lo' tm' y:=fun{l} hl y hy=>by grind
 cases op
 case binOp op t x y yt=>exact AHY (h x (by simp[Op.operands])) (h y (by simp[Op.operands]))
 case convert s d x=>exact ABm (h x (by simp[Op.operands]))
 case build t parts =>
  unfold OS;dsimp only
  repeat' (first|exact Y2|apply EL|split)
  all_goals
   rename_i hp;show CT _ lo tm _ _ _=CT _ lo' tm' _ _ _;refine oN (fun p hp'=>?_) _ _ _;obtain⟨q,hq,e⟩:=ny hp p hp';rw[e];exact h q.2 (by simp only[Op.operands,ABj,FY];exact⟨q,hq,rfl⟩)
 case buildSlice t n parts =>
  unfold OS;dsimp only
  repeat' (first|exact Y2|apply EL|split)
  all_goals
   rename_i hp;intro A7 h';show CT _ lo tm _ _ _=CT _ lo' tm' _ _ _;refine oN (fun p hp'=>?_) _ _ _;obtain⟨q,hq,e⟩:=ny hp p hp';rw[e];exact h q.2 (by simp only[Op.operands,ABj,FY];exact⟨q,hq,rfl⟩)
 case makeFunc g first cap =>
  unfold OS;dsimp only;split
  ·show some _=some _;rw[Hj (lmap fun x hx=>h x (by simp[Op.operands];exact .inl (by simpa using hx))),Hj (lmap fun x hx=>h x (by simp[Op.operands];exact .inr (by simpa using hx)))]
  ·show some _=some _;rw[Hj (lmap fun x hx=>h x (by simp[Op.operands];exact .inl (by simpa using hx))),Hj (lmap fun x hx=>h x (by simp[Op.operands];exact .inr (by simpa using hx)))]
 case slice t x l hi m =>
  have hx:G4 (C3 cx.gs ds x) lo tm=G4 (C3 cx.gs ds x) lo' tm':=h x (by simp[Op.operands]);have hl:=omap (l:=l) fun y e=>h y (by simp[Op.operands,e]);have hh:=omap (l:=hi) fun y e=>h y (by simp[Op.operands,e]);have hm:=omap (l:=m) fun y e=>h y (by simp[Op.operands,e]);unfold OS;dsimp only;split
  ·exact EL (AGA hx hl hh hm) Y2
  · split
    ·exact A50 hx hl hh
    ·exact Y2
  ·exact EL (AHS hx hl hh) Y2
  ·exact Y2
 case call cl =>
  obtain⟨callee,args,ats⟩:=cl;have ha:∀x∈args.toList,X8 lo tm lo' tm' (C3 cx.gs ds x):=fun x hx=>h x (by simp[Op.operands,Call.operands];exact .inr (by simpa using hx));unfold OS;dsimp only;split
  · split
    · unfold A2W;split
      ·exact AHi (lmap ha)
      ·refine EL ?_ Y2;intro A7 h';show A7 _ _ _=A7 _ _ _;rw[Hj (lmap ha)]
    ·exact Y2
  ·rename_i f _;have hf:G4 (C3 cx.gs ds f) lo tm=G4 (C3 cx.gs ds f) lo' tm':=h f (by simp[Op.operands,Call.operands]);intro A7 h';show AFi (G4 (C3 cx.gs ds f) lo tm) _ _=AFi (G4 (C3 cx.gs ds f) lo' tm') _ _;rw[hf,Hj (lmap ha)]
  ·exact wu ha
  ·rename_i r n;have hf:G4 (C3 cx.gs ds r) lo tm=G4 (C3 cx.gs ds r) lo' tm':=h r (by simp[Op.operands,Call.operands]);intro A7 h';show El (G4 (C3 cx.gs ds r) lo tm) _ _ _=El (G4 (C3 cx.gs ds r) lo' tm') _ _ _;rw[hf,Hj (lmap ha)]
 case makeMap t r =>
  unfold OS;dsimp only;split
  ·intro A7 h';rfl
  · rename_i x;have hx:G4 (C3 cx.gs ds x) lo tm=G4 (C3 cx.gs ds x) lo' tm':=h x (by simp[Op.operands]);split
    ·intro A7 h';show Bi (G4 (C3 cx.gs ds x) lo tm) _ _=Bi (G4 (C3 cx.gs ds x) lo' tm') _ _;rw[hx]
    ·exact Y2
 case next x b =>
  have hx:G4 (C3 cx.gs ds x) lo tm=G4 (C3 cx.gs ds x) lo' tm':=h x (by simp[Op.operands]);unfold OS;cases b with
  | true =>
   intro A7 h';show FE (G4 (C3 cx.gs ds x) lo tm) _ _=FE (G4 (C3 cx.gs ds x) lo' tm') _ _;rw[hx]
  | false=>exact Y2
 all_goals simp only[Op.operands,m8,ADd,ABj,or_false,forall_eq_or_imp,forall_eq,X8] at h
 all_goals unfold OS
 all_goals dsimp only
 all_goals repeat' (first|exact Y2|apply EL|split)
 all_goals first
  | exact Y2
  | simp only[IG,R6,az,Ik,eN,Ul,KB,Ab,Y1,An,ADh,ACZ,A5Q,A2h,qw,iJ,mV,AEj,QK,Gi,AOK,AO4,Mv,AA6,AAP,ADL,XZ,A5p,AFg,A5R,h,implies_true]
end
section
theorem A1C(m t:Nat):bit m t=m.testBit t:=by
 rw[Nat.testBit_eq_decide_div_mod_eq];unfold bit;show Nat.beq (m/2^t%2) 1=_;cases h:Nat.beq (m/2^t%2) 1 with
 | true=>simp_all
 | false=>have:=NF h;simp[this]
def dK(an:T Nat)(i k:Nat):Prop:=bit (Yp an k) i=true
theorem Fz{an:T Nat}{j:Nat}:comp an i j=true↔dK an i j∨dK an j i:=by unfold comp dK;rw[ABd]
theorem AKo{an:T Nat}{t:Nat}:∀ {l:List Edge} {s:Nat},bit (wV an l s) t=true↔(bit s t=true∨∃e∈l,Region.binds .any e=true∧(t=e.on∨dK an t e.on)):=by
 intro l;induction l with
 | nil=>intro s;simp[wV]
 | cons e l ih =>
  intro s;unfold wV;cases hb:Region.binds .any e with
  | true =>
   rw[cond_true,C1,ih];have h1:bit (Nat.lor s (Nat.lor (Nat.pow 2 e.on) (Yp an e.on))) t=true↔(bit s t=true∨(t=e.on∨dK an t e.on)):=by unfold dK;rw[A1C,A1C,A1C];show(s ||| (2^e.on ||| Yp an e.on)).testBit t=true↔_;grind
   grind
  | false =>
   grind
theorem yM(o:Oper)(r:List Oper)(i:Nat)(an:T Nat):Rv (o::r) i an=Rv r (i+1) (T.set (path i) an (some (wV an o.after.toList 0))):=by show C8 _ _=_;rw[C1,T.X9]
theorem AF8:∀(l:List Oper) (i:Nat) (an:T Nat) (j:Nat),j<i→(Rv l i an).get (path j)=an.get (path j):=by
 intro l;induction l with
 | nil=>intro i an j _;rfl
 | cons o r ih =>
  intro i an j hj;rw[yM,ih _ _ _ (by omega),V9,if_neg (by omega)]
theorem AOp:∀(l:List Oper) (i:Nat) (an:T Nat) (k:Nat) (o:Oper),l[k]?=some o→∃an',(∀j,j<i+k→an'.get (path j)=(Rv l i an).get (path j))∧(Rv l i an).get (path (i+k))=some (wV an' o.after.toList 0):=by
 intro l;induction l with
 | nil=>intro i an k o h;simp at h
 | cons o r ih =>
  intro i an k o' h;rw[yM];cases k with
  | zero =>
   simp at h;subst h;refine⟨an,fun j hj=>?_,?_⟩
   ·rw[AF8 _ _ _ _ (by omega),V9,if_neg (by omega)]
   ·rw[AF8 _ _ _ _ (by omega),V9,if_pos (by omega)]
  | succ k =>
   obtain⟨an',h1,h2⟩:=ih (i+1) (T.set (path i) an (some (wV an o.after.toList 0))) k o' (by simpa using h);grind
theorem A9N{ops:Array Oper}{an:T Nat}{w:T (List Nat)}:∀(l:List Oper) (j:Nat),lS ops an w l j=true→∀k o,l[k]?=some o →
 (∀e∈o.after,Region.binds .any e=true→e.on<j+k)∧(∀cl,o.op≠.defer cl)∧(∀cs b,o.op≠.select cs b)∧(∀t∈o.dst.toList++looks ops o,ACD an w (j+k) t=true):=by
 intro l;induction l with
 | nil=>intro j _ k o h;simp at h
 | cons o r ih =>
  intro j h k o' ho;unfold lS at h;rw[U8,U8,U8] at h;obtain⟨⟨⟨h1,h2⟩,h3⟩,h4⟩:=h;cases k with
  | zero =>
   simp at ho;subst ho;refine⟨fun e he hb=>?_,fun cl hc=>?_,fun cs b hc=>?_,fun t ht=>?_⟩
   ·have:=Cc.1 h1 e (by simpa using he);simp_all
   ·rw[hc] at h2;cases h2
   ·rw[hc] at h2;cases h2
   grind
  | succ k =>
   grind
theorem AOU:∀(l:List Oper) (i:Nat) (w:T (List Nat)) (t:Tmp) (x:Nat),(x∈Wb w t∨∃k o,l[k]?=some o∧o.dst=some t∧x=i+k)→x∈Wb (ARg l i w) t:=by
 intro l;induction l with
 | nil =>
  intro i w t x h;rcases h with h|⟨k,o,h,_⟩
  ·exact h
  ·simp at h
 | cons o r ih =>
  intro i w t x h;cases hd:o.dst with
  | none =>
   have e:ARg (o::r) i w=ARg r (i+1) w:=by show(match o.dst with|none=>_|some d=>_)=_;rw[hd]
   grind
  | some d =>
   have e:ARg (o::r) i w=ARg r (i+1) (T.set (path d) w (some (i::Wb w d))):=by show(match o.dst with|none=>_|some d=>_)=_;rw[hd];exact T.X9 _ _ _ _
   rw[e];refine ih _ _ _ _ ?_;have hw:∀t,Wb (T.set (path d) w (some (i::Wb w d))) t=if d=t then i::Wb w d else Wb w t:=fun t=>by unfold Wb;rw[V9];split<;>simp
   grind
theorem AIZ{an:T Nat}{k:Nat}:∀(l:List Oper) (i:Nat),WW an k l i=true→∀m o,l[m]?=some o→Oo o=true→i+m=k∨comp an (i+m) k=true:=by
 intro l;induction l with
 | nil=>intro i _ m o h;simp at h
 | cons o r ih =>
  intro i h m o' ho ht;unfold WW at h;rw[U8] at h;cases m with
  | zero =>
   simp_all
  | succ m =>
   grind
theorem AOt{an:T Nat}{j k:Nat}:∀(l:List Oper) (i:Nat),AKG an j k l i=true→∀m o,l[m]?=some o→Oo o=true→(i+m=j∨dK an j (i+m))→i+m=k∨comp an (i+m) k=true:=by
 intro l;induction l with
 | nil=>intro i _ m o h;simp at h
 | cons o r ih =>
  intro i h m o' ho ht hj;unfold AKG at h;rw[U8] at h;cases m with
  | zero =>
   simp at ho;subst ho;have h1:=h.1;have h3:(Nat.beq i j||bit (Yp an i) j)=true:=by
    rw[ABd];rcases hj with hj|hj
    ·simp_all
    ·right;exact hj
   simp_all
  | succ m =>
   grind
theorem ANt{l:List (Nat×Bool)}{j:Nat}(h:TI l j=true):∃b,(j,b)∈l∧b=true:=by
 induction l with
 | nil=>cases h
 | cons p l ih =>
  have h':(bif Nat.beq p.1 j then p.2 else TI l j)=true:=h;cases hb:Nat.beq p.1 j with
  | true =>
   rw[hb] at h';have:=T9 hb;grind
  | false =>
   grind
theorem AN8{l:List Oper}{an:T Nat}{k j:Nat}(h:TI (ZR l an k) j=true):j<k∧dK an j k∧AKG an j k l 0=true:=by obtain⟨b,h1,h2⟩:=ANt h;unfold ZR at h1;obtain⟨j',h3,h4⟩:=FY.1 h1;cases h4;rw[U8] at h2;exact⟨pR.1 h3,h2.1,h2.2⟩
structure Qk(ops:Array Oper)(an:T Nat):Prop where
 AOR:∀(i k:Nat) (o:Oper),ops[k]?=some o→(dK an i k↔∃e∈o.after,Region.binds .any e=true∧(i=e.on∨dK an i e.on))
 lt:∀(k:Nat) (o:Oper),ops[k]?=some o→∀e∈o.after,Region.binds .any e=true→e.on<k
 Aas:∀(k:Nat) (o:Oper),ops[k]?=some o→∀cl,o.op≠.defer cl
 Aak:∀(k:Nat) (o:Oper),ops[k]?=some o→∀cs b,o.op≠.select cs b
 slot:∀(i j:Nat) (oi oj:Oper) (t:Tmp),ops[i]?=some oi→ops[j]?=some oj→oi.dst=some t→t∈oj.dst.toList++looks ops oj→i=j∨comp an i j=true
theorem wT{ops:Array Oper}(h:A2l ops (Rv ops.toList 0 .nil)=true):Qk ops (Rv ops.toList 0 .nil):=by
 have hat:=A9N ops.toList 0 h;have get:∀ {k:Nat} {o:Oper},ops[k]?=some o→ops.toList[k]?=some o:=fun h=>by simpa using h
 have hlt:∀(k:Nat) (o:Oper),ops[k]?=some o→∀e∈o.after,Region.binds .any e=true→e.on<k:=fun k o ho e he hb=>by grind
 refine⟨fun i k o ho=>?_,hlt,fun k o ho=>(hat k o (get ho)).2.1,fun k o ho=>(hat k o (get ho)).2.2.1,fun i j oi oj t hi hj hd ht=>?_⟩
 · obtain⟨an',h1,h2⟩:=AOp ops.toList 0 .nil k o (get ho);have hk:Yp (Rv ops.toList 0 .nil) k=wV an' o.after.toList 0:=by
    unfold Yp;grind
   unfold dK at *;rw[hk,AKo];have hz:¬bit 0 i=true:=by rw[A1C];simp
   have heq:∀e∈o.after,Region.binds .any e=true→Yp an' e.on=Yp (Rv ops.toList 0 .nil) e.on:=fun e he hb=>by unfold Yp;grind
   constructor
   · rintro(h|⟨e,he,hb,h⟩)
     ·exact absurd h hz
     · have he':e∈o.after:=by simpa using he
       refine⟨e,he',hb,h.imp id fun h=>?_⟩;unfold dK at h;grind
   ·rintro⟨e,he,hb,h⟩;refine .inr ⟨e,by simpa using he,hb,h.imp id fun h=>?_⟩;unfold dK;rw[heq e he hb];exact h
 ·have:=(hat j oj (get hj)).2.2.2 t ht;unfold ACD at this;have:=Cc.1 this i (AOU _ _ _ _ _ (.inr ⟨i,oi,get hi,hd,by omega⟩));simp_all
theorem Qk.dm{ops:Array Oper}{an:T Nat}(h:Qk ops an):∀(k:Nat) (o:Oper),ops[k]?=some o→∀i,dK an i k→i<k:=by
 intro k;induction k using Nat.strongRecOn with
 | ind k ih =>
  intro o ho i hi;obtain⟨e,he,hb,h1⟩:=(h.AOR i k o ho).1 hi;have hlt:=h.lt k o ho e he hb;grind
theorem Qk.trans{ops:Array Oper}{an:T Nat}(h:Qk ops an):∀(k:Nat) (o:Oper),ops[k]?=some o→∀i j,dK an i j→dK an j k→dK an i k:=by
 intro k;induction k using Nat.strongRecOn with
 | ind k ih =>
  intro o ho i j hij hjk;obtain⟨e,he,hb,h1⟩:=(h.AOR j k o ho).1 hjk;have hlt:=h.lt k o ho e he hb;refine(h.AOR i k o ho).2 ⟨e,he,hb,.inr ?_⟩;grind
end
section
variable {P:Program}
theorem A8O{f:Map}{h h1:Hp}{w:World}{a:Act}{o:Oper}{v:A0}(hg:J9 P f h w a o (.val v h1)):∃f' v' w',L6 h h1∧L5 f h w f' h1 w'∧F5 f' v v':=by
 have:=hg (fun _ _=>∃f' v' w',L6 h h1∧L5 f h w f' h1 w'∧F5 f' v v') (fun _ _ _=>False) (fun f' v' w' x y z=>⟨f',v',w',x,y,z⟩);unfold Oper.wp at this;generalize (execOp a.eval o).run P w=r at this;cases r with
 | ok n w' =>
  cases n<;>simp only[Oper.upon] at this
  case value u=>exact this
  case skip=>exact this
  case defer d=>exact this
  case enter g args =>
   obtain⟨e,w'',fr,hR,_⟩:=this [];cases e with
   | returned u=>exact hR
   | panicked c=>exact hR.elim
   | outgrown=>obtain⟨_,_,hq⟩:=hR;exact hq.elim
  case row row args =>
   obtain⟨u,w'',hR,_⟩:=this default [];exact hR
 | halt x w'=>cases x<;>simp only[Oper.upon] at this
def x9(ops:Array Oper)(k:Nat):List (Option Tmp):=((ops.toList.take k).map (·.dst)).reverse
theorem fu{ops:Array Oper}{k:Nat}{o:Oper}(h:ops[k]?=some o):x9 ops (k+1)=o.dst::x9 ops k:=by
 have h':ops.toList[k]?=some o:=by simpa using h
 unfold x9;rw[AEQ,h'];simp
structure St where
 h:Hp
 lo:List A0
 L:List Nat
 R:Option Nat
def kI(cx:Cx)(ops:Array Oper)(ds:List (Option Tmp))(o:Oper)(lo:List A0)(tm:T A0):Nat:=match o.guard with
 | none=>0
 | some (j,want)=>match (ops[j]?).bind (·.dst) with
  | some d=>AP (G4 (C3 cx.gs ds (.tmp d)) lo tm) want 0 1 2
  | none=>2
theorem ACJ{R:Type}(v:A0)(want:Bool)(y n z:R):AP v want y n z=(match AP v want 0 1 2 with|0=>y|1=>n|_=>z:R):=by cases v<;>first|rfl|(rename_i b;cases b<;>cases want<;>rfl)
def AXT(P:Program)(cx:Cx)(ops:Array Oper)(A7:Call)(tm:T A0)(ds:List (Option Tmp))(o:Oper)(s:St):St:=match kI cx ops ds o s.lo tm with
 | 0=>(match OS P cx ds o with
  | .p f=>⟨s.h,Qd (f s.lo tm)::s.lo,[],none⟩
  | .r f=>(match f s.lo tm with
   | .val v=>⟨s.h,v::s.lo,[],none⟩
   | .read b g=>⟨s.h,Qd ((s.h.at b).bind g)::s.lo,[],some b⟩
   | .none=>s)
  | .g f=>(match f A7 s.lo tm (B8 s.h s.h.A6 []) with
   | .val v h1=>⟨B8 h1 s.h.base (below s.h.base h1.log s.h.log),v::s.lo,h1.log.filter fun b=>decide (b<s.h.A6),none⟩
   | _=>s))
 | 1=>⟨s.h,undef::s.lo,[],none⟩
 | _=>s
def lN(P:Program)(cx:Cx)(ops:Array Oper)(A7:Call)(tm:T A0)(h:Hp):Nat→St
 | 0=>⟨h,[],[],none⟩
 | k+1=>match ops[k]? with
  | some o=>AXT P cx ops A7 tm (x9 ops k) o (lN P cx ops A7 tm h k)
  | none=>lN P cx ops A7 tm h k
inductive AQW (P:Program) (cx:Cx) (ops:Array Oper) (A7:Call) (tm:T A0) (ds:List (Option Tmp)) (o:Oper) (s s':St):Prop where
 | skip (hg:kI cx ops ds o s.lo tm=1) (hs:s'=⟨s.h,undef::s.lo,[],none⟩)
 | p (f:DP) (v:A0) (hg:kI cx ops ds o s.lo tm=0) (hc:OS P cx ds o=.p f) (hv:f s.lo tm=some v) (hs:s'=⟨s.h,v::s.lo,[],none⟩)
 | rv (f:DR) (v:A0) (hg:kI cx ops ds o s.lo tm=0) (hc:OS P cx ds o=.r f) (hv:f s.lo tm=.val v) (hs:s'=⟨s.h,v::s.lo,[],none⟩)
 | rb (f:DR) (v:A0) (b:Nat) (g:N2→Option A0) (ob:N2) (hg:kI cx ops ds o s.lo tm=0) (hc:OS P cx ds o=.r f) (hv:f s.lo tm=.read b g) (hb:s.h.at b=some ob) (ho:g ob=some v) (hs:s'=⟨s.h,v::s.lo,[],some b⟩)
 | g (f:DO) (v:A0) (h1:Hp) (hg:kI cx ops ds o s.lo tm=0) (hc:OS P cx ds o=.g f) (ht:Eb o=true) (hv:f A7 s.lo tm (B8 s.h s.h.A6 [])=.val v h1)
  (hs:s'=⟨B8 h1 s.h.base (below s.h.base h1.log s.h.log),v::s.lo,h1.log.filter fun b=>decide (b<s.h.A6),none⟩) (hA:L6 (B8 s.h s.h.A6 []) h1) (hd:∀b,h1.A6≤b→h1.at b=none)
def Own(T:Nat→St)(j b:Nat):Prop:=(T j).h.A6≤b∧b<(T (j+1)).h.A6
def AZo(ops:Array Oper)(an:T Nat)(T:Nat→St)(k b:Nat):Prop :=
 (b<(T 0).h.A6∧∀(m:Nat) (o:Oper),ops[m]?=some o→Oo o=true→m=k∨comp an m k=true) ∨
 (∃j,j<k∧Own T j b∧dK an j k∧∀(m:Nat) (o:Oper),ops[m]?=some o→Oo o=true→(m=j∨dK an j m)→m=k∨comp an m k=true)
structure Fact(P:Program)(cx:Cx)(ops:Array Oper)(an:T Nat)(A7:Call)(tm:T A0)(nt:Nat)(T:Nat→St)(k:Nat):Prop where
 op:∃o,ops[k]?=some o∧Gu nt o.dst=true∧AQW P cx ops A7 tm (x9 ops k) o (T k) (T (k+1))
 rd:∀i b,i<k→b∈(T (i+1)).L→(T (k+1)).R=some b→comp an i k=true
 wr:∀i b,i<k→b∈(T (k+1)).L→(T (i+1)).R=some b→comp an i k=true
 may:∀b,b∈(T (k+1)).L→AZo ops an T k b
structure ADy(T:Nat→St)(k:Nat)(d:Dn):Prop where
 ws:∀i b,i<k→b∈(T (i+1)).L→(i,b)∈d.ws
 rs:∀i b,i<k→(T (i+1)).R=some b→(i,b)∈d.rs
 ns:∀b,b<(T k).h.A6→match owner d.ns b with
  | none=>b<(T 0).h.A6
  | some j=>j<k∧Own T j b
theorem A7j{k b:Nat}{l:List (Nat×Nat)}(h:By cm k b l=true):∀i,(i,b)∈l→cm i k=true:=by
 induction l with
 | nil=>intro i hi;cases hi
 | cons p l ih =>
  intro i hi;have h':(bif Nat.beq p.2 b then(bif cm p.1 k then By cm k b l else false) else By cm k b l)=true:=h;cases hb:Nat.beq p.2 b with
  | true =>
   grind
  | false =>
   rw[hb,cond_false] at h';rcases m8.1 hi with rfl|hi
   ·exact absurd rfl (NF hb)
   ·exact ih h' i hi
theorem rL{k:Nat}{bar:Bool}{own:List (Nat×Bool)}(h:allowed cm k bar own d log=true):∀b,b∈log →
 (match owner d.ns b with|none=>bar=true|some j=>TI own j=true)∧By cm k b d.rs=true:=by
 induction log with
 | nil=>intro b hb;cases hb
 | cons c l ih =>
  intro b hb;have h':(bif Option.rec (motive:=fun _=>Bool) bar (TI own) (owner d.ns c) then(bif By cm k c d.rs then allowed cm k bar own d l else false) else false)=true:=h;cases h1:(Option.rec (motive:=fun _=>Bool) bar (TI own) (owner d.ns c)) with
  | false=>rw[h1] at h';cases h'
  | true =>
   rw[h1,cond_true] at h';cases h2:By cm k c d.rs with
   | false=>rw[h2] at h';cases h'
   | true =>
    rw[h2,cond_true] at h';rcases m8.1 hb with rfl|hb
    · refine⟨?_,h2⟩;cases ho:owner d.ns b with
      | none=>rw[ho] at h1;exact h1
      | some j=>rw[ho] at h1;exact h1
    ·exact ih h' b hb
theorem A0w{k:Nat}{ws:List (Nat×Nat)}{b:Nat}(h:(i,b)∈ws∨(i=k∧b∈log)):(i,b)∈wrote k log ws:=by
 induction log with
 | nil=>rcases h with h | ⟨_,h⟩
        ·exact h
        ·cases h
 | cons c l ih =>
  show(i,b)∈(k,c)::wrote k l ws;grind
theorem AGl{base:Nat}{l AM:List Nat}{b:Nat}:b∈below base l AM↔(b∈AM∨(b∈l∧b<base)):=by
 induction l with
 | nil=>simp[below]
 | cons c l ih =>
  have e:below base (c::l) AM=bif Nat.blt c base then c::below base l AM else below base l AM:=rfl
  rw[e];cases hb:Nat.blt c base with
  | true =>
   have hlt:c<base:=Nat.blt_eq.mp hb;grind
  | false =>
   have hlt:¬c<base:=fun hh=>by rw[Nat.blt_eq.mpr hh] at hb;cases hb
   grind
theorem ADG{ds:List (Option Tmp)}{lo:List A0}{A7:Call}{h:Hp}:∀(r:List (Option Tmp)) (i:Nat) (tm:T A0),JO (Me live ds r i) cm A7 d lo tm df h=.ok .normal (CP live ds lo r i tm) df h:=by
 intro r;induction r with
 | nil=>intro i tm;rfl
 | cons x r ih =>
  intro i tm;cases x with
  | none=>exact ih (i+1) tm
  | some t =>
   show JO (bif CZ live t&&Bf ds t i then .flush i (path t) (Me live ds r (i+1)) else Me live ds r (i+1)) cm A7 d lo tm df h=.ok .normal (bif CZ live t&&Bf ds t i then CP live ds lo r (i+1) (T.set (path t) tm (some (nth lo i))) else CP live ds lo r (i+1) tm) df h;cases CZ live t&&Bf ds t i with
   | true =>
    show T.Gy (path t) tm (some (nth lo i)) (fun tm=>JO (Me live ds r (i+1)) cm A7 d lo tm df h)=_;rw[T.X9,ih];rfl
   | false=>exact ih (i+1) tm
end
section
variable {P:Program}
theorem AMe{cx:Cx}{nt:Nat}{ops:Array Oper}{an:T Nat}{o:Oper}{l:List Oper}{k:Nat}{ds:List (Option Tmp)}{A7:Call}{lo:List A0}{tm:T A0}{h:Hp}:
 JO (AZ P cx live nt ops an (o::l) k ds) cm A7 d lo tm df h=.none∨(Gu nt o.dst=true ∧
  ((kI cx ops ds o lo tm=0∧JO (AZ P cx live nt ops an (o::l) k ds) cm A7 d lo tm df h=JO (AE2 ops an k (Eb o) (OS P cx ds o) (AZ P cx live nt ops an l (k+1) (o.dst::ds))) cm A7 d lo tm df h) ∨
   (kI cx ops ds o lo tm=1∧JO (AZ P cx live nt ops an (o::l) k ds) cm A7 d lo tm df h=JO (AZ P cx live nt ops an l (k+1) (o.dst::ds)) cm A7 d (undef::lo) tm df h))):=by
 have hcons:AZ P cx live nt ops an (o::l) k ds=bif Gu nt o.dst then(match o.guard with
  | none=>AE2 ops an k (Eb o) (OS P cx ds o) (AZ P cx live nt ops an l (k+1) (o.dst::ds))
  | some (j,want)=>match (ops[j]?).bind (·.dst) with
   | some d=>A1i ops an k (Eb o) (C3 cx.gs ds (.tmp d)) want (OS P cx ds o) (AZ P cx live nt ops an l (k+1) (o.dst::ds))
   | none=>.bad) else .bad:=rfl
 rw[hcons];cases hdst:Gu nt o.dst with
 | false=>exact .inl rfl
 | true =>
 rw[cond_true];unfold kI;cases hg:o.guard with
 | none=>simp
 | some p =>
  obtain⟨j,want⟩:=p;dsimp only;cases hd2:(ops[j]?).bind (·.dst) with
  | none=>exact .inl rfl
  | some t =>
   dsimp only;have he:JO (A1i ops an k (Eb o) (C3 cx.gs ds (.tmp t)) want (OS P cx ds o) (AZ P cx live nt ops an l (k+1) (o.dst::ds))) cm A7 d lo tm df h=AP (G4 (C3 cx.gs ds (.tmp t)) lo tm) want
    (JO (AE2 ops an k (Eb o) (OS P cx ds o) (AZ P cx live nt ops an l (k+1) (o.dst::ds))) cm A7 d lo tm df h) (JO (AZ P cx live nt ops an l (k+1) (o.dst::ds)) cm A7 d (undef::lo) tm df h) .none ∨
    JO (A1i ops an k (Eb o) (C3 cx.gs ds (.tmp t)) want (OS P cx ds o) (AZ P cx live nt ops an l (k+1) (o.dst::ds))) cm A7 d lo tm df h=.none:=by
    cases OS P cx ds o with
    | p f=>exact .inl rfl
    | r f=>exact .inl rfl
    | g f=>cases Eb o with
     | true=>exact .inl rfl
     | false=>exact .inr rfl
   rcases he with he|he
   ·rw[he,ACJ];grind
   ·exact .inl he
theorem Z6.B8{f:Map}{h:Hp}{w:World}{b:Nat}{l:List Nat}(hr:Z6 f h w)(hb:b≤h.A6):Z6 f (B8 h b l) w:=⟨hr.obj,hr.inj,hr.fresh,hr.dead,hb⟩
theorem A17{T:Nat→St}{k:Nat}(h:ADy T k d)(hn:(T (k+1)).h=(T k).h)(hL:(T (k+1)).L=[])(hR:(T (k+1)).R=none):ADy T (k+1) d:=by
 refine⟨fun i b hi hb=>?_,fun i b hi hb=>?_,fun b hb=>?_⟩
 · by_cases e:i=k
   ·grind
   ·exact h.ws i b (by omega) hb
 · by_cases e:i=k
   ·grind
   ·exact h.rs i b (by omega) hb
 ·rw[hn] at hb;have:=h.ns b hb;grind
theorem A2E{T:Nat→St}{k:Nat}{b0:Nat}(h:ADy T k d)(hn:(T (k+1)).h=(T k).h)(hL:(T (k+1)).L=[])(hR:(T (k+1)).R=some b0):ADy T (k+1) ⟨d.ns,(k,b0)::d.rs,d.ws⟩:=by
 refine⟨fun i b hi hb=>?_,fun i b hi hb=>?_,fun b hb=>?_⟩
 · by_cases e:i=k
   ·grind
   ·exact h.ws i b (by omega) hb
 · by_cases e:i=k
   ·grind
   ·exact EM _ (h.rs i b (by omega) hb)
 ·rw[hn] at hb;have:=h.ns b hb;grind
theorem A5q{T:Nat→St}{k:Nat}(h:ADy T k d)(hL:∀b,b∈(T (k+1)).L→b∈log)(hR:(T (k+1)).R=none):ADy T (k+1) ⟨((T k).h.A6,k)::d.ns,d.rs,wrote k log d.ws⟩:=by
 refine⟨fun i b hi hb=>?_,fun i b hi hb=>?_,fun b hb=>?_⟩
 · by_cases e:i=k
   ·subst e;exact A0w (.inr ⟨rfl,hL b hb⟩)
   ·exact A0w (.inl (h.ws i b (by omega) hb))
 · by_cases e:i=k
   ·grind
   ·exact h.rs i b (by omega) hb
 · have e:owner (((T k).h.A6,k)::d.ns) b=bif Nat.ble (T k).h.A6 b then some k else owner d.ns b:=rfl
   rw[e];cases hc:Nat.ble (T k).h.A6 b with
   | true=>exact⟨by omega,Nat.ble_eq.mp hc,hb⟩
   | false =>
    have hlt:b<(T k).h.A6:=by
     rcases DX b (T k).h.A6 with h1|h1
     ·exact h1
     ·rw[Nat.ble_eq.mpr h1] at hc;cases hc
    have:=h.ns b hlt;grind
theorem AMU{cx:Cx}{nt:Nat}{ops:Array Oper}{an:T Nat}{A7:Call}{tm:T A0}{h0:Hp}(hX:SW P cx)(hcall:S9 P cx.gs A7):∀(l:List Oper) (k:Nat),ops.toList.drop k=l →
 ∀(d:Dn) (f:Map) (a:Act) (w:World),Dr cx.gs f→Env f (x9 ops k) (lN P cx ops A7 tm h0 k).lo tm a.tmps→a.tmps.size=nt→Z6 f (lN P cx ops A7 tm h0 k).h w→ADy (lN P cx ops A7 tm h0) k d →
 JO (AZ P cx live nt ops an l k (x9 ops k)) (comp an) A7 d (lN P cx ops A7 tm h0 k).lo tm df (lN P cx ops A7 tm h0 k).h=.none ∨
 (JO (AZ P cx live nt ops an l k (x9 ops k)) (comp an) A7 d (lN P cx ops A7 tm h0 k).lo tm df (lN P cx ops A7 tm h0 k).h=.ok .normal (CP live (x9 ops ops.size) (lN P cx ops A7 tm h0 ops.size).lo (x9 ops ops.size) 0 tm) df (lN P cx ops A7 tm h0 ops.size).h ∧
   ∀i,k≤i→i<ops.size→Fact P cx ops an A7 tm nt (lN P cx ops A7 tm h0) i):=by
 intro l;induction l with
 | nil =>
  intro k hk d f a w hG hE hs hr hdn;refine .inr ?_;have hk2:ops.size≤k:=by simp_all
  have hst:∀j,lN P cx ops A7 tm h0 (ops.size+j)=lN P cx ops A7 tm h0 ops.size:=by
   intro j;induction j with
   | zero=>rfl
   | succ j ih =>
    show(match ops[ops.size+j]? with|some o=>_|none=>lN P cx ops A7 tm h0 (ops.size+j))=_;grind
  have hds:x9 ops k=x9 ops ops.size:=by unfold x9;simp_all
  obtain⟨j,rfl⟩:=A83 hk2;rw[hst j,hds];refine⟨ADG _ _ _,fun i h1 h2=>by omega⟩
 | cons o l ih =>
  intro k hk d f a w hG hE hs hr hdn;have hok:ops[k]?=some o:=by have:=congrArg (fun l=>l[0]?) hk;simpa using this
  have hk':ops.toList.drop (k+1)=l:=by have:=congrArg (List.drop 1) hk;simpa[A5l,ik] using this
  have hT:lN P cx ops A7 tm h0 (k+1)=AXT P cx ops A7 tm (x9 ops k) o (lN P cx ops A7 tm h0 k):=by show(match ops[k]? with|some o=>_|none=>_)=_;rw[hok]
  have hds:=fu hok;have ih1:=fun d f a w=>ih (k+1) hk' d f a w;rw[hds] at ih1;generalize hTd:lN P cx ops A7 tm h0=T at *;rcases AMe (P:=P) (cx:=cx) (live:=live) (nt:=nt) (ops:=ops) (an:=an) (o:=o) (l:=l) (k:=k) (ds:=x9 ops k) (cm:=comp an) (A7:=A7) (d:=d) (lo:=(T k).lo) (tm:=tm) (df:=df) (h:=(T k).h) with hn|⟨hdst,hrest⟩
  ·exact .inl hn
  have hdst':∀t,o.dst=some t→t<a.tmps.size:=fun t ht=>by unfold Gu at hdst;simp_all
  have close:∀ {r:N7},(r=.none∨(r=.ok .normal (CP live (x9 ops ops.size) (T ops.size).lo (x9 ops ops.size) 0 tm) df (T ops.size).h∧∀i,k+1≤i→i<ops.size→Fact P cx ops an A7 tm nt T i))→Fact P cx ops an A7 tm nt T k →
   (r=.none∨(r=.ok .normal (CP live (x9 ops ops.size) (T ops.size).lo (x9 ops ops.size) 0 tm) df (T ops.size).h∧∀i,k≤i→i<ops.size→Fact P cx ops an A7 tm nt T i)):=fun h hf=>h.imp id fun⟨h1,h2⟩=>⟨h1,fun i hi hi2=>by
   grind⟩
  have fact0:AQW P cx ops A7 tm (x9 ops k) o (T k) (T (k+1))→(T (k+1)).L=[]→(T (k+1)).R=none→Fact P cx ops an A7 tm nt T k:=fun h1 h2 h3 =>
   ⟨⟨o,hok,hdst,h1⟩,fun i b _ _ hb=>by(rw[h3] at hb;cases hb),fun i b _ hb _=>by(rw[h2] at hb;cases hb),fun b hb=>by(rw[h2] at hb;cases hb)⟩
  rcases hrest with⟨hg,he⟩|⟨hg,he⟩
  · rw[he];have hco:=A0X (P:=P) (cx:=cx) (ds:=x9 ops k) (o:=o) hX;unfold AXT at hT;rw[hg] at hT;revert hT hco;cases hcop:OS P cx (x9 ops k) o with
    | p fn =>
     intro hT hco;show(R5 (fn (T k).lo tm) (fun v=>JO (AZ P cx live nt ops an l (k+1) (o.dst::x9 ops k)) (comp an) A7 d (v::(T k).lo) tm df (T k).h) .none)=.none∨(R5 (fn (T k).lo tm) (fun v=>JO (AZ P cx live nt ops an l (k+1) (o.dst::x9 ops k)) (comp an) A7 d (v::(T k).lo) tm df (T k).h) .none)=_∧_;cases hv:fn (T k).lo tm with
     | none=>exact .inl rfl
     | some v =>
      dsimp only at hT;rw[hv] at hT;have hT':T (k+1)=⟨(T k).h,v::(T k).lo,[],none⟩:=hT;obtain⟨v',_,hvr⟩:=hco _ _ _ hv f a w hG hE;have:=ih1 d f (a.put o.dst v') w hG (by rw[hT'];exact Env.cons hE hvr hdst') (by rw[DB];exact hs) (by rw[hT'];exact hr) (A17 hdn (by rw[hT']) (by rw[hT']) (by rw[hT']));rw[hT'] at this;exact close this (fact0 (.p fn v hg hcop hv hT') (by rw[hT']) (by rw[hT']))
    | r fn =>
     intro hT hco;have hco1:=hco (T k).lo tm f a w hG hE;show(PR.rec (motive:=fun _=>N7) .none (fun v=>JO (AZ P cx live nt ops an l (k+1) (o.dst::x9 ops k)) (comp an) A7 d (v::(T k).lo) tm df (T k).h)
      (fun b g=>bif By (comp an) k b d.ws then R5 ((T k).h.bl.get (path b)) (fun ob=>R5 (g ob) (fun v=>JO (AZ P cx live nt ops an l (k+1) (o.dst::x9 ops k)) (comp an) A7 ⟨d.ns,(k,b)::d.rs,d.ws⟩ (v::(T k).lo) tm df (T k).h) .none) .none else .none) (fn (T k).lo tm))=.none ∨
      (PR.rec (motive:=fun _=>N7) .none (fun v=>JO (AZ P cx live nt ops an l (k+1) (o.dst::x9 ops k)) (comp an) A7 d (v::(T k).lo) tm df (T k).h)
      (fun b g=>bif By (comp an) k b d.ws then R5 ((T k).h.bl.get (path b)) (fun ob=>R5 (g ob) (fun v=>JO (AZ P cx live nt ops an l (k+1) (o.dst::x9 ops k)) (comp an) A7 ⟨d.ns,(k,b)::d.rs,d.ws⟩ (v::(T k).lo) tm df (T k).h) .none) .none else .none) (fn (T k).lo tm))=_∧_
     dsimp only at hT;revert hco1 hT;cases hv:fn (T k).lo tm with
     | none=>intro _ _;exact .inl rfl
     | val v =>
      intro hT hco1;have hT':T (k+1)=⟨(T k).h,v::(T k).lo,[],none⟩:=hT;obtain⟨v',_,hvr⟩:=hco1;have:=ih1 d f (a.put o.dst v') w hG (by rw[hT'];exact Env.cons hE hvr hdst') (by rw[DB];exact hs) (by rw[hT'];exact hr) (A17 hdn (by rw[hT']) (by rw[hT']) (by rw[hT']));rw[hT'] at this;exact close this (fact0 (.rv fn v hg hcop hv hT') (by rw[hT']) (by rw[hT']))
     | read b g =>
      intro hT hco1;dsimp only at hT ⊢;cases hm:By (comp an) k b d.ws with
      | false=>exact .inl rfl
      | true =>
       rw[cond_true];cases hb:(T k).h.bl.get (path b) with
       | none=>exact .inl rfl
       | some ob =>
        dsimp only[R5];cases hgo:g ob with
        | none=>exact .inl rfl
        | some v =>
         have hat:(T k).h.at b=some ob:=hb;have hT':T (k+1)=⟨(T k).h,v::(T k).lo,[],some b⟩:=by rw[hT,hat];show(⟨_,Qd (g ob)::_,_,_⟩:St)=_;rw[hgo];rfl
         obtain⟨i,hi,hco2⟩:=hco1;obtain⟨x,hx,hor⟩:=hr.obj b ob i hi hat;obtain⟨v',_,hvr⟩:=hco2 ob v x hgo hx hor;have:=ih1 ⟨d.ns,(k,b)::d.rs,d.ws⟩ f (a.put o.dst v') w hG (by rw[hT'];exact Env.cons hE hvr hdst') (by rw[DB];exact hs) (by rw[hT'];exact hr) (A2E hdn (by rw[hT']) (by rw[hT']) (by rw[hT']));rw[hT'] at this;refine close this ⟨⟨o,hok,hdst,.rb fn v b g ob hg hcop hv hat hgo hT'⟩,fun i b' hi hb' hbb=>?_,fun i b' _ hb' _=>?_,fun b' hb'=>?_⟩
         ·rw[hT'] at hbb;cases hbb;exact A7j hm i (hdn.ws i b hi hb')
         ·rw[hT'] at hb';cases hb'
         ·rw[hT'] at hb';cases hb'
    | g fn =>
     intro hT hco;have hco1:=hco A7 hcall (T k).lo tm f (B8 (T k).h (T k).h.A6 []) a w hG hE (hr.B8 (M8 _));cases htch:Eb o with
     | false=>exact .inl rfl
     | true =>
     show(ABb (fun v h1=>bif allowed (comp an) k (WW an k ops.toList 0) (ZR ops.toList an k) d h1.log then JO (AZ P cx live nt ops an l (k+1) (o.dst::x9 ops k)) (comp an) A7 ⟨((T k).h.A6,k)::d.ns,d.rs,wrote k h1.log d.ws⟩ (v::(T k).lo) tm df (B8 h1 (T k).h.base (below (T k).h.base h1.log (T k).h.log)) else .none)
      (fn A7 (T k).lo tm (B8 (T k).h (T k).h.A6 [])))=.none ∨
      (ABb (fun v h1=>bif allowed (comp an) k (WW an k ops.toList 0) (ZR ops.toList an k) d h1.log then JO (AZ P cx live nt ops an l (k+1) (o.dst::x9 ops k)) (comp an) A7 ⟨((T k).h.A6,k)::d.ns,d.rs,wrote k h1.log d.ws⟩ (v::(T k).lo) tm df (B8 h1 (T k).h.base (below (T k).h.base h1.log (T k).h.log)) else .none)
        (fn A7 (T k).lo tm (B8 (T k).h (T k).h.A6 [])))=_∧_
     dsimp only at hT;revert hco1 hT;cases hv:fn A7 (T k).lo tm (B8 (T k).h (T k).h.A6 []) with
     | none=>intro _ _;exact .inl rfl
     | panic c h1=>intro _ _;exact .inl rfl
     | val v h1 =>
      intro hT hco1;show(bif allowed (comp an) k (WW an k ops.toList 0) (ZR ops.toList an k) d h1.log then JO (AZ P cx live nt ops an l (k+1) (o.dst::x9 ops k)) (comp an) A7 ⟨((T k).h.A6,k)::d.ns,d.rs,wrote k h1.log d.ws⟩ (v::(T k).lo) tm df (B8 h1 (T k).h.base (below (T k).h.base h1.log (T k).h.log)) else .none)=.none ∨
       (bif allowed (comp an) k (WW an k ops.toList 0) (ZR ops.toList an k) d h1.log then JO (AZ P cx live nt ops an l (k+1) (o.dst::x9 ops k)) (comp an) A7 ⟨((T k).h.A6,k)::d.ns,d.rs,wrote k h1.log d.ws⟩ (v::(T k).lo) tm df (B8 h1 (T k).h.base (below (T k).h.base h1.log (T k).h.log)) else .none)=_∧_
      cases hal:allowed (comp an) k (WW an k ops.toList 0) (ZR ops.toList an k) d h1.log with
      | false=>exact .inl rfl
      | true =>
       rw[cond_true];obtain⟨f',v',w',hA,hC,hvr⟩:=A8O hco1;have hT:T (k+1)=⟨B8 h1 (T k).h.base (below (T k).h.base h1.log (T k).h.log),v::(T k).lo,h1.log.filter fun b=>decide (b<(T k).h.A6),none⟩:=hT;have hnx:(T k).h.A6≤h1.A6:=hA.A6;have hr1:Z6 f' (T (k+1)).h w':=by rw[hT];exact hC.rel.B8 (JJ hr.base hnx)
       have hL:∀b,b∈(T (k+1)).L→b∈h1.log∧b<(T k).h.A6:=fun b hb=>by grind
       have:=ih1 ⟨((T k).h.A6,k)::d.ns,d.rs,wrote k h1.log d.ws⟩ f' (a.put o.dst v') w' (hG.mono hC.le) (by rw[hT];exact Env.cons (hE.mono hC.le) hvr hdst') (by rw[DB];exact hs) hr1 (A5q hdn (fun b hb=>(hL b hb).1) (by rw[hT]));have e1:(T (k+1)).lo=v::(T k).lo:=by rw[hT]
       have e2:(T (k+1)).h=B8 h1 (T k).h.base (below (T k).h.base h1.log (T k).h.log):=by rw[hT]
       rw[e1,e2] at this;refine close this ⟨⟨o,hok,hdst,.g fn v h1 hg hcop htch hv hT hA hC.rel.dead⟩,fun i b' hi hb' hbb=>?_,fun i b' hi hb' hbb=>?_,fun b' hb'=>?_⟩
       ·rw[hT] at hbb;cases hbb
       ·exact A7j (rL hal b' (hL b' hb').1).2 i (hdn.rs i b' hi hbb)
       · obtain⟨h2,h3⟩:=hL b' hb';have h4:=(rL hal b' h2).1;have h5:=hdn.ns b' h3;revert h4 h5;cases owner d.ns b' with
         | none =>
          intro h4 h5;exact .inl ⟨h5,fun m o' ho' ht'=>by
           have:=AIZ ops.toList 0 h4 m o' (by simpa using ho') ht';simpa using this⟩
         | some j =>
          intro h4 h5;obtain⟨h6,h7,h8⟩:=AN8 h4;exact .inr ⟨j,h5.1,h5.2,h7,fun m o' ho' ht' hj=>by have:=AOt ops.toList 0 h8 m o' (by simpa using ho') ht' (by simpa using hj);simpa using this⟩
  ·rw[he];unfold AXT at hT;rw[hg] at hT;have hT':T (k+1)=⟨(T k).h,undef::(T k).lo,[],none⟩:=hT;have:=ih1 d f (a.put o.dst undef) w hG (by rw[hT'];exact Env.cons hE (F5.undef f) hdst') (by rw[DB];exact hs) (by rw[hT'];exact hr) (A17 hdn (by rw[hT']) (by rw[hT']) (by rw[hT']));rw[hT'] at this;exact close this (fact0 (.skip hg hT') (by rw[hT']) (by rw[hT']))
end
section
variable {P:Program} {cx:Cx} {ops:Array Oper} {an:T Nat} {A7:Call} {tm:T A0} {nt:Nat} {T:Nat→St}
theorem AMX(lo:List A0)(tm:Abs.T A0):∀(parts:List (Nat×Nat×OD)) (z:List A0),(∃l,∀(R:Type) (k:List A0→R) (no:R),CT parts lo tm z k no=k l)∨∀(R:Type) (k:List A0→R) (no:R),CT parts lo tm z k no=no:=by
 intro parts;induction parts with
 | nil=>intro z;exact .inl ⟨z,fun _ _ _=>rfl⟩
 | cons p r ih =>
  intro z;have e:∀(R:Type) (k:List A0→R) (no:R),CT (p::r) lo tm z k no=(bif TK (G4 p.2.2 lo tm) then no else bif Nat.beq (len (c7 (G4 p.2.2 lo tm))) p.2.1 then bif Nat.ble (Nat.add p.1 p.2.1) (len z) then CT r lo tm (over z p.1 (c7 (G4 p.2.2 lo tm))) k no else no else no):=fun _ _ _=>rfl;cases h1:TK (G4 p.2.2 lo tm) with
  | true=>grind
  | false =>
   cases h2:Nat.beq (len (c7 (G4 p.2.2 lo tm))) p.2.1 with
   | false=>grind
   | true =>
    cases h3:Nat.ble (Nat.add p.1 p.2.1) (len z) with
    | false=>grind
    | true =>
     rcases ih (over z p.1 (c7 (G4 p.2.2 lo tm))) with⟨l,hl⟩|hl
     ·exact .inl ⟨l,fun R k no=>by grind⟩
     grind
def AVX(fn:DO):Prop:=∀A7 lo tm h v h1,fn A7 lo tm h=.val v h1→∃ob,h1=h.new ob∧∀h2:Hp,h2.A6=h.A6→fn A7 lo tm h2=.val v (h2.new ob)
theorem ey{e:TypeId}{l:List A0}{n:Nat}{cl:Bool}{g:Nat→A0}{h h1:Hp}{v:A0}(hv:AA h e l n cl (fun b h=>N3.val (g b) h)=.val v h1):
 ∃ob,h1=h.new ob∧∀h2:Hp,h2.A6=h.A6→AA h2 e l n cl (fun b h=>N3.val (g b) h)=.val v (h2.new ob):=by
 rw[W6] at hv;cases hv;exact⟨_,rfl,fun h2 e2=>by rw[W6,e2]⟩
theorem AVi{b:Bool}{f:DO}(h:(bif b then CO.g f else bad)=.g fn):f=fn:=by
 cases b with
 | true=>cases h;rfl
 | false=>cases h
theorem pG{ds:List (Option Tmp)}{o:Oper}(hc:OS P cx ds o=.g fn)(hn:cB o=true):AVX fn:=by
 obtain⟨dst,op,type,pos,after,guard⟩:=o;cases op<;>first|(cases hn;done)|skip
 case alloc e =>
  unfold OS at hc;dsimp only at hc;split at hc
  ·cases hc;intro A7 lo tm h v h1 hv;exact ey (g:=fun b=>C2 b 0) hv
  ·cases hc
 case box e x =>
  unfold OS at hc;dsimp only at hc;cases hc;intro A7 lo tm h v h1 hv;have e:∀h:Hp,eN e (C3 cx.gs ds x) A7 lo tm h=bif TK (G4 (C3 cx.gs ds x) lo tm) then .none else AA h e (c7 (G4 (C3 cx.gs ds x) lo tm)) (len (c7 (G4 (C3 cx.gs ds x) lo tm))) true fun b h=>.val (C2 b 0) h:=fun _=>rfl
  rw[e] at hv;cases ht:TK (G4 (C3 cx.gs ds x) lo tm) with
  | true=>rw[ht] at hv;cases hv
  | false =>
   rw[ht] at hv;obtain⟨ob,h2,h3⟩:=ey (g:=fun b=>C2 b 0) hv;grind
 case buildSlice t n parts =>
  unfold OS at hc;dsimp only at hc;split at hc
  · split at hc
    · have hc:=AVi hc;subst hc;intro A7 lo tm h v h1 hv;unfold V2 at hv ⊢;rename_i l _ _;rcases AMX lo tm l (U9 n _) with⟨l',hl⟩|hl
      ·rw[hl] at hv;obtain⟨ob,h2,h3⟩:=ey (g:=fun b=>F8 b 0 n n) hv;grind
      ·rw[hl] at hv;cases hv
    ·cases hc
  ·cases hc
def W9(P:Program)(cx:Cx)(ops:Array Oper)(an:Abs.T Nat)(A7:Call)(tm:Abs.T A0)(nt:Nat)(T:Nat→St):Prop:=∀i,i<ops.size→Fact P cx ops an A7 tm nt T i
theorem W9.heap(hF:W9 P cx ops an A7 tm nt T){k:Nat}(hk:k<ops.size):(T k).h.A6≤(T (k+1)).h.A6∧(∀b,b∈(T (k+1)).L→b<(T k).h.A6)∧(∀b,b<(T k).h.A6→b∉(T (k+1)).L→(T (k+1)).h.at b=(T k).h.at b) ∧
 (∀b,b<(T k).h.A6→(T k).h.at b=none→(T (k+1)).h.at b=none)∧((∀b,(T k).h.A6≤b→(T k).h.at b=none)→∀b,(T (k+1)).h.A6≤b→(T (k+1)).h.at b=none)∧(∃v,(T (k+1)).lo=v::(T k).lo):=by
 obtain⟨o,ho,_,hs⟩:=(hF k hk).op;have quiet:∀v R,T (k+1)=⟨(T k).h,v::(T k).lo,[],R⟩→_:=fun v R e=>by
  refine(?_:(T k).h.A6≤(T (k+1)).h.A6∧(∀b,b∈(T (k+1)).L→b<(T k).h.A6)∧(∀b,b<(T k).h.A6→b∉(T (k+1)).L→(T (k+1)).h.at b=(T k).h.at b) ∧
   (∀b,b<(T k).h.A6→(T k).h.at b=none→(T (k+1)).h.at b=none)∧((∀b,(T k).h.A6≤b→(T k).h.at b=none)→∀b,(T (k+1)).h.A6≤b→(T (k+1)).h.at b=none)∧(∃v,(T (k+1)).lo=v::(T k).lo))
  grind
 cases hs with
 | skip hg hs=>exact quiet _ _ hs
 | p f v hg hc hv hs=>exact quiet _ _ hs
 | rv f v hg hc hv hs=>exact quiet _ _ hs
 | rb f v b g ob hg hc hv hb ho hs=>exact quiet _ _ hs
 | g f v h1 hg hc ht hv hs hA hd =>
  rw[hs];refine⟨hA.A6,fun b hb=>by grind,fun b hb hn=>?_,fun b hb hn=>hA.dead b hb hn,fun _=>hd,v,rfl⟩;exact hA.K7 b hb fun h=>hn (AEK.2 ⟨h,by simpa using hb⟩)
theorem W9.bj(hF:W9 P cx ops an A7 tm nt T):∀j,i+j≤ops.size→(T i).h.A6≤(T (i+j)).h.A6:=by
 intro j;induction j with
 | zero=>intro _;exact M8 _
 | succ j ih=>intro h;exact JJ (ih (by omega)) (hF.heap (k:=i+j) (by omega)).1
theorem W9.OA(hF:W9 P cx ops an A7 tm nt T){j:Nat}(h:i≤j)(hj:j≤ops.size):(T i).h.A6≤(T j).h.A6:=by obtain⟨d,rfl⟩:=A83 h;exact hF.bj d hj
theorem W9.AFV(hF:W9 P cx ops an A7 tm nt T){b:Nat}(hb:b<(T i).h.A6):∀j,i+j≤ops.size→(∀k,i≤k→k<i+j→b∉(T (k+1)).L)→(T (i+j)).h.at b=(T i).h.at b:=by
 intro j;induction j with
 | zero=>intro _ _;rfl
 | succ j ih =>
  intro h hn;have h1:=ih (by omega) fun k h1 h2=>hn k h1 (by omega);rw[←h1];exact(hF.heap (k:=i+j) (by omega)).2.2.1 b (Ep hb (hF.bj j (by omega))) (hn (i+j) (by omega) (by omega))
theorem W9.ARm(hF:W9 P cx ops an A7 tm nt T){b:Nat}(hb:b<(T i).h.A6)(hd:(T i).h.at b=none):∀j,i+j≤ops.size→(T (i+j)).h.at b=none:=by
 intro j;induction j with
 | zero=>intro _;exact hd
 | succ j ih=>intro h;exact(hF.heap (k:=i+j) (by omega)).2.2.2.1 b (Ep hb (hF.bj j (by omega))) (ih (by omega))
theorem W9.dead(hF:W9 P cx ops an A7 tm nt T)(h0:∀b,(T 0).h.A6≤b→(T 0).h.at b=none):∀k,k≤ops.size→∀b,(T k).h.A6≤b→(T k).h.at b=none:=by
 intro k;induction k with
 | zero=>intro _;exact h0
 | succ k ih=>intro h;exact(hF.heap (k:=k) (by omega)).2.2.2.2.1 (ih (by omega))
theorem W9.A1k(hF:W9 P cx ops an A7 tm nt T){j k b:Nat}(hj:Own T j b)(hjk:j<k)(hk:k≤ops.size):b<(T k).h.A6:=Ep hj.2 (hF.OA hjk hk)
theorem W9.QZ(hF:W9 P cx ops an A7 tm nt T){j k b:Nat}(hj:Own T j b)(hkj:k≤j)(hn:j<ops.size):(T k).h.A6≤b:=JJ (hF.OA hkj (by omega)) hj.1
theorem W9.PW(hF:W9 P cx ops an A7 tm nt T){j k b:Nat}(hj:Own T j b)(hk:Own T k b)(hjn:j<ops.size)(hkn:k<ops.size):j=k:=by
 rcases AA9 j k with h|h|h
 ·have:=hF.A1k hj h (by omega);exact absurd hk.1 (by omega)
 ·exact h
 ·have:=hF.A1k hk h (by omega);exact absurd hj.1 (by omega)
theorem AGh{k:Nat}{o:Oper}{v:A0}{h1:Hp}(hn:cB o=true)(hc:OS P cx (x9 ops k) o=.g fn)(hv:fn A7 (T k).lo tm (B8 (T k).h (T k).h.A6 [])=.val v h1):h1.log=[]:=by obtain⟨ob,h,_⟩:=pG hc hn _ _ _ _ _ _ hv;rw[h];rfl
theorem W9.AX3(hF:W9 P cx ops an A7 tm nt T){k b:Nat}(hk:k<ops.size)(hb:b∈(T (k+1)).L):∃o,ops[k]?=some o∧Oo o=true:=by
 obtain⟨o,ho,_,hs⟩:=(hF k hk).op;refine⟨o,ho,?_⟩;cases hs with
 | skip hg hs=>rw[hs] at hb;cases hb
 | p f v hg hc hv hs=>rw[hs] at hb;cases hb
 | rv f v hg hc hv hs=>rw[hs] at hb;cases hb
 | rb f v b g ob hg hc hv hb' ho hs=>rw[hs] at hb;cases hb
 | g f v h1 hg hc ht hv hs hA hd =>
  unfold Oo;rw[ht];cases hn:cB o with
  | false=>rfl
  | true =>
   rw[hs] at hb;have:=AGh hn hc hv;simp[this] at hb
def Wr(T:Nat→St)(i b:Nat):Prop:=b∈(T (i+1)).L∨Own T i b
theorem VC{an:Abs.T Nat}{j:Nat}(h:comp an i j=true):comp an j i=true:=Fz.2 (Fz.1 h).symm
theorem W9.ww(hF:W9 P cx ops an A7 tm nt T){k b:Nat}(hi:i<ops.size)(hk:k<ops.size)(h1:Wr T i b)(h2:Wr T k b):i=k∨comp an i k=true:=by
 have mixed:∀ {i k:Nat},i<ops.size→k<ops.size→b∈(T (i+1)).L→Own T k b→i=k∨comp an i k=true:=fun{i k} hi hk h1 h2=>by
  rcases(hF i hi).may b h1 with⟨h3,_⟩|⟨j,hj,h3,h4,_⟩
  ·have:=hF.QZ h2 (BB _) hk;omega
  ·have:=hF.PW h3 h2 (by omega) hk;subst this;exact .inr (Fz.2 (.inr h4))
 rcases h1 with h1|h1<;>rcases h2 with h2|h2
 · obtain⟨oi,hoi,hti⟩:=hF.AX3 hi h1;rcases(hF k hk).may b h2 with⟨_,h4⟩|⟨j,hj,h3,h4,h5⟩
   ·exact h4 i oi hoi hti
   · rcases(hF i hi).may b h1 with⟨h6,_⟩|⟨j',hj',h6,h7,_⟩
     ·have:=hF.QZ h3 (BB _) (by omega);omega
     ·have:=hF.PW h3 h6 (by omega) (by omega);grind
 ·exact mixed hi hk h1 h2
 ·exact(mixed hk hi h2 h1).elim (fun e=>.inl e.symm) fun h=>.inr (VC h)
 ·exact .inl (hF.PW h1 h2 hi hk)
open Classical in
def A4j(T:Nat→St)(n:Nat)(f:Map)(S:Nat→Prop):Map:=fun b=>if b<(T 0).h.A6∨∃j,j<n∧S j∧Own T j b then f b else none
theorem Aj{n:Nat}{f:Map}{S:Nat→Prop}{b:Nat}{i:VT}:A4j T n f S b=some i↔(b<(T 0).h.A6∨∃j,j<n∧S j∧Own T j b)∧f b=some i:=by unfold A4j;simp
theorem HD{n:Nat}{f:Map}{S:Nat→Prop}:(A4j T n f S).le f:=fun b i h=>(Aj.1 h).2
theorem AL3{n:Nat}{f:Map}{S S':Nat→Prop}(h:∀j,S j→S' j):(A4j T n f S).le (A4j T n f S'):=fun b i hb=>by obtain⟨h1,h2⟩:=Aj.1 hb;exact Aj.2 ⟨h1.imp id fun⟨j,a,b,c⟩=>⟨j,a,h j b,c⟩,h2⟩
def ANJ(an:Abs.T Nat)(S:Nat→Prop):Prop:=∀j,S j→∀i,dK an i j→S i
def Ev(f:Map)(ds:List (Option Tmp))(lo:List A0)(tm:Abs.T A0)(tmps:Array A0)(t:Tmp):Prop:=(∀i,idx ds t=some i→F5 f (nth lo i) (tmps.getD t undef))∧(idx ds t=none→∀v,tm.get (path t)=some v→F5 f v (tmps.getD t undef))
theorem Ev.mono{f g:Map}{ds:List (Option Tmp)}{lo:List A0}{tmps:Array A0}(h:Ev f ds lo tm tmps t)(hfg:f.le g):Ev g ds lo tm tmps t:=⟨fun i hi=>(h.1 i hi).mono hfg,fun hi v hv=>(h.2 hi v hv).mono hfg⟩
theorem Ev.tmps{f:Map}{ds:List (Option Tmp)}{lo:List A0}{tmps tmps':Array A0}(h:Ev f ds lo tm tmps t)(e:tmps'.getD t undef=tmps.getD t undef):Ev f ds lo tm tmps' t:=by unfold Ev;rw[e];exact h
theorem A8u{d:Option Tmp}{ds:List (Option Tmp)}(h:d≠some t):idx (d::ds) t=(idx ds t).map (·+1):=by
 cases d with
 | none=>rfl
 | some u =>
  show(bif Nat.beq u t then some 0 else(idx ds t).map (·+1))=_;cases hb:Nat.beq u t with
  | true=>simp_all
  | false=>rfl
theorem jZ{ds:List (Option Tmp)}:idx (some t::ds) t=some 0:=by show(bif Nat.beq t t then some 0 else(idx ds t).map (·+1))=_;rw[Dg];rfl
theorem AAr{f:Map}{d:Option Tmp}{ds:List (Option Tmp)}{lo:List A0}{v:A0}{tmps:Array A0}(h:d≠some t):Ev f (d::ds) (v::lo) tm tmps t↔Ev f ds lo tm tmps t:=by
 unfold Ev;rw[A8u h];cases hi:idx ds t with
 | none=>simp
 | some i =>
  constructor
  ·rintro⟨h1,_⟩;exact⟨fun j hj=>by cases hj;exact h1 (i+1) rfl,fun h=>by cases h⟩
  ·rintro⟨h1,_⟩;exact⟨fun j hj=>by cases hj;exact h1 i rfl,fun h=>by cases h⟩
theorem W9.ARG(hF:W9 P cx ops an A7 tm nt T){f:Map}{tmps:Array A0}:∀j,i+j≤ops.size→(∀k o,i≤k→k<i+j→ops[k]?=some o→o.dst≠some t)→(Ev f (x9 ops (i+j)) (T (i+j)).lo tm tmps t↔Ev f (x9 ops i) (T i).lo tm tmps t):=by
 intro j;induction j with
 | zero=>intro _ _;exact Iff.rfl
 | succ j ih =>
  intro h hn;rw[←ih (by omega) fun k o h1 h2=>hn k o h1 (by omega)];obtain⟨o,ho,_⟩:=(hF (i+j) (by omega)).op;obtain⟨v,hv⟩:=(hF.heap (k:=i+j) (by omega)).2.2.2.2.2;show Ev f (x9 ops (i+j+1)) (T (i+j+1)).lo tm tmps t↔_;rw[fu ho,hv];exact AAr (hn (i+j) o (by omega) (by omega) ho)
def AYj(ops:Array Oper)(D:Nat→Prop)(t:Tmp)(m:Nat):Prop:=m≤ops.size∧∀(i:Nat) (o:Oper),ops[i]?=some o→o.dst=some t→(D i↔i<m)
def HZ(ops:Array Oper)(an:Abs.T Nat)(tm:Abs.T A0)(T:Nat→St)(D:Nat→Prop)(f:Map)(tmps:Array A0):Prop:=∀S,ANJ an S→∀t m,AYj ops D t m→(∀(i:Nat) (o:Oper),ops[i]?=some o→o.dst=some t→D i→S i)→Ev (A4j T ops.size f S) (x9 ops m) (T m).lo tm tmps t
theorem HZ.step(hO:Qk ops an)(hF:W9 P cx ops an A7 tm nt T){D:Nat→Prop}{f f':Map}{a:Act}{k:Nat}{o:Oper}{v:A0}(hk:ops[k]?=some o)(hlo:(T (k+1)).lo=v::(T k).lo)(hDk:¬D k)(hDc:ANJ an D)(inv:HZ ops an tm T D f a.tmps)(hle:∀S,(A4j T ops.size f S).le (A4j T ops.size f' S))(hv:∀S,ANJ an S→S k→F5 (A4j T ops.size f' S) v v')(hdst:∀t,o.dst=some t→t<a.tmps.size):
 HZ ops an tm T (fun i=>D i∨i=k) f' (a.put o.dst v').tmps:=by
 intro S hS t m hcut hw;have hkn:k<ops.size:=(RY.1 hk).1;by_cases ht:o.dst=some t
 ·
  have hkm:k<m:=((hcut.2 k o hk ht).1 (.inr rfl))
  have hno:∀i oi,k+1≤i→i<m→ops[i]?=some oi→oi.dst≠some t:=fun i oi h1 h2 hi hd=>by
   have hDi:D i:=((hcut.2 i oi hi hd).2 h2).resolve_right (by omega);rcases hO.slot k i o oi t hk hi ht (by simp[hd]) with e|hc
   ·omega
   · rcases Fz.1 hc with hb|hb
     ·exact hDk (hDc i hDi k hb)
     ·have:=hO.dm k o hk i hb;omega
  obtain⟨j,rfl⟩:=A83 (show k+1≤m from hkm);rw[hF.ARG j hcut.1 fun i oi h1 h2=>hno i oi h1 h2,fu hk,hlo,ht];refine⟨fun i hi=>?_,fun hi=>by rw[jZ] at hi;cases hi⟩;rw[jZ] at hi;cases hi;have:(a.put (some t) v').tmps.getD t undef=v':=by show(a.tmps.setIfInBounds t v').getD t undef=v';simp_all
  rw[this];exact hv S hS (hw k o hk ht (.inr rfl))
 · have e:(a.put o.dst v').tmps.getD t undef=a.tmps.getD t undef:=by
    cases hd:o.dst with
    | none=>rfl
    | some u =>
     have hne:u≠t:=fun e=>ht (by rw[hd,e]);show(a.tmps.setIfInBounds u v').getD t undef=_;simp_all
   refine Ev.tmps (Ev.mono (inv S hS t m ⟨hcut.1,fun i oi hi hd=>?_⟩ fun i oi hi hd hDi=>hw i oi hi hd (.inl hDi)) (hle S)) e;rw[←hcut.2 i oi hi hd];grind
end
section
variable {P:Program} {cx:Cx} {ops:Array Oper} {an:T Nat} {A7:Call} {tm:T A0} {nt:Nat} {T:Nat→St}
def eh(ops:Array Oper)(T:Nat→St)(D:Nat→Prop)(b m:Nat):Prop:=m≤ops.size∧∀i,i<ops.size→Wr T i b→(D i↔i<m)
structure Y7(ops:Array Oper)(an:Abs.T Nat)(T:Nat→St)(f0:Map)(D:Nat→Prop)(f:Map)(w:World):Prop where
 AWY:∀b i,f b=some i→b<(T 0).h.A6∨∃j,j<ops.size∧D j∧Own T j b
 AM:∀b,b<(T 0).h.A6→f b=f0 b
 obj:∀S,ANJ an S→∀b m i o,f b=some i→eh ops T D b m→(∀j,j<ops.size→Wr T j b→D j→S j)→(T m).h.at b=some o→∃x,w.heap[i.S6]?=some x∧GI (A4j T ops.size f S) i o x
 inj:∀b c i j m m',f b=some i→f c=some j→eh ops T D b m→eh ops T D c m'→((T m).h.at b).isSome→((T m').h.at c).isSome→i.S6=j.S6→b=c
 fresh:∀b i,f b=some i→i.S6<w.heap.size
structure Bk(ops:Array Oper)(T:Nat→St)(f0:Map)(w0:World)(D:Nat→Prop)(f:Map)(w:World):Prop where
 size:w0.heap.size≤w.heap.size
 tape:w.tape=w0.tape
 os:w.os=w0.os
 out:w.output=w0.output
 K7:∀c,c<w0.heap.size→(∀b i,f0 b=some i→i.S6=c→((T 0).h.at b).isSome→b<(T 0).h.base∧∀k,k<ops.size→D k→b∉(T (k+1)).L)→w.heap[c]?=w0.heap[c]?
 news:∀b i,f0 b=none→f b=some i→(T 0).h.A6≤b∧(w0.heap.size≤i.S6∨∃c j,f0 c=some j∧j.S6=i.S6∧((T 0).h.at c).isSome∧((T 0).h.base≤c∨∃k,k<ops.size∧D k∧c∈(T (k+1)).L))
structure Next(ops:Array Oper)(an:Abs.T Nat)(D:Nat→Prop)(k:Nat)(o:Oper):Prop where
 op:ops[k]?=some o
 not:¬D k
 ASE:ANJ an D
 pre:∀i,dK an i k→D i
theorem Next.lt{D:Nat→Prop}{k:Nat}{o:Oper}(h:Next ops an D k o):k<ops.size:=(RY.1 h.op).1
theorem Next.cut(hO:Qk ops an){D:Nat→Prop}{k:Nat}{o:Oper}(h:Next ops an D k o){j:Nat}(hj:j=k∨comp an j k=true)(hjn:j<ops.size):(D j↔j<k)∧(D j→dK an j k):=by
 rcases hj with rfl|hc
 ·exact⟨⟨fun e=>absurd e h.not,fun e=>by omega⟩,fun e=>absurd e h.not⟩
 · rcases Fz.1 hc with hb|hb
   ·exact⟨⟨fun _=>hO.dm k o h.op j hb,fun _=>h.pre j hb⟩,fun _=>hb⟩
   ·have hlt:=hO.dm j ops[j] (by simp[hjn]) k hb;exact⟨⟨fun e=>absurd (h.ASE j e k hb) h.not,fun e=>by omega⟩,fun e=>absurd (h.ASE j e k hb) h.not⟩
section
variable {f0:Map} {D:Nat→Prop} {f:Map} {w:World} {k:Nat} {o:Oper}
theorem eh.drop{b m:Nat}(h:eh ops T (fun i=>D i∨i=k) b m)(hW:¬Wr T k b):eh ops T D b m:=⟨h.1,fun i hi hw=>by rw[←h.2 i hi hw];grind⟩
theorem Y7.quiet(inv:Y7 ops an T f0 D f w)(hW:∀b,¬Wr T k b):Y7 ops an T f0 (fun i=>D i∨i=k) f w :=
 ⟨fun b i h=>(inv.AWY b i h).imp id fun⟨j,h1,h2,h3⟩=>⟨j,h1,.inl h2,h3⟩,inv.AM,
   fun S hS b m i o h hc hw ho=>inv.obj S hS b m i o h (hc.drop (hW b)) (fun j h1 h2 h3=>hw j h1 h2 (.inl h3)) ho,
   fun b c i j m m' hb hc cb cc=>inv.inj b c i j m m' hb hc (cb.drop (hW b)) (cc.drop (hW c)),inv.fresh⟩
theorem Bk.quiet(inv:Bk ops T f0 w0 D f w):Bk ops T f0 w0 (fun i=>D i∨i=k) f w :=
 ⟨inv.size,inv.tape,inv.os,inv.out,fun c hc h=>inv.K7 c hc fun b i h1 h2 h3=>⟨(h b i h1 h2 h3).1,fun k' h4 h5=>(h b i h1 h2 h3).2 k' h4 (.inl h5)⟩,
   fun b i h1 h2=>(inv.news b i h1 h2).imp id fun h=>h.imp id fun⟨c,j,a1,a2,a3,a4⟩=>⟨c,j,a1,a2,a3,a4.imp id fun⟨k',b1,b2,b3⟩=>⟨k',b1,.inl b2,b3⟩⟩⟩
noncomputable abbrev Ck (ops:Array Oper) (an:Abs.T Nat) (T:Nat→St) (f:Map) (k:Nat):Map:=A4j T ops.size f fun i=>dK an i k
theorem VF(hO:Qk ops an)(hF:W9 P cx ops an A7 tm nt T)(hn:Next ops an D k o){b:Nat}{i:VT}(h:Ck ops an T f k b=some i):b<(T k).h.A6:=by
 rcases(Aj.1 h).1 with h1|⟨j,h1,h2,h3⟩
 ·exact Ep h1 (hF.OA (BB _) (iT hn.lt))
 ·exact hF.A1k h3 (hO.dm k o hn.op j h2) (iT hn.lt)
theorem AIJ(hO:Qk ops an)(hF:W9 P cx ops an A7 tm nt T)(hn:Next ops an D k o)(ht:Oo o=true){b:Nat}{i:VT}(h:Ck ops an T f k b=some i):eh ops T D b k∧∀j,j<ops.size→Wr T j b→D j→dK an j k:=by
 have key:∀j,j<ops.size→Wr T j b→j=k∨comp an j k=true:=fun j hj hw=>by
  rcases(Aj.1 h).1 with h1|⟨j0,h1,h2,h3⟩
  · rcases hw with hw|hw
    · rcases(hF j hj).may b hw with⟨_,h5⟩|⟨j',h5,h6,_⟩
      ·exact(h5 k o hn.op ht).elim (fun e=>.inl e.symm) fun e=>.inr (VC e)
      ·have:=hF.QZ h6 (BB _) (by omega);omega
    ·have:=hF.QZ hw (BB _) hj;omega
  · rcases hw with hw|hw
    · rcases(hF j hj).may b hw with⟨h5,_⟩|⟨j',h5,h6,h7,h8⟩
      ·have:=hF.QZ h3 (BB _) h1;omega
      ·have:=hF.PW h6 h3 (by omega) h1;subst this;exact(h8 k o hn.op ht (.inr h2)).elim (fun e=>.inl e.symm) fun e=>.inr (VC e)
    ·have:=hF.PW hw h3 hj h1;subst this;exact .inr (Fz.2 (.inl h2))
 exact⟨⟨iT hn.lt,fun j hj hw=>(hn.cut hO (key j hj hw) hj).1⟩,fun j hj hw=>(hn.cut hO (key j hj hw) hj).2⟩
theorem AFL(hO:Qk ops an)(hk:ops[k]?=some o):ANJ an fun i=>dK an i k:=fun j hj i hi=>hO.trans k o hk i j hi hj
theorem AW8(hO:Qk ops an)(hF:W9 P cx ops an A7 tm nt T)(hdead:∀b,(T 0).h.A6≤b→(T 0).h.at b=none)(hn:Next ops an D k o)(ht:Oo o=true)(inv:Y7 ops an T f0 D f w):
 Z6 (Ck ops an T f k) (B8 (T k).h (T k).h.A6 []) w:=by
 refine⟨fun b o' i hb ho=>?_,fun b c i j hb hc lb lc e=>?_,fun b i hb=>⟨VF hO hF hn hb,inv.fresh b i (HD b i hb)⟩,hF.dead hdead k (iT hn.lt),M8 _⟩
 ·obtain⟨h1,h2⟩:=AIJ hO hF hn ht hb;exact inv.obj _ (AFL hO hn.op) b k i o' (HD b i hb) h1 h2 ho
 ·exact inv.inj b c i j k k (HD b i hb) (HD c j hc) (AIJ hO hF hn ht hb).1 (AIJ hO hF hn ht hc).1 lb lc e
open Classical in
def FI(T:Nat→St)(f f1:Map)(k:Nat):Map:=fun b=>if Own T k b then f1 b else f b
section
variable {f1:Map} {h1:Hp} {w':World} {v:A0}
theorem AQa(hF:W9 P cx ops an A7 tm nt T)(hn:Next ops an D k o)(inv:Y7 ops an T f0 D f w){b:Nat}{i:VT}(h:f b=some i):¬Own T k b:=fun ho=>by
 rcases inv.AWY b i h with h1|⟨j,h1,h2,h3⟩
 ·have:=hF.QZ ho (BB _) hn.lt;omega
 ·have:=hF.PW h3 ho h1 hn.lt;subst this;exact hn.not h2
theorem lQ(hF:W9 P cx ops an A7 tm nt T)(hn:Next ops an D k o)(inv:Y7 ops an T f0 D f w)(S:Nat→Prop):(A4j T ops.size f S).le (A4j T ops.size (FI T f f1 k) S):=fun b i h=>by obtain⟨h1,h2⟩:=Aj.1 h;refine Aj.2 ⟨h1,?_⟩;unfold FI;rw[if_neg (AQa hF hn inv h2)];exact h2
theorem lB(hO:Qk ops an)(hF:W9 P cx ops an A7 tm nt T)(hn:Next ops an D k o)(inv:Y7 ops an T f0 D f w)(hle:(Ck ops an T f k).le f1)(hown:∀b i,f1 b=some i→Ck ops an T f k b=none→Own T k b){S:Nat→Prop}(hS:ANJ an S)(hSk:S k):f1.le (A4j T ops.size (FI T f f1 k) S):=fun b i h=>by
 cases hb:Ck ops an T f k b with
 | some j =>
  have:=hle b j hb;rw[h] at this;cases this;obtain⟨h2,h3⟩:=Aj.1 hb;refine Aj.2 ⟨h2.imp id fun⟨j,a,b,c⟩=>⟨j,a,hS k hSk j b,c⟩,?_⟩;unfold FI;grind
 | none =>
  have ho:=hown b i h hb;refine Aj.2 ⟨.inr ⟨k,hn.lt,hSk,ho⟩,?_⟩;unfold FI;rw[if_pos ho];exact h
theorem Y7.gen(hO:Qk ops an)(hF:W9 P cx ops an A7 tm nt T)(hn:Next ops an D k o)(ht:Oo o=true)(inv:Y7 ops an T f0 D f w)(hT:T (k+1)=⟨B8 h1 (T k).h.base (below (T k).h.base h1.log (T k).h.log),v::(T k).lo,h1.log.filter fun b=>decide (b<(T k).h.A6),none⟩)(hA:L6 (B8 (T k).h (T k).h.A6 []) h1)(hC:L5 (Ck ops an T f k) (B8 (T k).h (T k).h.A6 []) w f1 h1 w'):
 Y7 ops an T f0 (fun i=>D i∨i=k) (FI T f f1 k) w'∧(∀b i,f1 b=some i→Ck ops an T f k b=none→Own T k b):=by
 have hat:∀b,(T (k+1)).h.at b=h1.at b:=fun b=>by rw[hT];rfl
 have hnx:(T (k+1)).h.A6=h1.A6:=by rw[hT];rfl
 have hLm:∀b,b∈(T (k+1)).L↔b∈h1.log∧b<(T k).h.A6:=fun b=>by rw[hT];simp[AEK]
 have hown:∀b i,f1 b=some i→Ck ops an T f k b=none→Own T k b:=fun b i h hb=>⟨(hC.news b i hb h).1,by rw[hnx];exact(hC.rel.fresh b i h).1⟩
 have hkl:∀ {b i},Ck ops an T f k b=some i→b<(T k).h.A6:=fun h=>VF hO hF hn h;have wrK:∀b i,Wr T k b→FI T f f1 k b=some i→f1 b=some i:=fun b i hw h=>by
  unfold FI at h;split at h
  ·exact h
  ·rename_i hno;have hL:=hw.resolve_right hno;refine hC.le b i (Aj.2 ⟨?_,h⟩);exact((hF k hn.lt).may b hL).imp (fun h=>h.1) fun⟨j,a1,a2,a3,_⟩=>⟨j,Nat.lt_trans a1 hn.lt,a3,a2⟩
 have nwK:∀b i,¬Wr T k b→FI T f f1 k b=some i→f b=some i:=fun b i hw h=>by unfold FI at h;rwa[if_neg (fun e=>hw (.inr e))] at h
 have atK:∀b m,Wr T k b→eh ops T (fun i=>D i∨i=k) b m→(T m).h.at b=h1.at b:=fun b m hw hc=>by
  have hkm:k<m:=(hc.2 k hn.lt hw).1 (.inr rfl);rw[←hat];obtain⟨j,rfl⟩:=A83 (show k+1≤m from hkm);refine hF.AFV ?_ j hc.1 fun i h1 h2 hL=>?_
  · rcases hw with hw|hw
    ·exact Ep ((hLm b).1 hw).2 (hF.heap hn.lt).1
    ·exact hw.2
  · have hin:i<ops.size:=Ep h2 hc.1;have hDi:D i:=((hc.2 i hin (.inl hL)).2 h2).resolve_right (by omega);rcases hF.ww hn.lt hin hw (.inl hL) with e|hcm
    ·omega
    · rcases Fz.1 hcm with hb|hb
      ·exact hn.not (hn.ASE i hDi k hb)
      ·have:=hO.dm k o hn.op i hb;omega
 have mix:∀b c i j m m',FI T f f1 k b=some i→FI T f f1 k c=some j→eh ops T (fun i=>D i∨i=k) b m→eh ops T (fun i=>D i∨i=k) c m'→((T m).h.at b).isSome→((T m').h.at c).isSome→i.S6=j.S6→Wr T k b→¬Wr T k c→False:=fun b c i j m m' hb hc cb cc lb lc e hWb hWc=>by
  have hfc:=nwK c j hWc hc;have hcc:=cc.drop hWc;have hf1:=wrK b i hWb hb;rw[atK b m hWb cb] at lb;cases hfk:Ck ops an T f k b with
  | some i' =>
   have:=hC.le b i' hfk;rw[hf1] at this;cases this;have lb':((T k).h.at b).isSome:=by
    cases hx:(T k).h.at b with
    | some _=>rfl
    | none=>rw[hA.dead b (hkl hfk) hx] at lb;cases lb
   have:=inv.inj b c i j k m' (HD b i hfk) hfc (AIJ hO hF hn ht hfk).1 hcc lb' lc e;subst this;exact hWc hWb
  | none =>
   obtain⟨_,hor⟩:=hC.news b i hfk hf1;rcases hor with hor|⟨c2,j2,a1,a2,a3,a4⟩
   ·have:=inv.fresh c j hfc;omega
   ·have hlt:=hkl a1;have hlog:c2∈h1.log:=a4.resolve_left (by show ¬(T k).h.A6≤c2;omega);have:=inv.inj c2 c j2 j k m' (HD c2 j2 a1) hfc (AIJ hO hF hn ht a1).1 hcc a3 lc (a2.trans e);subst this;exact hWc (.inl ((hLm c2).2 ⟨hlog,hlt⟩))
 refine⟨⟨fun b i h=>?_,fun b hb=>?_,fun S hS b m i o' h hc hw ho=>?_,fun b c i j m m' hb hc cb cc lb lc e=>?_,fun b i h=>?_⟩,hown⟩
 · unfold FI at h;split at h
   ·rename_i hO';exact .inr ⟨k,hn.lt,.inr rfl,hO'⟩
   ·exact(inv.AWY b i h).imp id fun⟨j,a1,a2,a3⟩=>⟨j,a1,.inl a2,a3⟩
 ·unfold FI;rw[if_neg (fun e=>by have:=hF.QZ e (BB _) hn.lt;omega)];exact inv.AM b hb
 · by_cases hW:Wr T k b
   ·rw[atK b m hW hc] at ho;obtain⟨x,hx,hor⟩:=hC.rel.obj b o' i (wrK b i hW h) ho;exact⟨x,hx,hor.mono (lB hO hF hn inv hC.le hown hS (hw k hn.lt hW (.inr rfl)))⟩
   · have hf:=nwK b i hW h;have hcD:=hc.drop hW;obtain⟨x,hx,hor⟩:=inv.obj S hS b m i o' hf hcD (fun j a1 a2 a3=>hw j a1 a2 (.inl a3)) ho;refine⟨x,?_,hor.mono (lQ hF hn inv S)⟩;rw[hC.K7 i.S6 (inv.fresh b i hf) fun b2 i2 g1 g2 g3=>?_]
     ·exact hx
     ·have hlt:=hkl g1;have:=inv.inj b2 b i2 i k m (HD b2 i2 g1) hf (AIJ hO hF hn ht g1).1 hcD g3 (by rw[ho];rfl) g2;subst this;exact⟨hlt,fun hl=>hW (.inl ((hLm b2).2 ⟨hl,hlt⟩))⟩
 · by_cases hWb:Wr T k b
   · by_cases hWc:Wr T k c
     ·rw[atK b m hWb cb] at lb;rw[atK c m' hWc cc] at lc;exact hC.rel.inj b c i j (wrK b i hWb hb) (wrK c j hWc hc) lb lc e
     grind
   · by_cases hWc:Wr T k c
     ·grind
     ·exact inv.inj b c i j m m' (nwK b i hWb hb) (nwK c j hWc hc) (cb.drop hWb) (cc.drop hWc) lb lc e
 · unfold FI at h;split at h
   ·exact(hC.rel.fresh b i h).2
   ·exact Ep (inv.fresh b i h) hC.size
theorem Bk.gen(hO:Qk ops an)(hF:W9 P cx ops an A7 tm nt T)(hn:Next ops an D k o)(hinv:Y7 ops an T f0 D f w)(inv:Bk ops T f0 w0 D f w)(hf0:∀b i,f0 b=some i→b<(T 0).h.A6)(hT:T (k+1)=⟨B8 h1 (T k).h.base (below (T k).h.base h1.log (T k).h.log),v::(T k).lo,h1.log.filter fun b=>decide (b<(T k).h.A6),none⟩)(hC:L5 (Ck ops an T f k) (B8 (T k).h (T k).h.A6 []) w f1 h1 w'):
 Bk ops T f0 w0 (fun i=>D i∨i=k) (FI T f f1 k) w':=by
 have hLm:∀b,b∈(T (k+1)).L↔b∈h1.log∧b<(T k).h.A6:=fun b=>by rw[hT];simp[AEK]
 have hkl:∀ {b i},Ck ops an T f k b=some i→b<(T k).h.A6:=fun h=>VF hO hF hn h;have live:∀b i,f0 b=some i→((T k).h.at b).isSome→((T 0).h.at b).isSome:=fun b i hb hl=>by
  cases hx:(T 0).h.at b with
  | some _=>rfl
  | none =>
   have:=hF.ARm (i:=0) (hf0 b i hb) hx k (by have:=hn.lt;omega);grind
 refine⟨JJ inv.size hC.size,hC.tape.trans inv.tape,hC.os.trans inv.os,hC.out.trans inv.out,fun c hc h=>?_,fun b i hb h=>?_⟩
 · have e:=inv.K7 c hc fun b i g1 g2 g3=>⟨(h b i g1 g2 g3).1,fun k' a1 a2=>(h b i g1 g2 g3).2 k' a1 (.inl a2)⟩
   rw[←e];refine hC.K7 c (Ep hc inv.size) fun b i g1 g2 g3=>?_;have hlt:=hkl g1;refine⟨hlt,fun hl=>?_⟩;have hL:=(hLm b).2 ⟨hl,hlt⟩;have hfb:=HD b i g1;cases hf:f0 b with
   | some i' =>
    have he:=hinv.AM b (hf0 b i' hf);rw[hfb,hf] at he;cases he;exact(h b i hf g2 (live b i hf g3)).2 k hn.lt (.inr rfl) hL
   | none =>
    obtain⟨_,hor⟩:=inv.news b i hf hfb;grind
 · unfold FI at h;split at h
   · rename_i hown;have hfk:Ck ops an T f k b=none:=by
      cases hx:Ck ops an T f k b with
      | none=>rfl
      | some j=>have:=hkl hx;exact absurd hown.1 (by omega)
     obtain⟨g1,hor⟩:=hC.news b i hfk h;refine⟨JJ (hF.OA (BB k) (iT hn.lt)) g1,?_⟩;rcases hor with hor|⟨c2,j2,a1,a2,a3,a4⟩
     ·exact .inl (JJ inv.size hor)
     · have hlt:=hkl a1;have hlog:c2∈h1.log:=a4.resolve_left (by show ¬(T k).h.A6≤c2;omega);have hL:=(hLm c2).2 ⟨hlog,hlt⟩;have hfc:=HD c2 j2 a1;cases hf:f0 c2 with
       | some j' =>
        have he:=hinv.AM c2 (hf0 c2 j' hf);rw[hfc,hf] at he;cases he;exact .inr ⟨c2,j2,hf,a2,live c2 j2 hf a3,.inr ⟨k,hn.lt,.inr rfl,hL⟩⟩
       | none =>
        obtain⟨_,hor'⟩:=inv.news c2 j2 hf hfc;grind
   ·obtain⟨g1,g2⟩:=inv.news b i hb h;grind
def blank(n:Nat):Hp:=⟨.nil,n,n,[]⟩
theorem ZX(n b:Nat):(blank n).at b=none:=rfl
theorem AUW(hO:Qk ops an)(hF:W9 P cx ops an A7 tm nt T)(hn:Next ops an D k o)(inv:Y7 ops an T f0 D f w):Z6 (Ck ops an T f k) (blank (T k).h.A6) w:=⟨fun b o' i _ ho=>by(rw[ZX] at ho;cases ho),fun b c i j _ _ lb=>by(rw[ZX] at lb;cases lb),fun b i hb=>⟨VF hO hF hn hb,inv.fresh b i (HD b i hb)⟩,fun _ _=>rfl,M8 _⟩
variable {ob:N2}
theorem A6a(hT:T (k+1)=⟨B8 h1 (T k).h.base (below (T k).h.base h1.log (T k).h.log),v::(T k).lo,h1.log.filter fun b=>decide (b<(T k).h.A6),none⟩)(he:h1=(B8 (T k).h (T k).h.A6 []).new ob):(T (k+1)).L=[]∧(T (k+1)).h.A6=(T k).h.A6+1∧∀b,(T (k+1)).h.at b=if(T k).h.A6=b then some ob else(T k).h.at b:=by
 refine⟨?_,?_,fun b=>?_⟩
 ·rw[hT,he];rfl
 ·rw[hT,he];rfl
 ·rw[hT];show h1.at b=_;rw[he,Hp.HG];rfl
theorem Y7.made(hO:Qk ops an)(hF:W9 P cx ops an A7 tm nt T)(hn:Next ops an D k o)(inv:Y7 ops an T f0 D f w)(hT:T (k+1)=⟨B8 h1 (T k).h.base (below (T k).h.base h1.log (T k).h.log),v::(T k).lo,h1.log.filter fun b=>decide (b<(T k).h.A6),none⟩)(he:h1=(B8 (T k).h (T k).h.A6 []).new ob)(hC:L5 (Ck ops an T f k) (blank (T k).h.A6) w f1 ((blank (T k).h.A6).new ob) w'):
 Y7 ops an T f0 (fun i=>D i∨i=k) (FI T f f1 k) w'∧(∀b i,f1 b=some i→Ck ops an T f k b=none→Own T k b):=by
 obtain⟨hL,hnx,hat⟩:=A6a hT he;have hown:∀b i,f1 b=some i→Ck ops an T f k b=none→Own T k b:=fun b i h hb=>⟨(hC.news b i hb h).1,by rw[hnx];exact(hC.rel.fresh b i h).1⟩
 have hkl:∀ {b i},Ck ops an T f k b=some i→b<(T k).h.A6:=fun h=>VF hO hF hn h;have own_eq:∀ {b},Own T k b→b=(T k).h.A6:=fun{b} h=>by have h1:=h.1;have h2:=h.2;rw[hnx] at h2;omega
 have wr_own:∀ {b},Wr T k b→Own T k b:=fun{b} h=>h.resolve_left (by rw[hL];simp);have wrK:∀b i,Wr T k b→FI T f f1 k b=some i→f1 b=some i:=fun b i hw h=>by unfold FI at h;rwa[if_pos (wr_own hw)] at h
 have nwK:∀b i,¬Wr T k b→FI T f f1 k b=some i→f b=some i:=fun b i hw h=>by unfold FI at h;rwa[if_neg (fun e=>hw (.inr e))] at h
 have atK:∀b m,Wr T k b→eh ops T (fun i=>D i∨i=k) b m→(T m).h.at b=some ob:=fun b m hw hc=>by
  have hkm:k<m:=(hc.2 k hn.lt hw).1 (.inr rfl);have hb:=own_eq (wr_own hw);have e1:(T (k+1)).h.at b=some ob:=by rw[hat,if_pos hb.symm]
  rw[←e1];obtain⟨j,rfl⟩:=A83 (show k+1≤m from hkm);refine hF.AFV (wr_own hw).2 j hc.1 fun i h1 h2 hLi=>?_;have hin:i<ops.size:=Ep h2 hc.1;have hDi:D i:=((hc.2 i hin (.inl hLi)).2 h2).resolve_right (by omega);rcases hF.ww hn.lt hin hw (.inl hLi) with e|hcm
  ·omega
  · rcases Fz.1 hcm with hb|hb
    ·exact hn.not (hn.ASE i hDi k hb)
    ·have:=hO.dm k o hn.op i hb;omega
 have far:∀b i,Wr T k b→FI T f f1 k b=some i→w.heap.size≤i.S6:=fun b i hw h=>by
  have hf1:=wrK b i hw h;have hfk:Ck ops an T f k b=none:=by
   cases hx:Ck ops an T f k b with
   | none=>rfl
   | some j =>
    grind
  rcases(hC.news b i hfk hf1).2 with h|⟨c,j,_,_,h3,_⟩
  ·exact h
  trivial
 refine⟨⟨fun b i h=>?_,fun b hb=>?_,fun S hS b m i o' h hc hw ho=>?_,fun b c i j m m' hb hc cb cc lb lc e=>?_,fun b i h=>?_⟩,hown⟩
 · unfold FI at h;split at h
   ·rename_i hO';exact .inr ⟨k,hn.lt,.inr rfl,hO'⟩
   ·exact(inv.AWY b i h).imp id fun⟨j,a1,a2,a3⟩=>⟨j,a1,.inl a2,a3⟩
 ·unfold FI;rw[if_neg (fun e=>by have:=hF.QZ e (BB _) hn.lt;omega)];exact inv.AM b hb
 · by_cases hW:Wr T k b
   ·rw[atK b m hW hc] at ho;cases ho;have hb:=own_eq (wr_own hW);obtain⟨x,hx,hor⟩:=hC.rel.obj b ob i (wrK b i hW h) (by rw[Hp.HG];exact if_pos hb.symm);exact⟨x,hx,hor.mono (lB hO hF hn inv hC.le hown hS (hw k hn.lt hW (.inr rfl)))⟩
   ·have hf:=nwK b i hW h;have hcD:=hc.drop hW;obtain⟨x,hx,hor⟩:=inv.obj S hS b m i o' hf hcD (fun j a1 a2 a3=>hw j a1 a2 (.inl a3)) ho;refine⟨x,?_,hor.mono (lQ hF hn inv S)⟩;rw[hC.K7 i.S6 (inv.fresh b i hf) fun b2 i2 g1 g2 g3=>by(rw[ZX] at g3;cases g3)];exact hx
 · by_cases hWb:Wr T k b
   · by_cases hWc:Wr T k c
     ·grind
     ·have h1:=far b i hWb hb;have h2:=inv.fresh c j (nwK c j hWc hc);omega
   · by_cases hWc:Wr T k c
     ·have h1:=far c j hWc hc;have h2:=inv.fresh b i (nwK b i hWb hb);omega
     ·exact inv.inj b c i j m m' (nwK b i hWb hb) (nwK c j hWc hc) (cb.drop hWb) (cc.drop hWc) lb lc e
 · unfold FI at h;split at h
   ·exact(hC.rel.fresh b i h).2
   ·exact Ep (inv.fresh b i h) hC.size
theorem Bk.made(hO:Qk ops an)(hF:W9 P cx ops an A7 tm nt T)(hn:Next ops an D k o)(hinv:Y7 ops an T f0 D f w)(inv:Bk ops T f0 w0 D f w)(hT:T (k+1)=⟨B8 h1 (T k).h.base (below (T k).h.base h1.log (T k).h.log),v::(T k).lo,h1.log.filter fun b=>decide (b<(T k).h.A6),none⟩)(he:h1=(B8 (T k).h (T k).h.A6 []).new ob)(hC:L5 (Ck ops an T f k) (blank (T k).h.A6) w f1 ((blank (T k).h.A6).new ob) w'):
 Bk ops T f0 w0 (fun i=>D i∨i=k) (FI T f f1 k) w':=by
 obtain⟨hL,hnx,hat⟩:=A6a hT he;refine⟨JJ inv.size hC.size,hC.tape.trans inv.tape,hC.os.trans inv.os,hC.out.trans inv.out,fun c hc h=>?_,fun b i hb h=>?_⟩
 · have e:=inv.K7 c hc fun b i g1 g2 g3=>⟨(h b i g1 g2 g3).1,fun k' a1 a2=>(h b i g1 g2 g3).2 k' a1 (.inl a2)⟩
   rw[←e];exact hC.K7 c (Ep hc inv.size) fun b i g1 g2 g3=>by(rw[ZX] at g3;cases g3)
 · unfold FI at h;split at h
   · rename_i hown;have hfk:Ck ops an T f k b=none:=by
      cases hx:Ck ops an T f k b with
      | none=>rfl
      | some j=>have:=VF hO hF hn hx;exact absurd hown.1 (by omega)
     obtain⟨g1,hor⟩:=hC.news b i hfk h;refine⟨JJ (hF.OA (BB k) (iT hn.lt)) g1,?_⟩;rcases hor with hor|⟨c2,j2,a1,a2,a3,a4⟩
     ·exact .inl (JJ inv.size hor)
     trivial
   ·obtain⟨g1,g2⟩:=inv.news b i hb h;grind
end
end
end
section
variable {P:Program} {cx:Cx} {ops:Array Oper} {an:T Nat} {A7:Call} {tm:T A0} {nt:Nat} {T:Nat→St}
theorem ANc(l:List A0)(i:Nat):nth l i=(l[i]?).getD top:=by
 rcases DX i l.length with h|h
 ·rw[AEN h];simp[h]
 ·rw[VE h];simp[h]
open Classical in
def A9E(ds:List (Option Tmp))(lo:List A0)(L:List Tmp):List A0:=(List.range lo.length).map fun i=>if ∃t∈L,idx ds t=some i then nth lo i else top
def AGY(tm:Abs.T A0)(L:List Tmp):Abs.T A0:=L.foldr (fun t acc=>Abs.T.set (path t) acc (tm.get (path t))) .nil
theorem AEi(tm:Abs.T A0)(L:List Tmp)(t:Tmp):(AGY tm L).get (path t)=if t∈L then tm.get (path t) else none:=by
 induction L with
 | nil=>simp[AGY]
 | cons u L ih =>
  show(Abs.T.set (path u) (AGY tm L) (tm.get (path u))).get (path t)=_;rw[V9,ih];grind
theorem APC{ds:List (Option Tmp)}{lo:List A0}{L:List Tmp}(hi:idx ds t=some i):nth (A9E ds lo L) i=top∨(t∈L∧nth (A9E ds lo L) i=nth lo i):=by
 rcases DX i lo.length with h|h
 · rw[ANc];unfold A9E;rw[Rp,A1o h];by_cases hx:∃t∈L,idx ds t=some i
   ·rw[A08,if_pos hx];obtain⟨u,hu,hui⟩:=hx;have h1:=VG hui;rw[VG hi] at h1;grind
   grind
 ·refine .inl (VE ?_);unfold A9E;simpa using h
theorem AMJ{ds:List (Option Tmp)}{lo:List A0}{L:List Tmp}(hi:idx ds t=some i)(ht:t∈L):nth (A9E ds lo L) i=nth lo i:=by
 rcases DX i lo.length with h|h
 ·rw[ANc];unfold A9E;rw[Rp,A1o h,A08,if_pos ⟨t,ht,hi⟩];rfl
 ·rw[VE h,VE (by unfold A9E;simpa using h)]
theorem AJb{f:Map}{ds:List (Option Tmp)}{lo:List A0}{L:List Tmp}{tmps:Array A0}(h:∀t∈L,Ev f ds lo tm tmps t):Env f ds (A9E ds lo L) (AGY tm L) tmps:=by
 intro t;refine⟨fun i hi=>?_,fun hi v hv=>?_⟩
 · rcases APC (lo:=lo) (L:=L) hi with e|⟨ht,e⟩
   ·rw[e];exact .AK7 _
   ·rw[e];exact(h t ht).1 i hi
 · rw[AEi] at hv;split at hv
   ·rename_i ht;exact(h t ht).2 hi v hv
   ·cases hv
theorem qT{gs:List Nat}{ds:List (Option Tmp)}{lo:List A0}{L:List Tmp}{x:Operand}(h:∀t,x=.tmp t→t∈L):X8 lo tm (A9E ds lo L) (AGY tm L) (C3 gs ds x):=by
 cases x with
 | tmp t =>
  have ht:=h t rfl;show G4 (match idx ds t with|some i=>.loc i|none=>.tmp (path t)) lo tm=G4 (match idx ds t with|some i=>.loc i|none=>.tmp (path t)) (A9E ds lo L) (AGY tm L);cases hi:idx ds t with
  | some i=>exact(AMJ hi ht).symm
  | none =>
   show Qd (tm.get (path t))=Qd ((AGY tm L).get (path t));rw[AEi,if_pos ht]
 | const v=>rfl
 | global g=>rfl
 | func g=>rfl
theorem AHt{o:Oper}(h:Operand.tmp t∈o.op.operands):t∈looks ops o:=by unfold looks tmpsOf;refine rQ _ (List.mem_filterMap.2 ⟨.tmp t,by simpa using h,rfl⟩)
theorem A6h{f:Map}{ds:List (Option Tmp)}{o:Oper}{lo:List A0}{a:Act}(hv:∀j want d,o.guard=some (j,want)→(ops[j]?).bind (·.dst)=some d→F5 f (G4 (C3 cx.gs ds (.tmp d)) lo tm) (a.tmps.getD d undef)):
 (kI cx ops ds o lo tm=0→Region.wanted o (yielded ops a.tmps)=true)∧(kI cx ops ds o lo tm=1→Region.wanted o (yielded ops a.tmps)=false):=by
 unfold kI;cases hg:o.guard with
 | none=>exact⟨fun _=>(by unfold Region.wanted;rw[hg]),fun h=>(by cases h)⟩
 | some p =>
  obtain⟨j,want⟩:=p;dsimp only;cases hd:(ops[j]?).bind (·.dst) with
  | none=>simp
  | some d =>
   dsimp only;rcases yL (want:=want) (hv j want d hg hd) 0 1 2 with⟨b,hb,h1⟩|⟨⟨ys,hb⟩,h1⟩|h1
   ·rw[h1,ji hg hd hb];simp
   ·rw[h1,aQ hg hd hb];simp
   omega
theorem AGW(hX:SW P cx)(hcall:S9 P cx.gs A7)(hO:Qk ops an)(hF:W9 P cx ops an A7 tm nt T)(hdead:∀b,(T 0).h.A6≤b→(T 0).h.at b=none){f0:Map}(hG:Dr cx.gs f0)(hf0:∀b i,f0 b=some i→b<(T 0).h.A6){D:Nat→Prop}{k:Nat}{o:Oper}(hn:Next ops an D k o){f:Map}{a:Act}{w:World}(hinv:Y7 ops an T f0 D f w)(ginv:Bk ops T f0 w0 D f w)(sinv:HZ ops an tm T D f a.tmps)(hsz:a.tmps.size=nt)(hK:∀f' v' w',Y7 ops an T f0 (fun i=>D i∨i=k) f' w'→Bk ops T f0 w0 (fun i=>D i∨i=k) f' w'→HZ ops an tm T (fun i=>D i∨i=k) f' (a.put o.dst v').tmps→K (a.put o.dst v') w'):
 wpOp P ops Q k K a w:=by
 have hSk:=AFL hO hn.op;have hslots:∀t∈looks ops o,Ev (Ck ops an T f k) (x9 ops k) (T k).lo tm a.tmps t:=fun t ht=>by
  have key:∀(i:Nat) (oi:Oper),ops[i]?=some oi→oi.dst=some t→(D i↔i<k)∧(D i→dK an i k):=fun i oi hi hd =>
   hn.cut hO (hO.slot i k oi o t hi hn.op hd (A2C _ ht)) (RY.1 hi).1
  exact sinv _ hSk t k ⟨iT hn.lt,fun i oi hi hd=>(key i oi hi hd).1⟩ fun i oi hi hd=>(key i oi hi hd).2
 have hE:=AJb hslots;have hsame:=AN0 (P:=P) (cx:=cx) (ds:=x9 ops k) (o:=o) (lo:=(T k).lo) (tm:=tm) (lo':=A9E (x9 ops k) (T k).lo (looks ops o)) (tm':=AGY tm (looks ops o)) fun x hx=>qT fun t e=>by subst e;exact AHt hx
 have hGk:Dr cx.gs (Ck ops an T f k):=fun g hg=>by obtain⟨i,h1,h2,h3⟩:=hG g hg;exact⟨i,Aj.2 ⟨.inl (hf0 g i h1),by rw[hinv.AM g (hf0 g i h1)];exact h1⟩,h2,h3⟩
 have hwant:=A6h (f:=Ck ops an T f k) (cx:=cx) (ops:=ops) (tm:=tm) (ds:=x9 ops k) (o:=o) (lo:=(T k).lo) (a:=a) fun j want d hg hd=>by
  have hdL:d∈looks ops o:=by unfold looks AKz;grind
  have h1:X8 (T k).lo tm (A9E (x9 ops k) (T k).lo (looks ops o)) (AGY tm (looks ops o)) (C3 cx.gs (x9 ops k) (.tmp d)):=qT fun t e=>by cases e;exact hdL
  unfold X8 at h1;rw[h1];exact F0 hGk hE (.tmp d)
 have hco:=A0X (P:=P) (cx:=cx) (ds:=x9 ops k) (o:=o) hX;obtain⟨o',ho',hdst,hs⟩:=(hF k hn.lt).op;have:o'=o:=by rw[hn.op] at ho';cases ho';rfl
 subst this;have hdst':∀t,o'.dst=some t→t<a.tmps.size:=fun t ht=>by unfold Gu at hdst;simp_all
 have hle:∀ {S:Nat→Prop},ANJ an S→S k→(Ck ops an T f k).le (A4j T ops.size f S):=fun hS hk=>AL3 fun j hj=>hS k hk j hj;have quiet:∀v v' R,T (k+1)=⟨(T k).h,v::(T k).lo,[],R⟩→F5 (Ck ops an T f k) v v'→K (a.put o'.dst v') w:=fun v v' R hT hv=>by
  have hW:∀b,¬Wr T k b:=fun b hw=>by
   rcases hw with hw|hw
   ·rw[hT] at hw;cases hw
   ·have h2:=hw.2;rw[hT] at h2;exact absurd hw.1 (by grind)
  exact hK f v' w (hinv.quiet hW) ginv.quiet (HZ.step hO hF hn.op (by rw[hT]) hn.not hn.ASE sinv (fun S=>Map.le_refl _) (fun S hS hk=>hv.mono (hle hS hk)) hdst')
 have value:∀ {v':A0},Region.wanted o' (yielded ops a.tmps)=true→(execOp a.eval o').run P w=.ok (.value v') w→K (a.put o'.dst v') w→wpOp P ops Q k K a w:=fun{v'} h1 h2 h3=>by simp only[wpOp,hn.op,h1,if_true];refine .inl ?_;unfold Oper.wp;rw[h2];exact h3
 cases hs with
 | skip hg hT =>
  simp only[wpOp,hn.op,hwant.2 hg,A5y,if_false];exact quiet undef undef none hT (F5.undef _)
 | p fn v hg hc hv hT =>
  rw[hc] at hco hsame;have hv':fn (A9E (x9 ops k) (T k).lo (looks ops o')) (AGY tm (looks ops o'))=some v:=(hsame.symm.trans hv:_)
  obtain⟨v',h1,h2⟩:=hco _ _ _ hv' (Ck ops an T f k) a w hGk hE;grind
 | rv fn v hg hc hv hT =>
  rw[hc] at hco hsame;have hv':fn (A9E (x9 ops k) (T k).lo (looks ops o')) (AGY tm (looks ops o'))=.val v:=(hsame.symm.trans hv:_)
  have h0:=hco _ _ (Ck ops an T f k) a w hGk hE;rw[hv'] at h0;obtain⟨v',h1,h2⟩:=h0;grind
 | rb fn v b g ob hg hc hv hb hgo hT =>
  rw[hc] at hco hsame;have hv':fn (A9E (x9 ops k) (T k).lo (looks ops o')) (AGY tm (looks ops o'))=.read b g:=(hsame.symm.trans hv:_)
  have h0:=hco _ _ (Ck ops an T f k) a w hGk hE;rw[hv'] at h0;obtain⟨i,hi,h0⟩:=h0;have hR:(T (k+1)).R=some b:=by rw[hT]
  have key:∀j,j<ops.size→Wr T j b→j=k∨comp an j k=true:=fun j hj hw=>by
   rcases hw with hw|hw
   · rcases AA9 j k with h|h|h
     ·exact .inr ((hF k hn.lt).rd j b h hw hR)
     ·exact .inl h
     ·exact .inr (VC ((hF j hj).wr k b h hw hR))
   · rcases(Aj.1 hi).1 with h1|⟨j0,h1,h2,h3⟩
     ·have:=hF.QZ hw (BB _) hj;omega
     ·have:=hF.PW hw h3 hj h1;subst this;exact .inr (Fz.2 (.inl h2))
  obtain⟨x,hx,hor⟩:=hinv.obj _ hSk b k i ob (HD b i hi) ⟨iT hn.lt,fun j hj hw=>(hn.cut hO (key j hj hw) hj).1⟩ (fun j hj hw=>(hn.cut hO (key j hj hw) hj).2) hb;grind
 | g fn v h1 hg hc ht hv hT hA hd =>
  rw[hc] at hco hsame;have hv':fn A7 (A9E (x9 ops k) (T k).lo (looks ops o')) (AGY tm (looks ops o')) (B8 (T k).h (T k).h.A6 [])=.val v h1:=((hsame A7 _).symm.trans hv:_)
  cases hno:cB o' with
  | false =>
   have hh:Oo o'=true:=by unfold Oo;rw[ht,hno];rfl
   have h0:=hco A7 hcall _ _ (Ck ops an T f k) (B8 (T k).h (T k).h.A6 []) a w hGk hE (AW8 hO hF hdead hn hh hinv);rw[hv'] at h0;simp only[wpOp,hn.op,hwant.1 hg,if_true];refine .inl (h0 K Q fun f1 v' w' _ hC hvr=>?_);obtain⟨g1,g2⟩:=Y7.gen hO hF hn hh hinv hT hA hC;exact hK (FI T f f1 k) v' w' g1 (Bk.gen hO hF hn hinv ginv hf0 hT hC) (HZ.step hO hF hn.op (by rw[hT]) hn.not hn.ASE sinv (fun S=>lQ hF hn hinv S) (fun S hS hk=>hvr.mono (lB hO hF hn hinv hC.le g2 hS hk)) hdst')
  | true =>
   obtain⟨ob,he,hall⟩:=pG hc hno _ _ _ _ _ _ hv';have h0:=hco A7 hcall _ _ (Ck ops an T f k) (blank (T k).h.A6) a w hGk hE (AUW hO hF hn hinv);rw[hall (blank (T k).h.A6) rfl] at h0;simp only[wpOp,hn.op,hwant.1 hg,if_true];refine .inl (h0 K Q fun f1 v' w' _ hC hvr=>?_);obtain⟨g1,g2⟩:=Y7.made hO hF hn hinv hT he hC;exact hK (FI T f f1 k) v' w' g1 (Bk.made hO hF hn hinv ginv hT he hC) (HZ.step hO hF hn.op (by rw[hT]) hn.not hn.ASE sinv (fun S=>lQ hF hn hinv S) (fun S hS hk=>hvr.mono (lB hO hF hn hinv hC.le g2 hS hk)) hdst')
theorem ATi(hX:SW P cx)(hcall:S9 P cx.gs A7)(hO:Qk ops an)(hF:W9 P cx ops an A7 tm nt T)(hdead:∀b,(T 0).h.A6≤b→(T 0).h.at b=none){f0:Map}(hG:Dr cx.gs f0)(hf0:∀b i,f0 b=some i→b<(T 0).h.A6){ds0:List Deferred}(hQ:∀D f (a:Act) w,(∀i,i<ops.size→D i)→Y7 ops an T f0 D f w→Bk ops T f0 w0 D f w→HZ ops an tm T D f a.tmps→a.tmps.size=nt→a.defers=ds0→Q .normal a w):
 ∀(fuel:Nat) (listed:Array Bool) (D:Nat→Prop) (f:Map) (a:Act) (w:World),listed.size=ops.size→(∀i,D i↔listed[i]?=some true)→ANJ an D→listed.toList.countP (fun b=>!b)≤fuel →
  Y7 ops an T f0 D f w→Bk ops T f0 w0 D f w→HZ ops an tm T D f a.tmps→a.tmps.size=nt→a.defers=ds0→wpAny P .any ops Q fuel listed a w:=by
 have done:∀(listed:Array Bool) (D:Nat→Prop),listed.size=ops.size→(∀i,D i↔listed[i]?=some true)→Region.ready .any ops listed=[]→∀i,i<ops.size→D i:=fun listed D hsz hD hr i=>by
  induction i using Nat.strongRecOn with
  | ind i ih =>
   intro hi;have hnot:i∉Region.ready .any ops listed:=by rw[hr];simp
   rw[mem_ready] at hnot;cases hl:listed[i]? with
   | none=>grind
   | some b =>
    cases b with
    | true=>exact(hD i).2 hl
    | false =>
     refine absurd ⟨by simp_all,ops[i],by simp[hi],fun e he hb=>?_⟩ hnot;have hlt:=hO.lt i ops[i] (by simp[hi]) e he hb;have:=(hD e.on).1 (ih e.on hlt (by omega));simp_all
 intro fuel;induction fuel with
 | zero =>
  intro listed D f a w hsz hD hcl hcnt hinv ginv sinv hts hds;have hall:∀i,i<ops.size→listed[i]?=some true:=fun i hi=>by
   have h0:listed.toList.countP (fun b=>!b)=0:=by omega
   have:=List.countP_eq_zero.1 h0 (listed[i]'(by omega)) (by simp);grind
  have hr:Region.ready .any ops listed=[]:=by refine List.eq_nil_iff_forall_not_mem.2 fun i hi=>?_;obtain⟨h1,o,ho,_⟩:=mem_ready.1 hi;have:=hall i (RY.1 ho).1;simp_all
  constructor<;>grind
 | succ fuel ih =>
  intro listed D f a w hsz hD hcl hcnt hinv ginv sinv hts hds;refine⟨fun hr=>hQ D f a w (done listed D hsz hD hr) hinv ginv sinv hts hds,fun k hk=>?_⟩;obtain⟨h1,o,ho,hafter⟩:=mem_ready.1 hk;have hkn:=(RY.1 ho).1;have hlk:listed[k]?=some false:=by rw[gS] at h1;grind
  have hpre:∀i,dK an i k→D i:=fun i hi=>by
   obtain⟨e,he,hb,h2⟩:=(hO.AOR i k o ho).1 hi;have h3:D e.on:=(hD e.on).2 (by
    have:=hafter e he hb;rw[gS] at this;grind)
   rcases h2 with rfl|h2
   ·exact h3
   ·exact hcl e.on h3 i h2
  have hn:Next ops an D k o:=⟨ho,fun h=>by(rw[hD,hlk] at h;cases h),hcl,hpre⟩
  refine AGW hX hcall hO hF hdead hG hf0 hn hinv ginv sinv hts fun f' v' w' a1 a2 a3=>?_;refine ih _ (fun i=>D i∨i=k) f' (a.put o.dst v') w' (by simpa using hsz) (fun i=>?_) (fun j hj i hi=>?_) ?_ a1 a2 a3 (by rw[DB];exact hts) (by rw[put_defers];exact hds)
  ·rw[ALY];grind
  · rcases hj with hj|rfl
    ·exact .inl (hcl j hj i hi)
    ·exact .inl (hpre i hi)
  grind
theorem W9.base(hF:W9 P cx ops an A7 tm nt T):∀k,k≤ops.size→(T k).h.base=(T 0).h.base∧∀i b,i<k→((b∈(T (i+1)).L∧b<(T 0).h.base)∨b∈(T 0).h.log)→b∈(T k).h.log:=by
 intro k;induction k with
 | zero=>simp
 | succ k ih =>
  intro hk;obtain⟨h1,h2⟩:=ih (by omega);obtain⟨o,ho,_,hs⟩:=(hF k (by omega)).op;have quiet:∀v R,T (k+1)=⟨(T k).h,v::(T k).lo,[],R⟩→(T (k+1)).h.base=(T 0).h.base∧∀i b,i<k+1→((b∈(T (i+1)).L∧b<(T 0).h.base)∨b∈(T 0).h.log)→b∈(T (k+1)).h.log:=fun v R e=>by
   refine⟨by rw[e];exact h1,fun i b hi hb=>?_⟩;have:b∈(T k).h.log:=by
    by_cases hik:i=k
    · subst hik;rcases hb with⟨hb,_⟩|hb
      ·rw[e] at hb;cases hb
      · cases i with
        | zero=>exact hb
        | succ i=>grind
    ·exact h2 i b (by omega) hb
   rw[e];exact this
  cases hs with
  | skip hg hs=>exact quiet _ _ hs
  | p f v hg hc hv hs=>exact quiet _ _ hs
  | rv f v hg hc hv hs=>exact quiet _ _ hs
  | rb f v b g ob hg hc hv hb ho hs=>exact quiet _ _ hs
  | g f v h1' hg hc ht hv hs hA hd =>
   refine⟨by rw[hs];exact h1,fun i b hi hb=>?_⟩;have e2:(T (k+1)).h.log=below (T k).h.base h1'.log (T k).h.log:=by rw[hs];rfl
   rw[e2,AGl];by_cases hik:i=k
   · subst hik;rcases hb with⟨hb,hlt⟩|hb
     ·grind
     · left;cases i with
       | zero=>exact hb
       | succ i=>grind
   grind
theorem AOC{cx:Cx}(hX:SW P cx)(hm:P.follows .mixedOrders=true):QL P cx:=by
 intro live nt rid ops A7 hcall tm df h f a w hG hI hr hD;have hcc:Cb P cx live nt (.region rid ops true)=bif A2l ops (Rv ops.toList 0 .nil) then .draw (Rv ops.toList 0 .nil) (AZ P cx live nt ops (Rv ops.toList 0 .nil) ops.toList 0 []) else .bad:=rfl
 rw[hcc];cases hdr:A2l ops (Rv ops.toList 0 .nil) with
 | false=>trivial
 | true =>
 rw[cond_true];have hO:=wT hdr;generalize Rv ops.toList 0 .nil=an at hO;show SG live nt f h w (JO (AZ P cx live nt ops an ops.toList 0 []) (comp an) A7 ⟨[],[],[]⟩ [] tm df h) _;have htr:=AMU (live:=live) (nt:=nt) (ops:=ops) (an:=an) (tm:=tm) (h0:=h) (df:=df) hX hcall ops.toList 0 rfl ⟨[],[],[]⟩ f a w hG hI.env hI.size hr ⟨fun i b h=>by omega,fun i b h=>by omega,fun b hb=>hb⟩;have ht0:(lN P cx ops A7 tm h 0).h=h:=rfl;have hlo:(lN P cx ops A7 tm h 0).lo=[]:=rfl;have htr':JO (AZ P cx live nt ops an ops.toList 0 []) (comp an) A7 ⟨[],[],[]⟩ [] tm df h=.none∨(JO (AZ P cx live nt ops an ops.toList 0 []) (comp an) A7 ⟨[],[],[]⟩ [] tm df h=.ok .normal (CP live (x9 ops ops.size) (lN P cx ops A7 tm h ops.size).lo (x9 ops ops.size) 0 tm) df (lN P cx ops A7 tm h ops.size).h ∧
  ∀i,0≤i→i<ops.size→Fact P cx ops an A7 tm nt (lN P cx ops A7 tm h) i):=htr
 generalize lN P cx ops A7 tm h=T at htr' ht0 hlo;rcases htr' with e|⟨e,hF'⟩
 ·rw[e];trivial
 rw[e];have hF:W9 P cx ops an A7 tm nt T:=fun i hi=>hF' i (BB _) hi;intro Q hQ;have hlt0:∀b i,f b=some i→b<(T 0).h.A6:=fun b i hb=>by rw[ht0];exact(hr.fresh b i hb).1
 have hrle:∀S,f.le (A4j T ops.size f S):=fun S b i hb=>Aj.2 ⟨.inl (hlt0 b i hb),hb⟩;have hnl:∀b,b<(T 0).h.base→b<(T 0).h.A6:=fun b hb=>by have:=hr.base;rw[←ht0] at this;omega
 have hnone:∀b m,eh ops T N5 b m→b<(T 0).h.A6→(T m).h.at b=h.at b:=fun b m hc hb=>by have:=hF.AFV (i:=0) hb m (by have:=hc.1;omega) fun k _ hk hL=>((hc.2 k (by have:=hc.1;omega) (.inl hL)).2 (by omega)).elim;grind
 refine wp_region_any hm (ATi (T:=T) (an:=an) (f0:=f) (w0:=w) (ds0:=a.defers) hX hcall hO hF (by rw[ht0];exact hr.dead) hG hlt0 ?_ ops.size _ N5 f a _ (by simp) (fun i=>?_) (fun j hj=>hj.elim) (by
  have:=List.countP_le_length (p:=fun b=>!b) (l:=(Array.replicate ops.size false).toList);simpa using this) ?_ ?_ ?_ hI.size rfl)
 · intro D f' a' w' hall hinv ginv sinv hsz hds;have hend:(T ops.size).h.base=(T 0).h.base:=(hF.base ops.size (M8 _)).1;have hlog:=fun i b hi hb=>(hF.base ops.size (M8 _)).2 i b hi hb;have hle:f.le f':=fun b i hb=>by rw[hinv.AM b (hlt0 b i hb)];exact hb
   have hn0:=hF.OA (BB ops.size) (M8 _);have cut:∀b,eh ops T D b ops.size:=fun b=>⟨M8 _,fun i hi _=>⟨fun _=>hi,fun _=>hall i hi⟩⟩
   have hrel:Z6 f' (T ops.size).h w':=by
    refine⟨fun b o i hb ho=>?_,fun b c i j hb hc lb lc e=>hinv.inj b c i j _ _ hb hc (cut b) (cut c) lb lc e,fun b i hb=>⟨?_,hinv.fresh b i hb⟩,hF.dead (by rw[ht0];exact hr.dead) ops.size (M8 _),?_⟩
    ·obtain⟨x,hx,hor⟩:=hinv.obj (fun _=>True) (fun _ _ _ _=>trivial) b ops.size i o hb (cut b) (fun _ _ _ _=>trivial) ho;exact⟨x,hx,hor.mono HD⟩
    · rcases hinv.AWY b i hb with h1|⟨j,h1,_,h3⟩
      ·omega
      ·exact hF.A1k h3 h1 (M8 _)
    grind
   have henv:Env f' (x9 ops ops.size) (T ops.size).lo tm a'.tmps:=fun t =>
    (sinv (fun _=>True) (fun _ _ _ _=>trivial) t ops.size ⟨M8 _,fun i o hi _=>⟨fun _=>(RY.1 hi).1,fun h=>hall i h⟩⟩ fun _ _ _ _ _=>trivial).mono HD
   refine hQ f' .normal a' w' ?_ ?_ (A2M henv hI.dead hsz) (by rw[hds];exact hD.mono hle) .normal
   · refine⟨by rw[hend,ht0],by rw[←ht0];exact hn0,fun b hb=>?_,fun b hb hnl'=>?_,fun b hb hd=>?_⟩
     · by_cases h0:ops.size=0
       ·rw[h0,ht0];exact hb
       ·exact hlog 0 b (by omega) (.inr (by rw[ht0];exact hb))
     ·rw[←ht0] at hb;have:=hF.AFV (i:=0) (hnl b hb) ops.size (by omega) fun k _ hk hL=>hnl' (hlog k b (by omega) (.inl ⟨hL,hb⟩));grind
     ·rw[←ht0] at hb hd;have:=hF.ARm (i:=0) hb hd ops.size (by omega);grind
   · refine⟨hr,hle,hrel,ginv.size,ginv.tape,ginv.os,ginv.out,fun c hc hh=>ginv.K7 c hc fun b i h1 h2 h3=>?_,fun b i h1 h2=>?_⟩
     ·grind
     ·obtain⟨g1,g2⟩:=ginv.news b i h1 h2;grind
 ·grind
 · refine⟨fun b i hb=>.inl (hlt0 b i hb),fun _ _=>rfl,fun S hS b m i o hb hc _ ho=>?_,fun b c i j m m' hb hc cb cc lb lc e=>?_,fun b i hb=>(hr.fresh b i hb).2⟩
   ·rw[hnone b m hc (hlt0 b i hb)] at ho;obtain⟨x,hx,hor⟩:=hr.obj b o i hb ho;exact⟨x,hx,hor.mono (hrle S)⟩
   ·rw[hnone b m cb (hlt0 b i hb)] at lb;rw[hnone c m' cc (hlt0 c j hc)] at lc;exact hr.inj b c i j hb hc lb lc e
 ·constructor<;>grind
 ·intro S hS t m hc _;have h1:Ev (A4j T ops.size f S) (x9 ops 0) [] tm a.tmps t:=(show Ev f [] [] tm a.tmps t from hI.env t).mono (hrle S);have:=hF.ARG (f:=A4j T ops.size f S) (tmps:=a.tmps) (t:=t) (i:=0) m (by have:=hc.1;omega) fun k o _ hk ho hd=>((hc.2 k o ho hd).2 (by omega)).elim;grind
end
end Abs
end Go
end
