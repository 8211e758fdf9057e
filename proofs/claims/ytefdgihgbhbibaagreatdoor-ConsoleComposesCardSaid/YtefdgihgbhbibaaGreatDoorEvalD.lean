/-
The evaluator is sound, fourth part: calls, deferred calls, drawn regions, and whole runs.
Conditions: none.
-/
import Derived.Defers
import Derived.Recover
import Derived.Test.YtefdgihgbhbibaaGreatDoorEvalC
set_option linter.unusedVariables false
set_option linter.unusedSimpArgs false
namespace Go
namespace cG
section
variable {P:Program}
theorem aDx {f:Map} {tm:T Value} {tmps:Array Value} (hE:Env f [] [] tm tmps) (t:Tmp):bS f (pS (tm.get (path t))) (tmps.getD t undef):=by
 cases h:tm.get (path t) with
 | none=>exact .aHR _
 | some v=>exact (hE t).2 rfl v h
def Pq (tmps:Array Value):ResultVar→Sem Value
 | .tmp t=>pure (tmps.getD t undef)
 | .cell a t=>do loadVar t (← asAddr (tmps.getD a undef))
theorem aOb {f:Map} {tm:T Value} {tmps:Array Value} {h:Hp} {w:World} {r:ResultVar} {v:Value} (hE:Env f [] [] tm tmps) (hr:gX f h w) (hk:x9 P [r]=true) {c:CR} (hc:qE P [r]=[c]) (hv:Ae c tm h=some v) :
 ∃ v',(Pq tmps r).run P w=.ok v' w∧bS f v v':=by
 cases r with
 | tmp t =>
  cases hc
  cases hv
  exact ⟨tmps.getD t undef,rfl,aDx hE t⟩
 | cell x t =>
  cases hc
  have hkt:isK P t=true:=by simpa [x9] using hk
  obtain ⟨d,hd⟩:=lR hkt
  have hx:=aDx hE x
  have hv':kO (pS (tm.get (path x))) (fun b o=>pU h b (fun c n _ _ _=>Bool.rec (motive:=fun _=>Option Value) (bif Nat.blt o n then c.get (path o) else none) (bif Nat.ble (Nat.add o (sz P t)) n then eC (cR c o (sz P t) []) (fun l=>some (.agg ⟨l⟩)) none else none) (eR P t)) none) none=some v:=hv
  rcases oW (pS (tm.get (path x))) (fun b o=>pU h b (fun c n _ _ _=>Bool.rec (motive:=fun _=>Option Value) (bif Nat.blt o n then c.get (path o) else none) (bif Nat.ble (Nat.add o (sz P t)) n then eC (cR c o (sz P t) []) (fun l=>some (.agg ⟨l⟩)) none else none) (eR P t)) none) none with ⟨ad,e,h1⟩|h1
  · rw [h1] at hv';rw [e] at hx
    obtain ⟨_,i,hi,hxe⟩:=hx.mX
    rcases Rj h ad.block (fun c n _ _ _=>Bool.rec (motive:=fun _=>Option Value) (bif Nat.blt ad.off n then c.get (path ad.off) else none) (bif Nat.ble (Nat.add ad.off (sz P t)) n then eC (cR c ad.off (sz P t) []) (fun l=>some (.agg ⟨l⟩)) none else none) (eR P t)) none with ⟨c,n,e',cl,ro,hat,h2⟩|h2
    · rw [h2] at hv'
      obtain ⟨ob,hob,hor⟩:=hr.obj _ _ i hi hat
      cases hagg:eR P t with
      | false =>
       rw [hagg] at hv'
       obtain ⟨h3,h4⟩:=dC hv'
       obtain ⟨v',h5,h6⟩:=hor.cell hob (Nat.blt_eq.mp h3) h4
       exact ⟨v',by simp [Pq,hxe,asAddr,loadVar,mY hagg hd,h5],h6⟩
      | true =>
       rw [hagg] at hv'
       obtain ⟨h3,h4⟩:=dC hv'
       obtain ⟨l,hl,h4⟩:=fN _ _ h4
       cases h4
       obtain ⟨_,l',h5,_,h6⟩:=yE (P:=P) hor hob (Nat.ble_eq.mp h3) hl
       exact ⟨.agg l'.toArray,by simp [Pq,hxe,asAddr,loadVar,pK hagg,run_sizeOf hd,h6],bS.Cu h5⟩
    · rw [h2] at hv';cases hv'
  · rw [h1] at hv';cases hv'
theorem aFq (r:ResultVar) (l:List ResultVar):∃ c,qE P (r::l)=c::qE P l∧qE P [r]=[c]:=by cases r<;>exact ⟨_,rfl,rfl⟩
theorem aOc {f:Map} {tm:T Value} {tmps:Array Value} {h:Hp} {w:World} (hE:Env f [] [] tm tmps) (hr:gX f h w):∀ (l:List ResultVar) (vs:List Value),x9 P l=true→aAR (qE P l) tm h=some vs→∃ vs',(l.mapM (Pq tmps)).run P w=.ok vs' w∧dA f vs vs':=by
 intro l
 induction l with
 | nil=>intro vs _ hv;cases hv;exact ⟨[],by simp,dA.nil f⟩
 | cons r l ih =>
  intro vs hk hv
  obtain ⟨c,hc,hc1⟩:=aFq (P:=P) r l
  rw [hc] at hv
  have hv':eC (Ae c tm h) (fun v=>eC (aAR (qE P l) tm h) (fun l=>some (v::l)) none) none=some vs:=hv
  obtain ⟨v,h1,hv'⟩:=fN _ _ hv'
  obtain ⟨us,h2,hv'⟩:=fN _ _ hv'
  cases hv'
  have hk2:x9 P [r]=true∧x9 P l=true:=by
   unfold x9 at hk ⊢
   rw [List.all_cons,Bool.and_eq_true] at hk
   exact ⟨by simpa using hk.1,hk.2⟩
  obtain ⟨v',h3,h4⟩:=aOb hE hr hk2.1 hc1 h1
  obtain ⟨us',h5,h6⟩:=ih us hk2.2 h2
  exact ⟨v'::us',by simp [List.mapM_cons,h3,h5],dA.cons h4 h6⟩
theorem aRA {f:Map} {tm:T Value} {tmps:Array Value} {h h':Hp} {w:World} {fn:Func} {v:Value} (hE:Env f [] [] tm tmps) (hr:gX f h w) (hk:x9 P fn.results.toList=true) (hv:Hr (qE P fn.results.toList) tm h=.val v h') :
 h'=h∧∃ v',(results fn tmps).run P w=.ok v' w∧bS f v v':=by
 unfold Hr at hv
 cases hvs:aAR (qE P fn.results.toList) tm h with
 | none=>rw [hvs] at hv;cases hv
 | some vs =>
  rw [hvs] at hv
  obtain ⟨vs',h1,h2⟩:=aOc hE hr _ vs hk hvs
  have hres:(results fn tmps).run P w=.ok (if h:vs'.toArray.size=1 then vs'.toArray[0] else .tuple vs'.toArray) w:=by
   have e:results fn tmps=(do let vs ← fn.results.mapM (Pq tmps);pure (if h:vs.size=1 then vs[0] else .tuple vs)):=by
    unfold results Pq
    rfl
   rw [e]
   simp [Array.mapM_eq_mapM_toList,h1]
  rw [hres]
  cases vs with
  | nil =>
   have:=h2.aDb;subst this
   cases hv
   exact ⟨rfl,_,rfl,by simpa using bS.oJ (dA.nil f)⟩
  | cons x r =>
   obtain ⟨x',r',rfl,hx,hrr⟩:=h2.Jr
   cases r with
   | nil =>
    have:=hrr.aDb;subst this
    cases hv
    exact ⟨rfl,x',by simp,hx⟩
   | cons y s =>
    obtain ⟨y',s',rfl,hy,hs⟩:=hrr.Jr
    cases hv
    refine ⟨rfl,_,rfl,?_⟩
    have:=bS.oJ h2
    simpa using this
inductive nV (f:Map):Md→FrameMode→Prop where
 | ret:nV f .ret .returning
 | qB {c c':List PanicEntry} (h:lQ f c c'):nV f (.qB c) (.panicking c')
theorem nV.mono {f g:Map} (hfg:f.le g) {m:Md} {u:FrameMode} (h:nV f m u):nV g m u:=by
 cases h with
 | ret=>exact .ret
 | qB h=>exact .qB (h.mono hfg)
def after (e:Ending) (u:FrameMode):FrameMode:=match e with
 | .returned _=>settle u
 | .panicked c=>raised u c
 | .outgrown=>u
def Dq (P:Program) (gs:List Nat) (cd:cE):Prop:=∀ (g:FuncId) (args args':List Value) (m:Md) (u:FrameMode) (f:Map) (h:Hp) (w:World),mC gs f→gX f h w→dA f args args'→nV f m u→match cd g args m h with
 | .none=>True
 | .ok m' h'=>Enters P g∧CallsD P g args'.toArray u w fun e u' w'=>∃ f',cV h h'∧cY f h w f' h' w'∧nV f' m' (after e u')∧e≠.outgrown
theorem aIv {gs:List Nat} {cd:cE} {live nt:Nat} {fn:Func} {tm:T Value} {tmps:Array Value} (hcd:Dq P gs cd) (hk:x9 P fn.results.toList=true):∀ (df:Df) (ds:List Deferred) (m:Md) (u:FrameMode) (h:Hp) (f:Map) (w:World),mC gs f→gX f h w→Inv live nt f tm tmps→xP f df ds→nV f m u →
 match leave cd (qE P fn.results.toList) df tm m h with
 | .none=>True
 | .val v h'=>∀ R:Ending→World→Prop,(∀ f' v' w',cV h h'→cY f h w f' h' w'→bS f' v v'→R (.returned v') w')→Leaves P fn tmps R ds u w
 | .panic c h'=>∀ R:Ending→World→Prop,(∀ f' c' w',cV h h'→cY f h w f' h' w'→lQ f' c c'→R (.panicked c') w')→Leaves P fn tmps R ds u w:=by
 intro df
 induction df with
 | nil =>
  intro ds m u h f w hG hr hI hD hM
  cases hD
  cases hM with
  | ret =>
   show match Hr (qE P fn.results.toList) tm h with|.none=>True|.val v h'=>_|.panic c h'=>_
   cases hx:Hr (qE P fn.results.toList) tm h with
   | none=>trivial
   | panic c h' =>
    exfalso
    unfold Hr at hx
    cases hvs:aAR (qE P fn.results.toList) tm h with
    | none=>rw [hvs] at hx;cases hx
    | some vs=>rw [hvs] at hx;cases vs with
     | nil=>cases hx
     | cons a b=>cases b<;>cases hx
   | val v h' =>
    obtain ⟨rfl,v',h1,h2⟩:=aRA hI.env hr hk hx
    exact fun R hR=>⟨v',h1,hR f v' w (cV.refl _) (cY.refl hr) h2⟩
  | qB hc=>exact fun R hR=>hR f _ w (cV.refl h) (cY.refl hr) hc
 | cons d df ih =>
  intro ds m u h f w hG hr hI hD hM
  obtain ⟨g,args⟩:=d
  cases hD with
  | @cons _ _ dd _ ds' cap ht ha hDr =>
  have hc:=hcd g args _ m u f h w hG hr ha hM
  show match (Fi.rec (motive:=fun _=>fV) .none (leave cd (qE P fn.results.toList) df tm) (cd g args m h)) with|.none=>True|.val v h'=>_|.panic c h'=>_
  revert hc
  cases cd g args m h with
  | none=>intro _;trivial
  | ok m' h' =>
   intro ⟨he,hc⟩
   obtain ⟨gfn,e1,e2,e3⟩:=he
   rw [Array.toArray_toList] at hc
   have hu:u≠.run:=by cases hM<;>simp
   have hinv:(invoke (.fn (.func g) cap) dd.args).run P w=.ok (.enter g (dd.args++cap)) w:=by
    have h4:gfn.name ≠ "runtime.NumGoroutine" := by simpa using e2
    simp [invoke,callFunc,e1,h4]
    intro hb;rw [hb] at e3;cases e3
   have hdd:dd={ target:=.fn (.func g) cap,args:=dd.args }:=by cases dd;cases ht;rfl
   have rest:=fun f' (u':FrameMode) w' (hA:cV h h') (hC:cY f h w f' h' w') (hm:nV f' m' u')=>ih ds' m' u' h' f' w' (hG.mono hC.le) hC.rel (hI.mono hC.le) (hDr.mono hC.le) hm
   show match leave cd (qE P fn.results.toList) df tm m' h' with|.none=>True|.val v h'=>_|.panic c h'=>_
   revert rest
   cases leave cd (qE P fn.results.toList) df tm m' h' with
   | none=>intro _;trivial
   | val v h2 =>
    intro rest R hR
    rw [hdd]
    refine leaves_cons hu hinv (CallsD.mono hc fun e u' w' he=>?_)
    obtain ⟨f',hA,hC,hm,hne⟩:=he
    cases e with
    | returned v0=>exact rest f' _ w' hA hC hm R fun f2 v2 w2 hA2 hC2 hv2=>hR f2 v2 w2 (hA.trans hA2) (hC.trans hA hA2 hC2) hv2
    | panicked c0=>exact rest f' _ w' hA hC hm R fun f2 v2 w2 hA2 hC2 hv2=>hR f2 v2 w2 (hA.trans hA2) (hC.trans hA hA2 hC2) hv2
    | outgrown=>exact absurd rfl hne
   | panic c h2 =>
    intro rest R hR
    rw [hdd]
    refine leaves_cons hu hinv (CallsD.mono hc fun e u' w' he=>?_)
    obtain ⟨f',hA,hC,hm,hne⟩:=he
    cases e with
    | returned v0=>exact rest f' _ w' hA hC hm R fun f2 v2 w2 hA2 hC2 hv2=>hR f2 v2 w2 (hA.trans hA2) (hC.trans hA hA2 hC2) hv2
    | panicked c0=>exact rest f' _ w' hA hC hm R fun f2 v2 w2 hA2 hC2 hv2=>hR f2 v2 w2 (hA.trans hA2) (hC.trans hA hA2 hC2) hv2
    | outgrown=>exact absurd rfl hne
end
section
variable {P:Program}
theorem rG {R:Type} (l:List Value) (i:Nat) (t:T Value) (k:T Value→R):Al l i t k=aL l i t k:=rfl
theorem Ay {live na t:Nat} (h:mU live na=true) (ht:t<na):bit live t=true:=by
 unfold mU at h
 exact List.all_eq_true.1 h t (by simpa using ht)
theorem Pr {live nt na:Nat} {f:Map} {args args':List Value} (hl:dA f args args') (hna:args.length=na) (hnt:na≤nt) (hok:mU live na=true) :
 Inv live nt f (aL args 0 .nil fun t=>t) (args'.toArray++Array.replicate (nt - args'.toArray.size) undef):=by
 have hsz:args'.length=na:=by rw [← hl.1];exact hna
 refine ⟨fun t=>⟨fun i hi=>(by cases hi),fun _ v hv=>?_⟩,fun t ht=>?_,?_⟩
 · rw [oN] at hv
   split at hv
   · rename_i h1
     obtain ⟨v',h2,h3⟩:=hl.2 t v (by simpa using hv)
     have h4:@LT.lt Nat _ t args'.toArray.size:=by
      rw [List.size_toArray,hsz,← hna]
      have:=h1.2
      rwa [Nat.zero_add] at this
     have h5:(args'.toArray++Array.replicate (nt - args'.toArray.size) undef).getD t undef=v':=by
      rw [Array.getD_eq_getD_getElem?,Array.getElem?_append_left h4]
      simp [h2]
     rw [h5];exact h3
   · cases hv
 · rw [oN]
   split
   · rename_i h1
     have:=Ay hok (t:=t) (by omega)
     rw [ht] at this;cases this
   · rfl
 · simp [hsz];omega
theorem Rq {cx:Cx} {call:Call} {cd:cE} (hX:xO P cx) (hdraw:tL P cx) (hcall:gW P cx.gs call) (hcd:Dq P cx.gs cd):gW P cx.gs (fun g args h=>dD (cF P cx g) call cd args h):=by
 intro g args args' f h w hG hr hl
 show match dD (cF P cx g) call cd args h with|.none=>True|.val v h'=>_|.panic c h'=>_
 have hcF:cF P cx g=match P.funcs[g]? with
  | some fn=>match fn.body with
   | some c=>bif fn.name == "runtime.NumGoroutine" then .bad else bN (reads c (Pe (Rb fn.results.toList) (Nat.sub (Nat.pow 2 (fn.params.size+fn.nfree)) 1))) fun live =>
    bif mU live (fn.params.size+fn.nfree) && x9 P fn.results.toList then .mk fn.ntmps (fn.params.size+fn.nfree) (kU P cx live fn.ntmps c) (qE P fn.results.toList) else .bad
   | none=>.bad
  | none=>.bad:=rfl
 rw [hcF]
 cases hfn:P.funcs[g]? with
 | none=>trivial
 | some fn =>
 cases hb:fn.body with
 | none=>dsimp only;rw [hb];trivial
 | some c =>
 dsimp only
 rw [hb]
 dsimp only
 cases hname:(fn.name == "runtime.NumGoroutine") with
 | true=>trivial
 | false =>
 rw [cond_false,bD]
 generalize reads c (Pe (Rb fn.results.toList) (Nat.sub (Nat.pow 2 (fn.params.size+fn.nfree)) 1))=live
 generalize fn.params.size+fn.nfree=na
 cases hok:(mU live na && x9 P fn.results.toList) with
 | false=>trivial
 | true =>
 rw [Bool.and_eq_true] at hok
 obtain ⟨ho1,ho2⟩:=hok
 show match (bif Nat.beq (len args) na && Nat.ble na fn.ntmps then Al args 0 .nil fun tm=>eL.rec (motive:=fun _=>fV) .none (fun e tm df h=>Ex.rec (motive:=fun _=>fV) (leave cd (qE P fn.results.toList) df tm .ret h) (fun _=>.none) (leave cd (qE P fn.results.toList) df tm .ret h) (fun c=>leave cd (qE P fn.results.toList) df tm (.qB c) h) e) (iP (kU P cx live fn.ntmps c) call tm [] h) else .none) with|.none=>True|.val v h'=>_|.panic c h'=>_
 cases hn:(Nat.beq (len args) na && Nat.ble na fn.ntmps) with
 | false=>trivial
 | true =>
 rw [Bool.and_eq_true] at hn
 have hn1:=Nat.eq_of_beq_eq_true hn.1
 have hn2:=Nat.ble_eq.mp hn.2
 rw [eF] at hn1
 rw [cond_true,rG,kL]
 have hent:Enters P g:=⟨fn,hfn,hname,by rw [hb];rfl⟩
 have hI:=Pr hl hn1 hn2 ho1
 have hcode:=aDw (live:=live) (nt:=fn.ntmps) hX hdraw hcall c (aL args 0 .nil fun t=>t) [] h f { tmps:=args'.toArray++Array.replicate (fn.ntmps - args'.toArray.size) undef,defers:=[] } w hG hI hr .nil
 revert hcode
 cases iP (kU P cx live fn.ntmps c) call (aL args 0 .nil fun t=>t) [] h with
 | none=>intro _;trivial
 | ok e tm1 Vw h1 =>
  intro hcode
  have fin:∀ (m:Md) (hm:∀ R,∀ f' e' (a':Act) w',aBe f' e e'→(∀ u,nV f' m u→Leaves P fn a'.tmps R a'.defers u w')→bodyPostD P fn R e' a' w'),
   match leave cd (qE P fn.results.toList) Vw tm1 m h1 with
   | .none=>True
   | .val v h'=>Enters P g∧Calls P g args'.toArray w fun | .returned v',w'=>∃ f',cV h h'∧cY f h w f' h' w'∧bS f' v v' | _,_=>False
   | .panic c h'=>Enters P g∧Calls P g args'.toArray w fun | .panicked c',w'=>∃ f',cV h h'∧cY f h w f' h' w'∧lQ f' c c' | _,_=>False:=fun m hm=>by
   have hlv:=fun f' (a':Act) w' (hA:cV h h1) (hC:cY f h w f' h1 w') (hI1:Inv live fn.ntmps f' tm1 a'.tmps) (hD1:xP f' Vw a'.defers) (u:FrameMode) (hu:nV f' m u) =>
    aIv (P:=P) (fn:=fn) hcd ho2 Vw a'.defers m u h1 f' w' (hG.mono hC.le) hC.rel hI1 hD1 hu
   revert hlv
   cases leave cd (qE P fn.results.toList) Vw tm1 m h1 with
   | none=>intro _;trivial
   | val v h2 =>
    intro hlv
    refine ⟨hent,calls_of_wp_defers hfn hb (hcode _ fun f' e' a' w' hA hC hI1 hD1 hX=>hm _ f' e' a' w' hX fun u hu=>?_)⟩
    exact hlv f' a' w' hA hC hI1 hD1 u hu _ fun f2 v2 w2 hA2 hC2 hv2=>⟨f2,hA.trans hA2,hC.trans hA hA2 hC2,hv2⟩
   | panic c0 h2 =>
    intro hlv
    refine ⟨hent,calls_of_wp_defers hfn hb (hcode _ fun f' e' a' w' hA hC hI1 hD1 hX=>hm _ f' e' a' w' hX fun u hu=>?_)⟩
    exact hlv f' a' w' hA hC hI1 hD1 u hu _ fun f2 v2 w2 hA2 hC2 hv2=>⟨f2,hA.trans hA2,hC.trans hA hA2 hC2,hv2⟩
  cases e with
  | normal=>exact fin .ret fun R f' e' a' w' hX hl=>by cases hX;exact hl _ .ret
  | ret=>exact fin .ret fun R f' e' a' w' hX hl=>by cases hX;exact hl _ .ret
  | exit i=>trivial
  | panic c0=>exact fin (.qB c0) fun R f' e' a' w' hX hl=>by cases hX with | panic hc=>exact hl _ (.qB hc)
end
section
variable {P:Program}
theorem lQ.append {f:Map} {a a' b b':List PanicEntry} (h:lQ f a a') (k:lQ f b b'):lQ f (a++b) (a'++b'):=by
 induction h with
 | nil=>exact k
 | cons h _ ih=>exact .cons h ih
theorem lQ.aUA {f:Map} {a a':List PanicEntry} (h:lQ f a a'):lQ f (a.dropWhile fun e=>!e.goexit) (a'.dropWhile fun e=>!e.goexit):=by
 induction h with
 | nil=>exact .nil
 | @cons e e' c c' h hc ih =>
  rw [List.dropWhile_cons,List.dropWhile_cons,h.2.2]
  split
  · exact ih
  · exact .cons h hc
theorem nV.raised {f:Map} {m:Md} {u:FrameMode} {c c':List PanicEntry} (h:nV f m u) (hc:lQ f c c'):nV f (Iw m c) (Go.raised u c'):=by
 cases h with
 | ret=>exact .qB hc
 | qB h=>exact .qB (hc.append h)
theorem nV.settle {f:Map} {m:Md} {u:FrameMode} (h:nV f m u):nV f (sJ m) (Go.settle u):=by
 cases h with
 | ret=>exact .ret
 | qB h =>
  cases h with
  | nil=>exact .qB .nil
  | @cons e e' c c' h hc =>
   obtain ⟨v,r,g⟩:=e
   obtain ⟨v',r',g'⟩:=e'
   obtain ⟨hv,hr,hg⟩:=h
   dsimp only at hr hg hv
   subst hr;subst hg
   cases r with
   | false=>exact .qB (.cons ⟨hv,rfl,rfl⟩ hc)
   | true =>
    have hd:=hc.aUA
    show nV f (match c.dropWhile (fun e=>!e.goexit) with|[]=>.ret|l=>.qB l) (match c'.dropWhile (fun e=>!e.goexit) with|[]=>.returning|rest=>.panicking rest)
    generalize c.dropWhile (fun e=>!e.goexit)=x at *
    generalize c'.dropWhile (fun e=>!e.goexit)=y at *
    cases hd with
    | nil=>exact .ret
    | cons h1 h2=>exact .qB (.cons h1 h2)
theorem aIw {cx:Cx} (hX:xO P cx) (hdraw:tL P cx) (hD:∀ call,gW P cx.gs call→Dq P cx.gs (fun g=>yB (Uz P cx g) call)):∀ n,gW P cx.gs (Va P cx n):=by
 intro n
 induction n with
 | zero=>intro g args args' f h w _ _ _;trivial
 | succ n ih=>exact Rq hX hdraw ih (hD _ ih)
end
section
variable {P:Program}
theorem aOd {f:Map} {m:Md} {u:FrameMode} (c:Frame) (cs:List Frame) (hc:c.mode=u) (h:nV f m u) :
 ∃ v' u',bS f (yA m).1 v'∧nV f (yA m).2 u'∧((recoverD (c::cs)=some (v',{ c with mode:=u' }::cs))∨(recoverD (c::cs)=none∧v'=.nilIface∧u'=u)):=by
 cases h with
 | ret=>exact ⟨.nilIface,.returning,.nilIface,.ret,.inr ⟨by simp [recoverD,hc],rfl,rfl⟩⟩
 | qB hh =>
  cases hh with
  | nil=>exact ⟨.nilIface,.panicking [],.nilIface,.qB .nil,.inr ⟨by simp [recoverD,hc],rfl,rfl⟩⟩
  | @cons e e' r r' h hr =>
   obtain ⟨v,rc,g⟩:=e
   obtain ⟨v',rc',g'⟩:=e'
   obtain ⟨hv,h2,h3⟩:=h
   dsimp only at h2 h3 hv
   subst h2;subst h3
   cases rc with
   | true=>exact ⟨.nilIface,.panicking ({ v:=v',recovered:=true,goexit:=g }::r'),.nilIface,.qB (.cons ⟨hv,rfl,rfl⟩ hr),.inr ⟨by simp [recoverD,hc],rfl,rfl⟩⟩
   | false =>
    cases g with
    | true=>exact ⟨.nilIface,.panicking ({ v:=v',recovered:=false,goexit:=true }::r'),.nilIface,.qB (.cons ⟨hv,rfl,rfl⟩ hr),.inr ⟨by simp [recoverD,hc],rfl,rfl⟩⟩
    | false=>exact ⟨v',.panicking ({ v:=v',recovered:=true }::r'),hv,.qB (.cons ⟨hv,rfl,rfl⟩ hr),.inl (by simp [recoverD,hc])⟩
def Ul (P:Program) (live nt:Nat) (f:Map) (h:Hp) (w:World) (c₀:Frame) (cs:List Frame) (r:mB) (wp:(Exit→Act→List Frame→World→Prop)→Prop):Prop:=match r with
 | .none=>True
 | .ok e tm m h'=>∀ Q:Exit→Act→List Frame→World→Prop,(∀ f' e' a' u' w',cV h h'→cY f h w f' h' w'→Inv live nt f' tm a'.tmps→a'.defers=[]→nV f' m u'→aBe f' e e'→Q e' a' ({ c₀ with mode:=u' }::cs) w')→wp Q
theorem aFr {cx:Cx} {live nt:Nat} {call:Call} {cc:CC} {c:Code} {c₀:Frame} {cs:List Frame} {m:Md} {u:FrameMode} {tm:T Value} {h:Hp} {f:Map} {a:Act} {w:World}
 (hM:nV f m u) (hcode:xQ live nt f h w (iP cc call tm [] h) (fun Q=>c.wp P Q a w)):Ul P live nt f h w c₀ cs (Au cc call tm m h) (fun Q=>c.wpS P Q a ({ c₀ with mode:=u }::cs) w):=by
 unfold Au
 revert hcode
 cases iP cc call tm [] h with
 | none=>intro _;trivial
 | ok e tm1 df h1 =>
  cases df with
  | cons d df=>intro _;trivial
  | nil =>
   intro hcode Q hQ
   refine wpS_of_wp (hcode _ fun f' e' a' w' hA hC hI hD hX=>?_)
   have hd:a'.defers=[]:=by
    generalize a'.defers=ds at hD
    cases hD;rfl
   exact hQ f' e' a' u w' hA hC hI hd (hM.mono hC.le) hX
end
section
variable {P:Program}
theorem Vx {o:Oper} (ρ:Operand→Value) (w:World) {args:Array Operand} {ats:Array TypeId} (ho:o.op=.call { callee:=.builtin .recover,args:=args,argTypes:=ats }):(execOp ρ o).run P w=.ok .recover w:=by
 obtain ⟨cs,hr⟩:=iC (P:=P) ρ w ho
 rw [hr]
 simp [builtin]
theorem Rr {o:Oper} (h:kJ o=true):∃ args ats,o.op=.call { callee:=.builtin .recover,args:=args,argTypes:=ats }:=by
 unfold kJ at h
 split at h
 · rename_i args ats hh;exact ⟨_,_,hh⟩
 · cases h
noncomputable def aRB (d:Option Tmp) (tm:T Value) (v:Value):T Value:=Option.rec (motive:=fun _=>T Value) tm (fun t=>T.set (path t) tm (some v)) d
theorem Inv.put {live nt:Nat} {f:Map} {tm:T Value} {a:Act} {d:Option Tmp} {v v':Value} (hI:Inv live nt f tm a.tmps) (hv:bS f v v') (hok:mU live nt=true) (hd:∀ t,d=some t→t<nt) :
 Inv live nt f (aRB d tm v) (a.put d v').tmps:=by
 cases d with
 | none=>exact hI
 | some t =>
  have ht:=hd t rfl
  refine ⟨fun s=>⟨fun i hi=>(by cases hi),fun _ u hu=>?_⟩,fun s hs=>?_,by rw [lB];exact hI.size⟩
  · change (T.set (path t) tm (some v)).get (path s)=some u at hu
    rw [gC] at hu
    by_cases e:t=s
    · subst e
      rw [if_pos rfl] at hu;cases hu
      have:(a.put (some t) v').tmps.getD t undef=v':=by
       show (a.tmps.setIfInBounds t v').getD t undef=v'
       simp [Array.getD_eq_getD_getElem?,hI.size,ht]
      rw [this];exact hv
    · rw [if_neg e] at hu
      have:(a.put (some t) v').tmps.getD s undef=a.tmps.getD s undef:=by
       show (a.tmps.setIfInBounds t v').getD s undef=_
       simp [Array.getD_eq_getD_getElem?,e]
      rw [this];exact (hI.env s).2 rfl u hu
  · show (T.set (path t) tm (some v)).get (path s)=none
    rw [gC]
    by_cases e:t=s
    · subst e
      have:=Ay hok ht
      rw [hs] at this;cases this
    · rw [if_neg e];exact hI.dead s hs
theorem Vy {ops:Array Oper} {o:Oper} {k:Nat} {rest:List Nat} {a:Act} {w:World} {cs:List Frame} {Q:Exit→Act→List Frame→World→Prop} (hok:ops[k]?=some o) (hg:o.guard=none)
 (h:o.wp P a w (fun a' w'=>wpOpsS P ops Q rest a' cs w') (fun e a' w'=>Q e a' cs w')):wpOpsS P ops Q (k::rest) a cs w:=by
 have hwant:Region.wanted o (yielded ops a.tmps)=true:=by unfold Region.wanted;rw [hg]
 unfold Oper.wp at h
 simp only [wpOpsS,hok,hwant,if_true]
 revert h
 generalize (execOp a.eval o).run P w=r
 intro h
 split
 · exact h.elim
 · exact h
theorem Og {ops:Array Oper} {o:Oper} {k:Nat} {rest:List Nat} {a:Act} {w:World} {cs:List Frame} {Q:Exit→Act→List Frame→World→Prop} (hok:ops[k]?=some o) (hg:o.guard=none) (hrec:kJ o=true)
 {v':Value} {cs':List Frame} (hr:recoverD cs=some (v',cs')∨(recoverD cs=none∧v'=.nilIface∧cs'=cs)) (h:wpOpsS P ops Q rest (a.put o.dst v') cs' w):wpOpsS P ops Q (k::rest) a cs w:=by
 have hwant:Region.wanted o (yielded ops a.tmps)=true:=by unfold Region.wanted;rw [hg]
 obtain ⟨args,ats,ho⟩:=Rr hrec
 simp only [wpOpsS,hok,hwant,if_true,Vx a.eval w ho]
 rcases hr with hr|⟨hr,rfl,rfl⟩
 · rw [hr];exact h
 · rw [hr];exact h
theorem aIx {o:Oper} {a:Act} {w:World} {K:Act→World→Prop} {Q Q':Exit→Act→World→Prop} (h:o.wp P a w K Q) (hp:∀ c a w,Q (.panic c) a w→Q' (.panic c) a w) (ho:LetsOut Q→LetsOut Q'):o.wp P a w K Q':=by
 unfold Oper.wp at *
 generalize (execOp a.eval o).run P w=r at *
 cases r with
 | ok n w' =>
  cases n<;>simp only [Oper.upon] at h ⊢ <;>
   first
    | exact h
    | exact Calls.mono h (fun e w'' he=>by cases e<;>first | exact he | exact hp _ _ _ he | exact ho he)
 | halt x w'=>cases x<;>simp only [Oper.upon] at h ⊢<;>first | exact hp _ _ _ h | exact h
theorem Ul.seq {live nt:Nat} {f:Map} {h:Hp} {w:World} {c₀:Frame} {cs:List Frame} {r:mB} {wp1 wp:(Exit→Act→List Frame→World→Prop)→Prop} {kn:T Value→Md→Hp→mB} {nx:(Exit→Act→List Frame→World→Prop)→Act→List Frame→World→Prop}
 (h1:Ul P live nt f h w c₀ cs r wp1)
 (hn:∀ tm m u h1 f1 a1 w1,cV h h1→cY f h w f1 h1 w1→Inv live nt f1 tm a1.tmps→a1.defers=[]→nV f1 m u→Ul P live nt f1 h1 w1 c₀ cs (kn tm m h1) (fun Q=>nx Q a1 ({ c₀ with mode:=u }::cs) w1))
 (hw:∀ Q,wp1 (Exit.thenS (nx Q) Q)→wp Q) :
 Ul P live nt f h w c₀ cs (mB.rec (motive:=fun _=>mB) .none (fun e tm m h=>Ex.rec (motive:=fun _=>mB) (kn tm m h) (fun i=>.ok (.exit i) tm m h) (.ok .ret tm m h) (fun c=>.ok (.panic c) tm m h) e) r) wp:=by
 cases r with
 | none=>trivial
 | ok e tm m h' =>
  cases e with
  | normal =>
   show Ul P live nt f h w c₀ cs (kn tm m h') wp
   have hn':=fun u=>hn tm m u h'
   revert hn'
   cases kn tm m h' with
   | none=>intro _;trivial
   | ok e2 tm2 m2 h2 =>
    intro hn' Q hQ
    refine hw Q (h1 _ fun f' e' a' u' w' hA hC hI hD hM hX=>?_)
    cases hX
    exact hn' u' f' a' w' hA hC hI hD hM Q fun f2 e2 a2 u2 w2 hA2 hC2 hI2 hD2 hM2 hX2=>hQ f2 e2 a2 u2 w2 (hA.trans hA2) (hC.trans hA hA2 hC2) hI2 hD2 hM2 hX2
  | exit i=>exact fun Q hQ=>hw Q (h1 _ fun f' e' a' u' w' hA hC hI hD hM hX=>by cases hX;exact hQ f' _ a' u' w' hA hC hI hD hM (.exit i))
  | ret=>exact fun Q hQ=>hw Q (h1 _ fun f' e' a' u' w' hA hC hI hD hM hX=>by cases hX;exact hQ f' _ a' u' w' hA hC hI hD hM .ret)
  | panic c=>exact fun Q hQ=>hw Q (h1 _ fun f' e' a' u' w' hA hC hI hD hM hX=>by cases hX with | panic hc=>exact hQ f' _ a' u' w' hA hC hI hD hM (.panic hc))
theorem aBi {live nt:Nat} {call:Call} {cc:CC} {c₀:Frame} {cs:List Frame} {m:Md} {u:FrameMode} {tm:T Value} {h:Hp} {f:Map} {w:World} {wp:(Exit→Act→World→Prop)→Prop}
 (hM:nV f m u) (hcode:xQ live nt f h w (iP cc call tm [] h) wp):Ul P live nt f h w c₀ cs (Au cc call tm m h) (fun Q=>wp (fun e a' w'=>Q e a' ({ c₀ with mode:=u }::cs) w')):=by
 unfold Au
 revert hcode
 cases iP cc call tm [] h with
 | none=>intro _;trivial
 | ok e tm1 df h1 =>
  cases df with
  | cons d df=>intro _;trivial
  | nil =>
   intro hcode Q hQ
   refine hcode _ fun f' e' a' w' hA hC hI hD hX=>?_
   have hd:a'.defers=[]:=by
    generalize a'.defers=ds at hD
    cases hD;rfl
   exact hQ f' e' a' u w' hA hC hI hd (hM.mono hC.le) hX
theorem aRC {cx:Cx} {nt all:Nat} {call:Call} {o:Oper} (hX:xO P cx) (hcall:gW P cx.gs call) (hg:o.guard=none) {tm:T Value} {h:Hp} {f:Map} {a:Act} {w:World} {c₀:Frame} {cs:List Frame} {m:Md} {u:FrameMode}
 (hG:mC cx.gs f) (hI:Inv all nt f tm a.tmps) (hr:gX f h w) (hD:a.defers=[]) (hM:nV f m u) :
 Ul P all nt f h w c₀ cs (Au (.region (sA P cx all nt #[o] [o] [])) call tm m h) (fun Q=>o.wp P a w (fun a' w'=>Q .normal a' ({ c₀ with mode:=u }::cs) w') (fun e a' w'=>Q e a' ({ c₀ with mode:=u }::cs) w')):=by
 have hcons:sA P cx all nt #[o] [o] []=bif oF nt o.dst then (match o.guard with
  | none=>(match o.op with
   | .defer cl=>(match cl.callee with
    | .value f=>.dfr (aU cx.gs [] f) (cl.args.toList.map (aU cx.gs [])) (mA all [o.dst] [o.dst] 0)
    | _=>.bad)
   | _=>Ux (all,[]) (uC P cx [] o) (mA all [o.dst] [o.dst] 0))
  | some (j,want)=>match ((#[o]:Array Oper)[j]?).bind (·.dst) with
   | some d=>.guard (all,[]) (aU cx.gs [] (.tmp d)) want (uC P cx [] o) (mA all [o.dst] [o.dst] 0)
   | none=>.bad) else .bad:=rfl
 have hDr:xP f [] a.defers:=by rw [hD];exact .nil
 rw [hcons]
 cases hdst:oF nt o.dst with
 | false=>trivial
 | true =>
 have hdst':∀ t,o.dst=some t→t<nt:=fun t ht=>by
  unfold oF at hdst;rw [ht] at hdst
  exact Nat.blt_eq.mp hdst
 rw [cond_true,hg]
 dsimp only
 split
 · rename_i cl hcl
   split
   · rename_i x hx
     show Ul P all nt f h w c₀ cs (eL.rec (motive:=fun _=>mB) .none (fun e tm df h=>List.rec (motive:=fun _=>mB) (.ok e tm m h) (fun _ _ _=>.none) df) (vFn (bW (aU cx.gs [] x) [] tm) (fun g first cap=>oV (mA all [o.dst] [o.dst] 0) call [undef] tm [(g,first++(Co (cl.args.toList.map (aU cx.gs [])) [] tm++cap))] h) .none)) _
     rcases aAS (bW (aU cx.gs [] x) [] tm) (fun g first cap=>oV (mA all [o.dst] [o.dst] 0) call [undef] tm [(g,first++(Co (cl.args.toList.map (aU cx.gs [])) [] tm++cap))] h) eL.none with ⟨g,fi,cp,e,h1⟩|h1
     · rw [h1,Fv];trivial
     · rw [h1];trivial
   · trivial
 · refine aBi (wp:=fun Q=>o.wp P a w (fun a' w'=>Q .normal a' w') Q) hM ?_
   show xQ all nt f h w (oV (Ux (all,[]) (uC P cx [] o) (mA all [o.dst] [o.dst] 0)) call [] tm [] h) _
   rw [Po]
   refine aDv (K:=fun Q a w=>Q .normal a w) hcall (Ro hX) hG hI.env hI.dead hI.size hr hDr hdst' fun v v' h1 f1 w1 hC hA hE1 hr1 hD1=>?_
   rw [Fv]
   intro Q hQ
   exact hQ f1 .normal _ w1 (cV.refl h1) (cY.refl hr1) (Rp hE1 hI.dead (by rw [lB];exact hI.size)) hD1 .normal
theorem Vz {cx:Cx} {nt all:Nat} {call:Call} {ops:Array Oper} (hX:xO P cx) (hcall:gW P cx.gs call) (hall:mU all nt=true) (hng:∀ o∈ops.toList,o.guard=none) (c₀:Frame) (cs:List Frame):∀ (l:List Oper) (k:Nat),ops.toList.drop k=l →
 ∀ (tm:T Value) (m:Md) (u:FrameMode) (h:Hp) (f:Map) (a:Act) (w:World),mC cx.gs f→Inv all nt f tm a.tmps→gX f h w→a.defers=[]→nV f m u →
 Ul P all nt f h w c₀ cs (xN (kC P cx nt all l) call tm m h) (fun Q=>wpOpsS P ops Q (List.range' k l.length) a ({ c₀ with mode:=u }::cs) w):=by
 intro l
 induction l with
 | nil =>
  intro k _ tm m u h f a w hG hI hr hD hM Q hQ
  exact hQ f .normal a u w (cV.refl h) (cY.refl hr) hI hD hM .normal
 | cons o l ih =>
  intro k hk tm m u h f a w hG hI hr hD hM
  have hok:ops[k]?=some o:=by
   have:=congrArg (fun l=>l[0]?) hk
   simpa using this
  have hk':ops.toList.drop (k+1)=l:=by
   have:=congrArg (List.drop 1) hk
   simpa [List.drop_drop,Nat.add_comm] using this
  have hg:o.guard=none:=hng o (by have:=List.mem_of_getElem? (l:=ops.toList) (i:=k) (a:=o) (by simpa using hok);exact this)
  rw [List.length_cons,List.range'_succ]
  have hsplit:kC P cx nt all (o::l)=bif kJ o then (bif (match o.guard with|none=>oF nt o.dst|some _=>false) then .seq (.Kc (o.dst.map path)) (kC P cx nt all l) else .plain .bad)
   else .seq (.plain (.region (sA P cx all nt #[o] [o] []))) (kC P cx nt all l):=rfl
  rw [hsplit]
  cases hrec:kJ o with
  | true =>
   rw [cond_true,hg]
   dsimp only
   cases hdst:oF nt o.dst with
   | false=>trivial
   | true =>
   have hdst':∀ t,o.dst=some t→t<nt:=fun t ht=>by
    unfold oF at hdst;rw [ht] at hdst
    exact Nat.blt_eq.mp hdst
   rw [cond_true]
   obtain ⟨v',u',hv,hM',hrd⟩:=aOd { c₀ with mode:=u } cs rfl hM
   have hI':=Inv.put hI hv hall hdst'
   have hrest:=ih (k+1) hk' _ (yA m).2 u' h f (a.put o.dst v') w hG hI' hr (by rw [put_defers];exact hD) hM'
   have e:xN (.seq (.Kc (o.dst.map path)) (kC P cx nt all l)) call tm m h=xN (kC P cx nt all l) call (aRB o.dst tm (yA m).1) (yA m).2 h:=by
    cases hd:o.dst with
    | none=>rfl
    | some t =>
     show mB.rec (motive:=fun _=>mB) .none _ (T.tD (path t) tm (some (yA m).1) fun tm=>.ok .normal tm (yA m).2 h)=_
     rw [T.iA];rfl
   rw [e]
   revert hrest
   cases xN (kC P cx nt all l) call (aRB o.dst tm (yA m).1) (yA m).2 h with
   | none=>intro _;trivial
   | ok e2 tm2 m2 h2 =>
    intro hrest Q hQ
    refine Og hok hg hrec (v':=v') (cs':={ c₀ with mode:=u' }::cs) ?_ (hrest Q hQ)
    rcases hrd with h1|⟨h1,h2,h3⟩
    · exact .inl h1
    · exact .inr ⟨h1,h2,by rw [h3]⟩
  | false =>
   exact Ul.seq (nx:=fun Q a cs w=>wpOpsS P ops Q (List.range' (k+1) l.length) a cs w) (aRC hX hcall hg hG hI hr hD hM)
    (fun tm m u h1 f1 a1 w1 hA hC hI1 hD1 hM1=>ih (k+1) hk' tm m u h1 f1 a1 w1 (hG.mono hC.le) hI1 hC.rel hD1 hM1)
    (fun Q hQ=>Vy hok hg (aIx hQ (fun _ _ _ h=>h) (fun h=>h)))
end
section
variable {P:Program}
theorem aUB {cx:Cx} {nt all:Nat} {call:Call} (hX:xO P cx) (hdraw:tL P cx) (hcall:gW P cx.gs call) (hall:mU all nt=true) (c₀:Frame) (cs:List Frame):∀ (c:Code) (tm:T Value) (m:Md) (u:FrameMode) (h:Hp) (f:Map) (a:Act) (w:World),mC cx.gs f→Inv all nt f tm a.tmps→gX f h w→a.defers=[]→nV f m u →
 Ul P all nt f h w c₀ cs (xN (cS P cx all nt c) call tm m h) (fun Q=>c.wpS P Q a ({ c₀ with mode:=u }::cs) w):=by
 intro c
 have plain:∀ (c:Code) (tm:T Value) (m:Md) (u:FrameMode) (h:Hp) (f:Map) (a:Act) (w:World),mC cx.gs f→Inv all nt f tm a.tmps→gX f h w→a.defers=[]→nV f m u →
  Ul P all nt f h w c₀ cs (Au (kU P cx all nt c) call tm m h) (fun Q=>c.wpS P Q a ({ c₀ with mode:=u }::cs) w):=fun c tm m u h f a w hG hI hr hD hM =>
  aFr (cx:=cx) hM (aDw hX hdraw hcall c tm [] h f a w hG hI hr (by rw [hD];exact .nil))
 induction c with
 | seq x y ihx ihy =>
  intro tm m u h f a w hG hI hr hD hM
  exact Ul.seq (nx:=fun Q a cs w=>y.wpS P Q a cs w) (ihx tm m u h f a w hG hI hr hD hM) (fun tm m u h1 f1 a1 w1 hA hC hI1 hD1 hM1=>ihy tm m u h1 f1 a1 w1 (hG.mono hC.le) hI1 hC.rel hD1 hM1) (fun Q h=>wpS_seq h)
 | cond c x y ihx ihy =>
  intro tm m u h f a w hG hI hr hD hM
  have hc:=bJ hG hI.env c
  show Ul P all nt f h w c₀ cs (kZ (bW (aU cx.gs [] c) [] tm) (fun t=>Bool.rec (motive:=fun _=>mB) (xN (cS P cx all nt y) call tm m h) (xN (cS P cx all nt x) call tm m h) t) .none) _
  rcases rC (bW (aU cx.gs [] c) [] tm) (fun t=>Bool.rec (motive:=fun _=>mB) (xN (cS P cx all nt y) call tm m h) (xN (cS P cx all nt x) call tm m h) t) .none with ⟨b,e,h1⟩|h1
  · rw [h1];rw [e] at hc
    have hb:=hc.sM
    cases b with
    | true =>
     have:=ihx tm m u h f a w hG hI hr hD hM
     show Ul P all nt f h w c₀ cs (xN (cS P cx all nt x) call tm m h) _
     revert this
     cases xN (cS P cx all nt x) call tm m h with
     | none=>intro _;trivial
     | ok e2 tm2 m2 h2=>intro hh Q hQ;exact wpS_cond hb (hh Q hQ)
    | false =>
     have:=ihy tm m u h f a w hG hI hr hD hM
     show Ul P all nt f h w c₀ cs (xN (cS P cx all nt y) call tm m h) _
     revert this
     cases xN (cS P cx all nt y) call tm m h with
     | none=>intro _;trivial
     | ok e2 tm2 m2 h2=>intro hh Q hQ;exact wpS_cond hb (hh Q hQ)
  · rw [h1];trivial
 | region id ops draw =>
  intro tm m u h f a w hG hI hr hD hM
  show Ul P all nt f h w c₀ cs (xN (bif ops.toList.any kJ then (bif draw || ops.toList.any (fun o=>o.guard.isSome) then .plain .bad else kC P cx nt all ops.toList) else .plain (kU P cx all nt (.region id ops draw))) call tm m h) _
  cases hrc:ops.toList.any kJ with
  | false=>exact plain (.region id ops draw) tm m u h f a w hG hI hr hD hM
  | true =>
   rw [cond_true]
   cases hbd:(draw || ops.toList.any (fun o=>o.guard.isSome)) with
   | true=>trivial
   | false =>
    rw [cond_false]
    rw [Bool.or_eq_false_iff] at hbd
    have hng:∀ o∈ops.toList,o.guard=none:=fun o ho=>by
     have:=List.any_eq_false.1 hbd.2 o ho
     cases hg:o.guard with
     | none=>rfl
     | some g=>rw [hg] at this;exact absurd rfl this
    have hs:=Vz hX hcall hall hng c₀ cs ops.toList 0 (by simp) tm m u h f a w hG hI hr hD hM
    have hdr:=hbd.1
    subst hdr
    revert hs
    cases xN (kC P cx nt all ops.toList) call tm m h with
    | none=>intro _;trivial
    | ok e2 tm2 m2 h2 =>
     intro hs Q hQ
     refine wpS_region ?_
     have:=hs Q hQ
     rw [List.range_eq_range']
     simpa using this
 | skip=>exact plain .skip
 | block i b _=>exact plain (.block i b)
 | loop b _=>exact plain (.loop b)
 | scope b _=>exact plain (.scope b)
 | exit i=>exact plain (.exit i)
 | ret=>exact plain .ret
 | rangeFunc a b c d _=>exact plain (.rangeFunc a b c d)
 | label l=>exact plain (.label l)
 | goto l=>exact plain (.goto l)
 | _=>intros;trivial
theorem Am {fn:Func} (h:fn.results.isEmpty=true) (tmps:Array Value) (w:World):(results fn tmps).run P w=.ok (.tuple #[]) w:=by
 have:fn.results=#[]:=by simpa using h
 unfold results
 simp [this]
theorem Rs {cx:Cx} {call:Call} (hX:xO P cx) (hdraw:tL P cx) (hcall:gW P cx.gs call):Dq P cx.gs (fun g=>yB (Uz P cx g) call):=by
 intro g args args' m u f h w hG hr hl hM
 show match yB (Uz P cx g) call args m h with|.none=>True|.ok m' h'=>_
 have hcF:Uz P cx g=match P.funcs[g]? with
  | some fn=>match fn.body with
   | some c=>bif fn.results.isEmpty && !(fn.name == "runtime.NumGoroutine") && mU (Nat.sub (Nat.pow 2 fn.ntmps) 1) fn.ntmps then .mk fn.ntmps (fn.params.size+fn.nfree) (cS P cx (Nat.sub (Nat.pow 2 fn.ntmps) 1) fn.ntmps c) else .bad
   | none=>.bad
  | none=>.bad:=rfl
 rw [hcF]
 cases hfn:P.funcs[g]? with
 | none=>trivial
 | some fn =>
 cases hb:fn.body with
 | none=>dsimp only;rw [hb];trivial
 | some c =>
 dsimp only
 rw [hb]
 dsimp only
 generalize Nat.sub (Nat.pow 2 fn.ntmps) 1=all
 cases hok:(fn.results.isEmpty && !(fn.name == "runtime.NumGoroutine") && mU all fn.ntmps) with
 | false=>trivial
 | true =>
 rw [Bool.and_eq_true,Bool.and_eq_true] at hok
 obtain ⟨⟨ho1,ho2⟩,ho3⟩:=hok
 have hname:(fn.name == "runtime.NumGoroutine")=false:=by simpa using ho2
 generalize fn.params.size+fn.nfree=na
 show match (bif Nat.beq (len args) na && Nat.ble na fn.ntmps then Al args 0 .nil fun tm=>mB.rec (motive:=fun _=>Fi) .none (fun e _ m h=>Ex.rec (motive:=fun _=>Fi) (.ok (sJ m) h) (fun _=>.none) (.ok (sJ m) h) (fun c=>.ok (Iw m c) h) e) (xN (cS P cx all fn.ntmps c) call tm m h) else .none) with|.none=>True|.ok m' h'=>_
 cases hn:(Nat.beq (len args) na && Nat.ble na fn.ntmps) with
 | false=>trivial
 | true =>
 rw [Bool.and_eq_true] at hn
 have hn1:=Nat.eq_of_beq_eq_true hn.1
 have hn2:=Nat.ble_eq.mp hn.2
 rw [eF] at hn1
 rw [cond_true,rG,kL]
 have hent:Enters P g:=⟨fn,hfn,hname,by rw [hb];rfl⟩
 have hoa:mU all na=true:=by
  unfold mU
  refine List.all_eq_true.2 fun t ht=>?_
  exact Ay ho3 (by have:=List.mem_range.1 ht;omega)
 have hI:=Pr hl hn1 hn2 hoa
 have hcode:=fun (c₀:Frame) (cs:List Frame)=>aUB (nt:=fn.ntmps) hX hdraw hcall ho3 c₀ cs c (aL args 0 .nil fun t=>t) m u h f { tmps:=args'.toArray++Array.replicate (fn.ntmps - args'.toArray.size) undef,defers:=[] } w hG hI hr rfl hM
 revert hcode
 cases xN (cS P cx all fn.ntmps c) call (aL args 0 .nil fun t=>t) m h with
 | none=>intro _;trivial
 | ok e tm1 m1 h1 =>
  intro hcode
  cases e with
  | exit i=>trivial
  | normal =>
   refine ⟨hent,callsD_of_wpS hfn hb fun c₀ cs hu=>?_⟩
   have hc:=hcode c₀ cs
   rw [show ({ c₀ with mode:=u }:Frame)=c₀ by cases c₀;cases hu;rfl] at hc
   refine hc _ fun f' e' a' u' w' hA hC hI1 hD1 hM1 hX1=>?_
   cases hX1
   exact ⟨hD1,u',rfl,_,Am ho1 _ _,f',hA,hC,hM1.settle,by simp⟩
  | ret =>
   refine ⟨hent,callsD_of_wpS hfn hb fun c₀ cs hu=>?_⟩
   have hc:=hcode c₀ cs
   rw [show ({ c₀ with mode:=u }:Frame)=c₀ by cases c₀;cases hu;rfl] at hc
   refine hc _ fun f' e' a' u' w' hA hC hI1 hD1 hM1 hX1=>?_
   cases hX1
   exact ⟨hD1,u',rfl,_,Am ho1 _ _,f',hA,hC,hM1.settle,by simp⟩
  | panic c0 =>
   refine ⟨hent,callsD_of_wpS hfn hb fun c₀ cs hu=>?_⟩
   have hc:=hcode c₀ cs
   rw [show ({ c₀ with mode:=u }:Frame)=c₀ by cases c₀;cases hu;rfl] at hc
   refine hc _ fun f' e' a' u' w' hA hC hI1 hD1 hM1 hX1=>?_
   cases hX1 with
   | panic hch=>exact ⟨hD1,u',rfl,f',hA,hC,hM1.raised hch,by simp⟩
theorem Wa {cx:Cx} (hX:xO P cx) (hdraw:tL P cx):∀ n,gW P cx.gs (Va P cx n) :=
 aIw hX hdraw fun _ h=>Rs hX hdraw h
end
section
variable {P:Program} {gs:List Nat} {ds:List (Option Tmp)} {o:Oper} {lo lo':List Value} {tm tm':T Value}
def pM (lo:List Value) (tm:T Value) (lo':List Value) (tm':T Value):CO→Prop
 | .p f=>f lo tm=f lo' tm'
 | .r f=>f lo tm=f lo' tm'
 | .g f=>∀ call h,f call lo tm h=f call lo' tm' h
def gA (lo:List Value) (tm:T Value) (lo':List Value) (tm':T Value) (x:OD):Prop:=bW x lo tm=bW x lo' tm'
theorem fQ:pM lo tm lo' tm' bad:=rfl
theorem lS {b:Bool} {c d:CO} (h:pM lo tm lo' tm' c) (h':pM lo tm lo' tm' d):pM lo tm lo' tm' (bif b then c else d):=by
 cases b<;>assumption
theorem uI {l:List OD} (h:∀ x∈l,gA lo tm lo' tm' x):Co l lo tm=Co l lo' tm':=by
 induction l with
 | nil=>rfl
 | cons x l ih =>
  show bW x lo tm::Co l lo tm=bW x lo' tm'::Co l lo' tm'
  rw [h x (by simp),ih fun y hy=>h y (by simp [hy])]
theorem Ku {R:Type} {l:List (Nat×Nat×OD)} (h:∀ p∈l,gA lo tm lo' tm' p.2.2):∀ (z:List Value) (k:List Value→R) (no:R),jO l lo tm z k no=jO l lo' tm' z k no:=by
 induction l with
 | nil=>intro z k no;rfl
 | cons p l ih =>
  intro z k no
  show oE p.1 p.2.1 (bW p.2.2 lo tm) z (fun z=>jO l lo tm z k no) no=oE p.1 p.2.1 (bW p.2.2 lo' tm') z (fun z=>jO l lo' tm' z k no) no
  rw [h p (by simp)]
  have:(fun z=>jO l lo tm z k no)=(fun z=>jO l lo' tm' z k no):=funext fun z=>ih (fun q hq=>h q (by simp [hq])) z k no
  rw [this]
theorem jH {R:Type} {x:Option OD} (h:∀ y,x=some y→gA lo tm lo' tm' y) (d t:Nat) (k:Nat→R) (z:R):gQ x lo tm d t k z=gQ x lo' tm' d t k z:=by
 cases x with
 | none=>rfl
 | some y =>
  show lP (bW y lo tm) _ _=lP (bW y lo' tm') _ _
  rw [h y rfl]
theorem Kv {place:Nat→Option (Nat×Nat)}:∀ {l:List (Nat×Operand)} {r:List (Nat×Nat×OD)},qZ gs ds place l=some r→∀ p∈r,∃ q∈l,p.2.2=aU gs ds q.2:=by
 intro l
 induction l with
 | nil=>intro r h p hp;cases h;cases hp
 | cons q l ih =>
  intro r h p hp
  obtain ⟨i,x⟩:=q
  unfold qZ at h
  split at h
  · rename_i o n l' h1 h2
    cases h
    rcases List.mem_cons.1 hp with rfl|hp
    · exact ⟨(i,x),by simp,rfl⟩
    · obtain ⟨q,hq,e⟩:=ih h2 p hp
      exact ⟨q,by simp [hq],e⟩
  · cases h
theorem Wb {s:Nat} {l h:Option OD} (hl:∀ y,l=some y→gA lo tm lo' tm' y) (hh:∀ y,h=some y→gA lo tm lo' tm' y) (b o n c:Nat):slice3 s l h lo tm b o n c=slice3 s l h lo' tm' b o n c:=by
 unfold slice3
 rw [jH hh]
 congr 1;funext hi
 rw [jH hl]
theorem Wc {s:Nat} {l h:Option OD} {m:OD} (hl:∀ y,l=some y→gA lo tm lo' tm' y) (hh:∀ y,h=some y→gA lo tm lo' tm' y) (hm:gA lo tm lo' tm' m) (b o c:Nat):qX s l h m lo tm b o c=qX s l h m lo' tm' b o c:=by
 unfold qX
 rw [jH (x:=some m) (fun y e=>by cases e;exact hm)]
 congr 2;funext mm
 cases h with
 | none=>rfl
 | some h =>
  dsimp only
  rw [jH hh]
  congr 1;funext hi
  rw [jH hl]
theorem aFs {s:Nat} {x:OD} {l h m:Option OD} (hx:gA lo tm lo' tm' x) (hl:∀ y,l=some y→gA lo tm lo' tm' y) (hh:∀ y,h=some y→gA lo tm lo' tm' y) (hm:∀ y,m=some y→gA lo tm lo' tm' y):qY s x l h m lo tm=qY s x l h m lo' tm':=by
 have hx':bW x lo tm=bW x lo' tm':=hx
 cases m with
 | none =>
  show rW (bW x lo tm) (slice3 s l h lo tm) (fun n c=>bif Nat.beq n 0 then bif Nat.beq c 0 then gQ h lo tm 0 0 (fun _=>gQ l lo tm 0 0 (fun _=>some (.slice none 0 0)) none) none else none else none) none
   = rW (bW x lo' tm') (slice3 s l h lo' tm') (fun n c=>bif Nat.beq n 0 then bif Nat.beq c 0 then gQ h lo' tm' 0 0 (fun _=>gQ l lo' tm' 0 0 (fun _=>some (.slice none 0 0)) none) none else none else none) none
  have e1:slice3 s l h lo tm=slice3 s l h lo' tm':=by funext b o n c;exact Wb hl hh b o n c
  rw [hx',e1,jH hh,jH hl]
 | some m =>
  show rW (bW x lo tm) (fun b o _ c=>qX s l h m lo tm b o c) _ none=rW (bW x lo' tm') (fun b o _ c=>qX s l h m lo' tm' b o c) _ none
  have e1:(fun b o (_:Nat) c=>qX s l h m lo tm b o c)=(fun b o (_:Nat) c=>qX s l h m lo' tm' b o c):=by funext b o n c;exact Wc hl hh (hm m rfl) b o c
  rw [hx',e1]
theorem Wd {x:OD} {l h:Option OD} (hx:gA lo tm lo' tm' x) (hl:∀ y,l=some y→gA lo tm lo' tm' y) (hh:∀ y,h=some y→gA lo tm lo' tm' y):xX x l h lo tm=xX x l h lo' tm':=by
 have hx':bW x lo tm=bW x lo' tm':=hx
 unfold xX
 rw [hx']
 congr 1;funext s
 rw [jH hh]
 congr 1;funext _
 rw [jH hl]
theorem aFt {n s:Nat} {x:OD} {l h m:Option OD} (hx:gA lo tm lo' tm' x) (hl:∀ y,l=some y→gA lo tm lo' tm' y) (hh:∀ y,h=some y→gA lo tm lo' tm' y):Fg n s x l h m lo tm=Fg n s x l h m lo' tm':=by
 have hx':bW x lo tm=bW x lo' tm':=hx
 unfold Fg
 rw [hx']
 congr 1;funext b o
 cases m with
 | none =>
  dsimp only
  rw [jH hh]
  congr 1;funext _
  rw [jH hl]
 | some mm=>rfl
theorem aFu {op:BinOp} {x y:OD} (hx:gA lo tm lo' tm' x) (hy:gA lo tm lo' tm' y):pM lo tm lo' tm' (aHE op x y):=by
 unfold gA at hx hy
 cases op<;>simp only [aHE,pM,aE,pV,hx,hy]
theorem aFv {c:Operand→OD} {op:BinOp} {t:TypeId} {x y:Operand} (hx:gA lo tm lo' tm' (c x)) (hy:gA lo tm lo' tm' (c y)):pM lo tm lo' tm' (aHF P c op t x y):=by
 unfold aHF
 split
 · exact aFu hx hy
 all_goals unfold gA at hx hy
 all_goals repeat' (first|exact fQ|apply lS|split)
 all_goals simp only [pM,uY,sF,Uq,jT,aHx,aHA,hx,hy]
theorem aBj {x:OD} {s d:TypeId} (hx:gA lo tm lo' tm' x):pM lo tm lo' tm' (Uv P x s d):=by
 unfold gA at hx
 unfold Uv
 repeat' (first|exact fQ|apply lS|split)
 all_goals simp only [pM,eA,zH,mI,Cw,aHy,aHz,hx,implies_true]
theorem Oh {c:Operand→OD} {b:Builtin} {args:List Operand} {ts:List TypeId} (h:∀ x∈args,gA lo tm lo' tm' (c x)):pM lo tm lo' tm' (x7 P c b args ts):=by
 unfold x7
 repeat' (first|exact fQ|apply lS|split)
 all_goals first
  | (simp only [pM,Hm];rw [uI fun x hx=>by obtain ⟨y,hy,rfl⟩:=List.mem_map.1 hx;exact h y hy];done)
  | (simp only [List.mem_cons,List.mem_nil_iff,or_false,forall_eq_or_imp,forall_eq,gA] at h;simp only [pM,Kb,cW,aDh,aNC,iN,aDi,aND,aDj,Qw,aDg,h,implies_true])
theorem aFw {k:Nat} {fn:Func} {a:List OD} (h:∀ x∈a,gA lo tm lo' tm' x):pM lo tm lo' tm' (aHD P k fn a):=by
 unfold aHD
 repeat' (first|exact fQ|apply lS|split)
 all_goals (simp only [List.mem_cons,List.mem_nil_iff,or_false,forall_eq_or_imp,forall_eq,gA] at h;simp only [pM,aC,aDk,aRm,aRn,aDl,h,implies_true])
theorem aIy {cx:Cx} (h:∀ x∈o.op.operands,gA lo tm lo' tm' (aU cx.gs ds x)):pM lo tm lo' tm' (uC P cx ds o):=by
 obtain ⟨dst,op,type,pos,after,guard⟩:=o
 dsimp only at h
 have omap:∀ {l:Option Operand},(∀ x,l=some x→gA lo tm lo' tm' (aU cx.gs ds x))→∀ y,l.map (aU cx.gs ds)=some y→gA lo tm lo' tm' y:=fun {l} hl y hy=>by
  cases l with
  | none=>cases hy
  | some x=>cases hy;exact hl x rfl
 have lmap:∀ {l:List Operand},(∀ x∈l,gA lo tm lo' tm' (aU cx.gs ds x))→∀ y∈l.map (aU cx.gs ds),gA lo tm lo' tm' y:=fun {l} hl y hy=>by
  obtain ⟨x,hx,rfl⟩:=List.mem_map.1 hy;exact hl x hx
 cases op
 case binOp op t x y yt=>exact aFv (h x (by simp [Op.operands])) (h y (by simp [Op.operands]))
 case convert s d x=>exact aBj (h x (by simp [Op.operands]))
 case build t parts =>
  unfold uC
  dsimp only
  repeat' (first|exact fQ|apply lS|split)
  all_goals
   rename_i hp
   show jO _ lo tm _ _ _=jO _ lo' tm' _ _ _
   refine Ku (fun p hp'=>?_) _ _ _
   obtain ⟨q,hq,e⟩:=Kv hp p hp'
   rw [e]
   exact h q.2 (by simp only [Op.operands,List.mem_toArray,List.mem_map];exact ⟨q,hq,rfl⟩)
 case buildSlice t n parts =>
  unfold uC
  dsimp only
  repeat' (first|exact fQ|apply lS|split)
  all_goals
   rename_i hp
   intro call h'
   show jO _ lo tm _ _ _=jO _ lo' tm' _ _ _
   refine Ku (fun p hp'=>?_) _ _ _
   obtain ⟨q,hq,e⟩:=Kv hp p hp'
   rw [e]
   exact h q.2 (by simp only [Op.operands,List.mem_toArray,List.mem_map];exact ⟨q,hq,rfl⟩)
 case makeFunc g first cap =>
  unfold uC
  dsimp only
  split
  · show some _=some _
    rw [uI (lmap fun x hx=>h x (by simp [Op.operands];exact .inl (by simpa using hx))),uI (lmap fun x hx=>h x (by simp [Op.operands];exact .inr (by simpa using hx)))]
  · exact fQ
 case slice t x l hi m =>
  have hx:bW (aU cx.gs ds x) lo tm=bW (aU cx.gs ds x) lo' tm':=h x (by simp [Op.operands])
  have hl:=omap (l:=l) fun y e=>h y (by simp [Op.operands,e])
  have hh:=omap (l:=hi) fun y e=>h y (by simp [Op.operands,e])
  have hm:=omap (l:=m) fun y e=>h y (by simp [Op.operands,e])
  unfold uC
  dsimp only
  split
  · exact lS (aFs hx hl hh hm) fQ
  · split
    · exact Wd hx hl hh
    · exact fQ
  · exact lS (aFt hx hl hh) fQ
  · exact fQ
 case call cl =>
  obtain ⟨callee,args,ats⟩:=cl
  have ha:∀ x∈args.toList,gA lo tm lo' tm' (aU cx.gs ds x):=fun x hx=>h x (by simp [Op.operands,Call.operands];exact .inr (by simpa using hx))
  unfold uC
  dsimp only
  split
  · split
    · unfold Qy
      split
      · exact aFw (lmap ha)
      · refine lS ?_ fQ
        intro call h'
        show call _ _ _=call _ _ _
        rw [uI (lmap ha)]
    · exact fQ
  · rename_i f _
    have hf:bW (aU cx.gs ds f) lo tm=bW (aU cx.gs ds f) lo' tm':=h f (by simp [Op.operands,Call.operands])
    intro call h'
    show vFn (bW (aU cx.gs ds f) lo tm) _ _=vFn (bW (aU cx.gs ds f) lo' tm') _ _
    rw [hf,uI (lmap ha)]
  · exact Oh ha
  · rename_i r n
    have hf:bW (aU cx.gs ds r) lo tm=bW (aU cx.gs ds r) lo' tm':=h r (by simp [Op.operands,Call.operands])
    intro call h'
    show lA (bW (aU cx.gs ds r) lo tm) _ _ _=lA (bW (aU cx.gs ds r) lo' tm') _ _ _
    rw [hf,uI (lmap ha)]
 case makeMap t r =>
  unfold uC
  dsimp only
  split
  · intro call h';rfl
  · rename_i x
    have hx:bW (aU cx.gs ds x) lo tm=bW (aU cx.gs ds x) lo' tm':=h x (by simp [Op.operands])
    split
    · intro call h'
      show jQ (bW (aU cx.gs ds x) lo tm) _ _=jQ (bW (aU cx.gs ds x) lo' tm') _ _
      rw [hx]
    · exact fQ
 case next x b =>
  have hx:bW (aU cx.gs ds x) lo tm=bW (aU cx.gs ds x) lo' tm':=h x (by simp [Op.operands])
  unfold uC
  cases b with
  | true =>
   intro call h'
   show kO (bW (aU cx.gs ds x) lo tm) _ _=kO (bW (aU cx.gs ds x) lo' tm') _ _
   rw [hx]
  | false=>exact fQ
 all_goals simp only [Op.operands,List.mem_cons,List.mem_nil_iff,List.mem_toArray,or_false,forall_eq_or_imp,forall_eq,gA] at h
 all_goals unfold uC
 all_goals dsimp only
 all_goals repeat' (first|exact fQ|apply lS|split)
 all_goals first
  | exact fQ
  | simp only [pM,aC,dG,cO,eM,aI,bO,cD,bL,bI,mO,aEW,aNy,As,At,aO,aDe,aDf,eQ,dZ,aHB,aNz,xY,aNA,aNB,aEY,dS,Qx,Jz,sH,h,implies_true]
end
section
theorem Ru (m t:Nat):bit m t=m.testBit t:=by
 rw [Nat.testBit_eq_decide_div_mod_eq]
 unfold bit
 show Nat.beq (m / 2 ^ t % 2) 1=_
 cases h:Nat.beq (m / 2 ^ t % 2) 1 with
 | true=>have:=Nat.eq_of_beq_eq_true h;simp [this]
 | false=>have:=tJ h;simp [this]
def Fw (an:T Nat) (i k:Nat):Prop:=bit (Cz an k) i=true
theorem mZ {an:T Nat} {i j:Nat}:comp an i j=true↔Fw an i j∨Fw an j i:=by
 unfold comp Fw
 rw [Bool.or_eq_true]
theorem aIz {an:T Nat} {t:Nat}:∀ {l:List Edge} {s:Nat},bit (Od an l s) t=true↔(bit s t=true∨∃ e∈l,Region.binds .any e=true∧(t=e.on∨Fw an t e.on)):=by
 intro l
 induction l with
 | nil=>intro s;simp [Od]
 | cons e l ih =>
  intro s
  unfold Od
  cases hb:Region.binds .any e with
  | true =>
   rw [cond_true,bD,ih]
   have h1:bit (Nat.lor s (Nat.lor (Nat.pow 2 e.on) (Cz an e.on))) t=true↔(bit s t=true∨(t=e.on∨Fw an t e.on)):=by
    unfold Fw
    rw [Ru,Ru,Ru]
    show (s ||| (2 ^ e.on ||| Cz an e.on)).testBit t=true↔_
    rw [Nat.testBit_or,Nat.testBit_or,Nat.testBit_two_pow]
    simp only [Bool.or_eq_true,decide_eq_true_eq]
    constructor
    · rintro (h|h|h)
      · exact .inl h
      · exact .inr (.inl h.symm)
      · exact .inr (.inr h)
    · rintro (h|h|h)
      · exact .inl h
      · exact .inr (.inl h.symm)
      · exact .inr (.inr h)
   rw [h1]
   constructor
   · rintro ((h|h)|⟨e',he',h'⟩)
     · exact .inl h
     · exact .inr ⟨e,by simp,hb,h⟩
     · exact .inr ⟨e',by simp [he'],h'⟩
   · rintro (h|⟨e',he',h',h2⟩)
     · exact .inl (.inl h)
     · rcases List.mem_cons.1 he' with rfl|he'
       · exact .inl (.inr h2)
       · exact .inr ⟨e',he',h',h2⟩
  | false =>
   rw [cond_false,ih]
   constructor
   · rintro (h|⟨e',he',h'⟩)
     · exact .inl h
     · exact .inr ⟨e',by simp [he'],h'⟩
   · rintro (h|⟨e',he',h',h2⟩)
     · exact .inl h
     · rcases List.mem_cons.1 he' with rfl|he'
       · rw [hb] at h';cases h'
       · exact .inr ⟨e',he',h',h2⟩
theorem Ps (o:Oper) (r:List Oper) (i:Nat) (an:T Nat):xM (o::r) i an=xM r (i+1) (T.set (path i) an (some (Od an o.after.toList 0))):=by
 show bN _ _=_
 rw [bD,T.iA]
theorem aDy:∀ (l:List Oper) (i:Nat) (an:T Nat) (j:Nat),j<i→(xM l i an).get (path j)=an.get (path j):=by
 intro l
 induction l with
 | nil=>intro i an j _;rfl
 | cons o r ih =>
  intro i an j hj
  rw [Ps,ih _ _ _ (by omega),gC,if_neg (by omega)]
theorem aOe:∀ (l:List Oper) (i:Nat) (an:T Nat) (k:Nat) (o:Oper),l[k]?=some o→∃ an',(∀ j,j<i+k→an'.get (path j)=(xM l i an).get (path j))∧(xM l i an).get (path (i+k))=some (Od an' o.after.toList 0):=by
 intro l
 induction l with
 | nil=>intro i an k o h;simp at h
 | cons o r ih =>
  intro i an k o' h
  rw [Ps]
  cases k with
  | zero =>
   simp at h;subst h
   refine ⟨an,fun j hj=>?_,?_⟩
   · rw [aDy _ _ _ _ (by omega),gC,if_neg (by omega)]
   · rw [aDy _ _ _ _ (by omega),gC,if_pos (by omega)]
  | succ k =>
   obtain ⟨an',h1,h2⟩:=ih (i+1) (T.set (path i) an (some (Od an o.after.toList 0))) k o' (by simpa using h)
   exact ⟨an',fun j hj=>h1 j (by omega),by rw [show i+(k+1)=i+1+k by omega];exact h2⟩
theorem aBk {ops:Array Oper} {an:T Nat} {w:T (List Nat)}:∀ (l:List Oper) (j:Nat),Iv ops an w l j=true→∀ k o,l[k]?=some o →
 (∀ e∈o.after,Region.binds .any e=true→e.on<j+k)∧(∀ cl,o.op≠.defer cl)∧(∀ cs b,o.op≠.select cs b)∧(∀ t∈o.dst.toList++looks ops o,aAO an w (j+k) t=true):=by
 intro l
 induction l with
 | nil=>intro j _ k o h;simp at h
 | cons o r ih =>
  intro j h k o' ho
  unfold Iv at h
  rw [Bool.and_eq_true,Bool.and_eq_true,Bool.and_eq_true] at h
  obtain ⟨⟨⟨h1,h2⟩,h3⟩,h4⟩:=h
  cases k with
  | zero =>
   simp at ho;subst ho
   refine ⟨fun e he hb=>?_,fun cl hc=>?_,fun cs b hc=>?_,fun t ht=>?_⟩
   · have:=List.all_eq_true.1 h1 e (by simpa using he)
     rw [hb] at this
     have h':Nat.blt e.on j=true:=by simpa using this
     exact Nat.blt_eq.mp h'
   · rw [hc] at h2;cases h2
   · rw [hc] at h2;cases h2
   · exact List.all_eq_true.1 h3 t ht
  | succ k =>
   have:=ih (j+1) h4 k o' (by simpa using ho)
   rw [show j+(k+1)=j+1+k by omega]
   exact this
theorem aOf:∀ (l:List Oper) (i:Nat) (w:T (List Nat)) (t:Tmp) (x:Nat),(x∈Aj w t∨∃ k o,l[k]?=some o∧o.dst=some t∧x=i+k)→x∈Aj (wrs l i w) t:=by
 intro l
 induction l with
 | nil =>
  intro i w t x h
  rcases h with h|⟨k,o,h,_⟩
  · exact h
  · simp at h
 | cons o r ih =>
  intro i w t x h
  cases hd:o.dst with
  | none =>
   have e:wrs (o::r) i w=wrs r (i+1) w:=by
    show (match o.dst with|none=>_|some d=>_)=_
    rw [hd]
   rw [e]
   refine ih _ _ _ _ ?_
   rcases h with h|⟨k,o',h,h2,h3⟩
   · exact .inl h
   · cases k with
     | zero=>simp at h;subst h;rw [hd] at h2;cases h2
     | succ k=>exact .inr ⟨k,o',by simpa using h,h2,by omega⟩
  | some d =>
   have e:wrs (o::r) i w=wrs r (i+1) (T.set (path d) w (some (i::Aj w d))):=by
    show (match o.dst with|none=>_|some d=>_)=_
    rw [hd]
    exact T.iA _ _ _ _
   rw [e]
   refine ih _ _ _ _ ?_
   have hw:∀ t,Aj (T.set (path d) w (some (i::Aj w d))) t=if d=t then i::Aj w d else Aj w t:=fun t=>by
    unfold Aj
    rw [gC]
    split<;>simp
   rcases h with h|⟨k,o',h,h2,h3⟩
   · refine .inl ?_
     rw [hw]
     by_cases hdt:d=t
     · subst hdt;rw [if_pos rfl];simp [h]
     · rw [if_neg hdt];exact h
   · cases k with
     | zero =>
      simp at h;subst h
      rw [hd] at h2;cases h2
      refine .inl ?_
      rw [hw,if_pos rfl]
      simp [h3]
     | succ k=>exact .inr ⟨k,o',by simpa using h,h2,by omega⟩
theorem aIA {an:T Nat} {k:Nat}:∀ (l:List Oper) (i:Nat),Ak an k l i=true→∀ m o,l[m]?=some o→uD o=true→i+m=k∨comp an (i+m) k=true:=by
 intro l
 induction l with
 | nil=>intro i _ m o h;simp at h
 | cons o r ih =>
  intro i h m o' ho ht
  unfold Ak at h
  rw [Bool.and_eq_true] at h
  cases m with
  | zero =>
   simp at ho;subst ho
   have h1:=h.1
   rw [ht] at h1
   have h2:Nat.beq i k=true∨comp an i k=true:=by simpa using h1
   exact h2.imp (fun h=>Nat.eq_of_beq_eq_true h) id
  | succ m =>
   have:=ih (i+1) h.2 m o' (by simpa using ho) ht
   rw [show i+(m+1)=i+1+m by omega]
   exact this
theorem aOg {an:T Nat} {j k:Nat}:∀ (l:List Oper) (i:Nat),aAP an j k l i=true→∀ m o,l[m]?=some o→uD o=true→(i+m=j∨Fw an j (i+m))→i+m=k∨comp an (i+m) k=true:=by
 intro l
 induction l with
 | nil=>intro i _ m o h;simp at h
 | cons o r ih =>
  intro i h m o' ho ht hj
  unfold aAP at h
  rw [Bool.and_eq_true] at h
  cases m with
  | zero =>
   simp at ho;subst ho
   have h1:=h.1
   have h3:(Nat.beq i j || bit (Cz an i) j)=true:=by
    rw [Bool.or_eq_true]
    rcases hj with hj|hj
    · left;rw [show i=j from hj];exact Nat.beq_refl j
    · right;exact hj
   rw [ht,h3] at h1
   have h2:Nat.beq i k=true∨comp an i k=true:=by simpa using h1
   exact h2.imp (fun h=>Nat.eq_of_beq_eq_true h) id
  | succ m =>
   have:=ih (i+1) h.2 m o' (by simpa using ho) ht (by rw [show i+1+m=i+(m+1) by omega];exact hj)
   rw [show i+(m+1)=i+1+m by omega]
   exact this
theorem aIB {l:List (Nat×Bool)} {j:Nat} (h:rB l j=true):∃ b,(j,b)∈l∧b=true:=by
 induction l with
 | nil=>cases h
 | cons p l ih =>
  have h':(bif Nat.beq p.1 j then p.2 else rB l j)=true:=h
  cases hb:Nat.beq p.1 j with
  | true =>
   rw [hb] at h'
   have:=Nat.eq_of_beq_eq_true hb
   exact ⟨p.2,by subst this;simp,h'⟩
  | false =>
   rw [hb] at h'
   obtain ⟨b,h1,h2⟩:=ih h'
   exact ⟨b,by simp [h1],h2⟩
theorem aIC {l:List Oper} {an:T Nat} {k j:Nat} (h:rB (Da l an k) j=true):j<k∧Fw an j k∧aAP an j k l 0=true:=by
 obtain ⟨b,h1,h2⟩:=aIB h
 unfold Da at h1
 obtain ⟨j',h3,h4⟩:=List.mem_map.1 h1
 cases h4
 rw [Bool.and_eq_true] at h2
 exact ⟨List.mem_range.1 h3,h2.1,h2.2⟩
structure vJ (ops:Array Oper) (an:T Nat):Prop where
 aOh:∀ (i k:Nat) (o:Oper),ops[k]?=some o→(Fw an i k↔∃ e∈o.after,Region.binds .any e=true∧(i=e.on∨Fw an i e.on))
 lt:∀ (k:Nat) (o:Oper),ops[k]?=some o→∀ e∈o.after,Region.binds .any e=true→e.on<k
 a1b:∀ (k:Nat) (o:Oper),ops[k]?=some o→∀ cl,o.op≠.defer cl
 a1c:∀ (k:Nat) (o:Oper),ops[k]?=some o→∀ cs b,o.op≠.select cs b
 slot:∀ (i j:Nat) (oi oj:Oper) (t:Tmp),ops[i]?=some oi→ops[j]?=some oj→oi.dst=some t→t∈oj.dst.toList++looks ops oj→i=j∨comp an i j=true
theorem Oi {ops:Array Oper} (h:Qz ops (xM ops.toList 0 .nil)=true):vJ ops (xM ops.toList 0 .nil):=by
 have hat:=aBk ops.toList 0 h
 have get:∀ {k:Nat} {o:Oper},ops[k]?=some o→ops.toList[k]?=some o:=fun h=>by simpa using h
 have hlt:∀ (k:Nat) (o:Oper),ops[k]?=some o→∀ e∈o.after,Region.binds .any e=true→e.on<k:=fun k o ho e he hb=>by
  have:=(hat k o (get ho)).1 e he hb
  omega
 refine ⟨fun i k o ho=>?_,hlt,fun k o ho=>(hat k o (get ho)).2.1,fun k o ho=>(hat k o (get ho)).2.2.1,fun i j oi oj t hi hj hd ht=>?_⟩
 · obtain ⟨an',h1,h2⟩:=aOe ops.toList 0 .nil k o (get ho)
   have hk:Cz (xM ops.toList 0 .nil) k=Od an' o.after.toList 0:=by
    unfold Cz
    rw [show (0+k)=k by omega] at h2
    rw [h2];rfl
   unfold Fw at *
   rw [hk,aIz]
   have hz:¬ bit 0 i=true:=by rw [Ru];simp
   have heq:∀ e∈o.after,Region.binds .any e=true→Cz an' e.on=Cz (xM ops.toList 0 .nil) e.on:=fun e he hb=>by
    unfold Cz
    rw [h1 e.on (by have:=hlt k o ho e he hb;omega)]
   constructor
   · rintro (h|⟨e,he,hb,h⟩)
     · exact absurd h hz
     · have he':e∈o.after:=by simpa using he
       refine ⟨e,he',hb,h.imp id fun h=>?_⟩
       unfold Fw at h
       rw [heq e he' hb] at h
       exact h
   · rintro ⟨e,he,hb,h⟩
     refine .inr ⟨e,by simpa using he,hb,h.imp id fun h=>?_⟩
     unfold Fw
     rw [heq e he hb]
     exact h
 · have:=(hat j oj (get hj)).2.2.2 t ht
   unfold aAO at this
   have:=List.all_eq_true.1 this i (aOf _ _ _ _ _ (.inr ⟨i,oi,get hi,hd,by omega⟩))
   rw [Bool.or_eq_true] at this
   rcases this with h|h
   · have:=Nat.eq_of_beq_eq_true h;exact .inl (by omega)
   · exact .inr (by simpa using h)
theorem vJ.Fx {ops:Array Oper} {an:T Nat} (h:vJ ops an):∀ (k:Nat) (o:Oper),ops[k]?=some o→∀ i,Fw an i k→i<k:=by
 intro k
 induction k using Nat.strongRecOn with
 | ind k ih =>
  intro o ho i hi
  obtain ⟨e,he,hb,h1⟩:=(h.aOh i k o ho).1 hi
  have hlt:=h.lt k o ho e he hb
  rcases h1 with rfl|h1
  · exact hlt
  · have hk:=(Array.getElem?_eq_some_iff.1 ho).1
    have hk':e.on<ops.size:=Nat.lt_trans hlt hk
    have:=ih e.on hlt ops[e.on] (by simp [hk']) i h1
    omega
theorem vJ.trans {ops:Array Oper} {an:T Nat} (h:vJ ops an):∀ (k:Nat) (o:Oper),ops[k]?=some o→∀ i j,Fw an i j→Fw an j k→Fw an i k:=by
 intro k
 induction k using Nat.strongRecOn with
 | ind k ih =>
  intro o ho i j hij hjk
  obtain ⟨e,he,hb,h1⟩:=(h.aOh j k o ho).1 hjk
  have hlt:=h.lt k o ho e he hb
  refine (h.aOh i k o ho).2 ⟨e,he,hb,.inr ?_⟩
  rcases h1 with rfl|h1
  · exact hij
  · have hk:=(Array.getElem?_eq_some_iff.1 ho).1
    have hk':e.on<ops.size:=Nat.lt_trans hlt hk
    exact ih e.on hlt ops[e.on] (by simp [hk']) i j hij h1
end
section
variable {P:Program}
theorem We {f:Map} {h h1:Hp} {w:World} {a:Act} {o:Oper} {v:Value} (hg:cK P f h w a o (.val v h1)):∃ f' v' w',cV h h1∧cY f h w f' h1 w'∧bS f' v v':=by
 have:=hg (fun _ _=>∃ f' v' w',cV h h1∧cY f h w f' h1 w'∧bS f' v v') (fun _ _ _=>False) (fun f' v' w' x y z=>⟨f',v',w',x,y,z⟩)
 unfold Oper.wp at this
 generalize (execOp a.eval o).run P w=r at this
 cases r with
 | ok n w' =>
  cases n<;>simp only [Oper.upon] at this
  case value u=>exact this
  case skip=>exact this
  case defer d=>exact this
  case enter g args =>
   obtain ⟨e,w'',fr,hR,_⟩:=this []
   cases e with
   | returned u=>exact hR
   | panicked c=>exact hR.elim
   | outgrown=>obtain ⟨_,_,hq⟩:=hR;exact hq.elim
  case row row args =>
   obtain ⟨u,w'',hR,_⟩:=this default []
   exact hR
 | halt x w'=>cases x<;>simp only [Oper.upon] at this
def gS (ops:Array Oper) (k:Nat):List (Option Tmp):=((ops.toList.take k).map (·.dst)).reverse
theorem Fy {ops:Array Oper} {k:Nat} {o:Oper} (h:ops[k]?=some o):gS ops (k+1)=o.dst::gS ops k:=by
 have h':ops.toList[k]?=some o:=by simpa using h
 unfold gS
 rw [List.take_add_one,h']
 simp
structure St where
 h:Hp
 lo:List Value
 L:List Nat
 R:Option Nat
noncomputable def Io (cx:Cx) (ops:Array Oper) (ds:List (Option Tmp)) (o:Oper) (lo:List Value) (tm:T Value):Nat:=match o.guard with
 | none=>0
 | some (j,want)=>match (ops[j]?).bind (·.dst) with
  | some d=>iB (bW (aU cx.gs ds (.tmp d)) lo tm) want 0 1 2
  | none=>2
theorem aBl {R:Type} (v:Value) (want:Bool) (y n z:R):iB v want y n z=(match iB v want 0 1 2 with|0=>y|1=>n|_=>z:R):=by
 cases v<;>first|rfl|(rename_i b;cases b<;>cases want<;>rfl)
noncomputable def nxt (P:Program) (cx:Cx) (ops:Array Oper) (call:Call) (tm:T Value) (ds:List (Option Tmp)) (o:Oper) (s:St):St:=match Io cx ops ds o s.lo tm with
 | 0=>(match uC P cx ds o with
  | .p f=>⟨s.h,pS (f s.lo tm)::s.lo,[],none⟩
  | .r f=>(match f s.lo tm with
   | .val v=>⟨s.h,v::s.lo,[],none⟩
   | .read b g=>⟨s.h,pS ((s.h.at b).bind g)::s.lo,[],some b⟩
   | .none=>s)
  | .g f=>(match f call s.lo tm (aS s.h s.h.next []) with
   | .val v h1=>⟨aS h1 s.h.base (below s.h.base h1.log s.h.log),v::s.lo,h1.log.filter fun b=>decide (b<s.h.next),none⟩
   | _=>s))
 | 1=>⟨s.h,undef::s.lo,[],none⟩
 | _=>s
noncomputable def Iz (P:Program) (cx:Cx) (ops:Array Oper) (call:Call) (tm:T Value) (h:Hp):Nat→St
 | 0=>⟨h,[],[],none⟩
 | k+1=>match ops[k]? with
  | some o=>nxt P cx ops call tm (gS ops k) o (Iz P cx ops call tm h k)
  | none=>Iz P cx ops call tm h k
inductive aQt (P:Program) (cx:Cx) (ops:Array Oper) (call:Call) (tm:T Value) (ds:List (Option Tmp)) (o:Oper) (s s':St):Prop where
 | skip (hg:Io cx ops ds o s.lo tm=1) (hs:s'=⟨s.h,undef::s.lo,[],none⟩)
 | p (f:DP) (v:Value) (hg:Io cx ops ds o s.lo tm=0) (hc:uC P cx ds o=.p f) (hv:f s.lo tm=some v) (hs:s'=⟨s.h,v::s.lo,[],none⟩)
 | rv (f:DR) (v:Value) (hg:Io cx ops ds o s.lo tm=0) (hc:uC P cx ds o=.r f) (hv:f s.lo tm=.val v) (hs:s'=⟨s.h,v::s.lo,[],none⟩)
 | rb (f:DR) (v:Value) (b:Nat) (g:dY→Option Value) (ob:dY) (hg:Io cx ops ds o s.lo tm=0) (hc:uC P cx ds o=.r f) (hv:f s.lo tm=.read b g) (hb:s.h.at b=some ob) (ho:g ob=some v) (hs:s'=⟨s.h,v::s.lo,[],some b⟩)
 | g (f:DO) (v:Value) (h1:Hp) (hg:Io cx ops ds o s.lo tm=0) (hc:uC P cx ds o=.g f) (ht:lW o=true) (hv:f call s.lo tm (aS s.h s.h.next [])=.val v h1)
  (hs:s'=⟨aS h1 s.h.base (below s.h.base h1.log s.h.log),v::s.lo,h1.log.filter fun b=>decide (b<s.h.next),none⟩) (hA:cV (aS s.h s.h.next []) h1) (hd:∀ b,h1.next≤b→h1.at b=none)
def Pt (T:Nat→St) (j b:Nat):Prop:=(T j).h.next≤b∧b<(T (j+1)).h.next
def aYg (ops:Array Oper) (an:T Nat) (T:Nat→St) (k b:Nat):Prop :=
 (b<(T 0).h.next∧∀ (m:Nat) (o:Oper),ops[m]?=some o→uD o=true→m=k∨comp an m k=true) ∨
 (∃ j,j<k∧Pt T j b∧Fw an j k∧∀ (m:Nat) (o:Oper),ops[m]?=some o→uD o=true→(m=j∨Fw an j m)→m=k∨comp an m k=true)
structure Fact (P:Program) (cx:Cx) (ops:Array Oper) (an:T Nat) (call:Call) (tm:T Value) (nt:Nat) (T:Nat→St) (k:Nat):Prop where
 op:∃ o,ops[k]?=some o∧oF nt o.dst=true∧aQt P cx ops call tm (gS ops k) o (T k) (T (k+1))
 rd:∀ i b,i<k→b∈(T (i+1)).L→(T (k+1)).R=some b→comp an i k=true
 wr:∀ i b,i<k→b∈(T (k+1)).L→(T (i+1)).R=some b→comp an i k=true
 may:∀ b,b∈(T (k+1)).L→aYg ops an T k b
structure aBm (T:Nat→St) (k:Nat) (d:Dn):Prop where
 ws:∀ i b,i<k→b∈(T (i+1)).L→(i,b)∈d.ws
 rs:∀ i b,i<k→(T (i+1)).R=some b→(i,b)∈d.rs
 ns:∀ b,b<(T k).h.next→match owner d.ns b with
  | none=>b<(T 0).h.next
  | some j=>j<k∧Pt T j b
theorem Wg {cm:Nat→Nat→Bool} {k b:Nat} {l:List (Nat×Nat)} (h:kT cm k b l=true):∀ i,(i,b)∈l→cm i k=true:=by
 induction l with
 | nil=>intro i hi;cases hi
 | cons p l ih =>
  intro i hi
  have h':(bif Nat.beq p.2 b then (bif cm p.1 k then kT cm k b l else false) else kT cm k b l)=true:=h
  cases hb:Nat.beq p.2 b with
  | true =>
   rw [hb,cond_true] at h'
   cases hc:cm p.1 k with
   | true =>
    rw [hc,cond_true] at h'
    rcases List.mem_cons.1 hi with rfl|hi
    · exact hc
    · exact ih h' i hi
   | false=>rw [hc] at h';cases h'
  | false =>
   rw [hb,cond_false] at h'
   rcases List.mem_cons.1 hi with rfl|hi
   · exact absurd rfl (tJ hb)
   · exact ih h' i hi
theorem Kw {cm:Nat→Nat→Bool} {k:Nat} {bar:Bool} {own:List (Nat×Bool)} {d:Dn} {log:List Nat} (h:allowed cm k bar own d log=true):∀ b,b∈log →
 (match owner d.ns b with|none=>bar=true|some j=>rB own j=true)∧kT cm k b d.rs=true:=by
 induction log with
 | nil=>intro b hb;cases hb
 | cons c l ih =>
  intro b hb
  have h':(bif Option.rec (motive:=fun _=>Bool) bar (rB own) (owner d.ns c) then (bif kT cm k c d.rs then allowed cm k bar own d l else false) else false)=true:=h
  cases h1:(Option.rec (motive:=fun _=>Bool) bar (rB own) (owner d.ns c)) with
  | false=>rw [h1] at h';cases h'
  | true =>
   rw [h1,cond_true] at h'
   cases h2:kT cm k c d.rs with
   | false=>rw [h2] at h';cases h'
   | true =>
    rw [h2,cond_true] at h'
    rcases List.mem_cons.1 hb with rfl|hb
    · refine ⟨?_,h2⟩
      cases ho:owner d.ns b with
      | none=>rw [ho] at h1;exact h1
      | some j=>rw [ho] at h1;exact h1
    · exact ih h' b hb
theorem Pu {k:Nat} {log:List Nat} {ws:List (Nat×Nat)} {i b:Nat} (h:(i,b)∈ws∨(i=k∧b∈log)):(i,b)∈wrote k log ws:=by
 induction log with
 | nil=>rcases h with h | ⟨_,h⟩
        · exact h
        · cases h
 | cons c l ih =>
  show (i,b)∈(k,c)::wrote k l ws
  rcases h with h|⟨rfl,h⟩
  · exact List.mem_cons_of_mem _ (ih (.inl h))
  · rcases List.mem_cons.1 h with rfl|h
    · exact List.mem_cons_self ..
    · exact List.mem_cons_of_mem _ (ih (.inr ⟨rfl,h⟩))
theorem aFx {base:Nat} {l dL:List Nat} {b:Nat}:b∈below base l dL↔(b∈dL∨(b∈l∧b<base)):=by
 induction l with
 | nil=>simp [below]
 | cons c l ih =>
  have e:below base (c::l) dL=bif Nat.blt c base then c::below base l dL else below base l dL:=rfl
  rw [e]
  cases hb:Nat.blt c base with
  | true =>
   have hlt:c<base:=Nat.blt_eq.mp hb
   rw [cond_true,List.mem_cons,ih]
   constructor
   · rintro (rfl|h|⟨h1,h2⟩)
     · exact .inr ⟨by simp,hlt⟩
     · exact .inl h
     · exact .inr ⟨by simp [h1],h2⟩
   · rintro (h|⟨h1,h2⟩)
     · exact .inr (.inl h)
     · rcases List.mem_cons.1 h1 with rfl|h1
       · exact .inl rfl
       · exact .inr (.inr ⟨h1,h2⟩)
  | false =>
   have hlt:¬ c<base:=fun hh=>by rw [Nat.blt_eq.mpr hh] at hb;cases hb
   rw [cond_false,ih]
   constructor
   · rintro (h|⟨h1,h2⟩)
     · exact .inl h
     · exact .inr ⟨by simp [h1],h2⟩
   · rintro (h|⟨h1,h2⟩)
     · exact .inl h
     · rcases List.mem_cons.1 h1 with rfl|h1
       · exact absurd h2 hlt
       · exact .inr ⟨h1,h2⟩
theorem aBn {live:Nat} {ds:List (Option Tmp)} {lo:List Value} {cm:Nat→Nat→Bool} {call:Call} {d:Dn} {df:Df} {h:Hp}:∀ (r:List (Option Tmp)) (i:Nat) (tm:T Value),qA (sI live ds r i) cm call d lo tm df h=.ok .normal (kP live ds lo r i tm) df h:=by
 intro r
 induction r with
 | nil=>intro i tm;rfl
 | cons x r ih =>
  intro i tm
  cases x with
  | none=>exact ih (i+1) tm
  | some t =>
   show qA (bif kS live t && jU ds t i then .flush i (path t) (sI live ds r (i+1)) else sI live ds r (i+1)) cm call d lo tm df h=.ok .normal (bif kS live t && jU ds t i then kP live ds lo r (i+1) (T.set (path t) tm (some (nth lo i))) else kP live ds lo r (i+1) tm) df h
   cases kS live t && jU ds t i with
   | true =>
    show T.tD (path t) tm (some (nth lo i)) (fun tm=>qA (sI live ds r (i+1)) cm call d lo tm df h)=_
    rw [T.iA,ih];rfl
   | false=>exact ih (i+1) tm
end
section
variable {P:Program}
theorem aID {cx:Cx} {live nt:Nat} {ops:Array Oper} {an:T Nat} {o:Oper} {l:List Oper} {k:Nat} {ds:List (Option Tmp)} {cm:Nat→Nat→Bool} {call:Call} {d:Dn} {lo:List Value} {tm:T Value} {df:Df} {h:Hp} :
 qA (iG P cx live nt ops an (o::l) k ds) cm call d lo tm df h=.none∨(oF nt o.dst=true ∧
  ((Io cx ops ds o lo tm=0∧qA (iG P cx live nt ops an (o::l) k ds) cm call d lo tm df h=qA (aDm ops an k (lW o) (uC P cx ds o) (iG P cx live nt ops an l (k+1) (o.dst::ds))) cm call d lo tm df h) ∨
   (Io cx ops ds o lo tm=1∧qA (iG P cx live nt ops an (o::l) k ds) cm call d lo tm df h=qA (iG P cx live nt ops an l (k+1) (o.dst::ds)) cm call d (undef::lo) tm df h))):=by
 have hcons:iG P cx live nt ops an (o::l) k ds=bif oF nt o.dst then (match o.guard with
  | none=>aDm ops an k (lW o) (uC P cx ds o) (iG P cx live nt ops an l (k+1) (o.dst::ds))
  | some (j,want)=>match (ops[j]?).bind (·.dst) with
   | some d=>Ra ops an k (lW o) (aU cx.gs ds (.tmp d)) want (uC P cx ds o) (iG P cx live nt ops an l (k+1) (o.dst::ds))
   | none=>.bad) else .bad:=rfl
 rw [hcons]
 cases hdst:oF nt o.dst with
 | false=>exact .inl rfl
 | true =>
 rw [cond_true]
 unfold Io
 cases hg:o.guard with
 | none=>exact .inr ⟨rfl,.inl ⟨rfl,rfl⟩⟩
 | some p =>
  obtain ⟨j,want⟩:=p
  dsimp only
  cases hd2:(ops[j]?).bind (·.dst) with
  | none=>exact .inl rfl
  | some t =>
   dsimp only
   have he:qA (Ra ops an k (lW o) (aU cx.gs ds (.tmp t)) want (uC P cx ds o) (iG P cx live nt ops an l (k+1) (o.dst::ds))) cm call d lo tm df h=iB (bW (aU cx.gs ds (.tmp t)) lo tm) want
    (qA (aDm ops an k (lW o) (uC P cx ds o) (iG P cx live nt ops an l (k+1) (o.dst::ds))) cm call d lo tm df h) (qA (iG P cx live nt ops an l (k+1) (o.dst::ds)) cm call d (undef::lo) tm df h) .none ∨
    qA (Ra ops an k (lW o) (aU cx.gs ds (.tmp t)) want (uC P cx ds o) (iG P cx live nt ops an l (k+1) (o.dst::ds))) cm call d lo tm df h=.none:=by
    cases uC P cx ds o with
    | p f=>exact .inl rfl
    | r f=>exact .inl rfl
    | g f=>cases lW o with
     | true=>exact .inl rfl
     | false=>exact .inr rfl
   rcases he with he|he
   · rw [he,aBl]
     generalize iB (bW (aU cx.gs ds (.tmp t)) lo tm) want 0 1 2=x
     match x with
     | 0=>exact .inr ⟨rfl,.inl ⟨rfl,rfl⟩⟩
     | 1=>exact .inr ⟨rfl,.inr ⟨rfl,rfl⟩⟩
     | _+2=>exact .inl rfl
   · exact .inl he
theorem gX.aS {f:Map} {h:Hp} {w:World} {b:Nat} {l:List Nat} (hr:gX f h w) (hb:b≤h.next):gX f (aS h b l) w :=
 ⟨hr.obj,hr.inj,hr.fresh,hr.dead,hb⟩
theorem Rv {T:Nat→St} {k:Nat} {d:Dn} (h:aBm T k d) (hn:(T (k+1)).h=(T k).h) (hL:(T (k+1)).L=[]) (hR:(T (k+1)).R=none):aBm T (k+1) d:=by
 refine ⟨fun i b hi hb=>?_,fun i b hi hb=>?_,fun b hb=>?_⟩
 · by_cases e:i=k
   · subst e;rw [hL] at hb;cases hb
   · exact h.ws i b (by omega) hb
 · by_cases e:i=k
   · subst e;rw [hR] at hb;cases hb
   · exact h.rs i b (by omega) hb
 · rw [hn] at hb
   have:=h.ns b hb
   revert this
   cases owner d.ns b with
   | none=>exact id
   | some j=>exact fun ⟨h1,h2⟩=>⟨by omega,h2⟩
theorem Rw {T:Nat→St} {k:Nat} {d:Dn} {b0:Nat} (h:aBm T k d) (hn:(T (k+1)).h=(T k).h) (hL:(T (k+1)).L=[]) (hR:(T (k+1)).R=some b0):aBm T (k+1) ⟨d.ns,(k,b0)::d.rs,d.ws⟩:=by
 refine ⟨fun i b hi hb=>?_,fun i b hi hb=>?_,fun b hb=>?_⟩
 · by_cases e:i=k
   · subst e;rw [hL] at hb;cases hb
   · exact h.ws i b (by omega) hb
 · by_cases e:i=k
   · subst e;rw [hR] at hb;cases hb;simp
   · exact List.mem_cons_of_mem _ (h.rs i b (by omega) hb)
 · rw [hn] at hb
   have:=h.ns b hb
   revert this
   show (match owner d.ns b with|none=>_|some j=>_)→match owner d.ns b with|none=>_|some j=>_
   cases owner d.ns b with
   | none=>exact id
   | some j=>exact fun ⟨h1,h2⟩=>⟨by omega,h2⟩
theorem Wh {T:Nat→St} {k:Nat} {d:Dn} {log:List Nat} (h:aBm T k d) (hL:∀ b,b∈(T (k+1)).L→b∈log) (hR:(T (k+1)).R=none):aBm T (k+1) ⟨((T k).h.next,k)::d.ns,d.rs,wrote k log d.ws⟩:=by
 refine ⟨fun i b hi hb=>?_,fun i b hi hb=>?_,fun b hb=>?_⟩
 · by_cases e:i=k
   · subst e;exact Pu (.inr ⟨rfl,hL b hb⟩)
   · exact Pu (.inl (h.ws i b (by omega) hb))
 · by_cases e:i=k
   · subst e;rw [hR] at hb;cases hb
   · exact h.rs i b (by omega) hb
 · have e:owner (((T k).h.next,k)::d.ns) b=bif Nat.ble (T k).h.next b then some k else owner d.ns b:=rfl
   rw [e]
   cases hc:Nat.ble (T k).h.next b with
   | true=>exact ⟨by omega,Nat.ble_eq.mp hc,hb⟩
   | false =>
    have hlt:b<(T k).h.next:=by
     rcases Nat.lt_or_ge b (T k).h.next with h1|h1
     · exact h1
     · rw [Nat.ble_eq.mpr h1] at hc;cases hc
    have:=h.ns b hlt
    rw [cond_false]
    revert this
    cases owner d.ns b with
    | none=>exact id
    | some j=>exact fun ⟨h1,h2⟩=>⟨by omega,h2⟩
theorem aIE {cx:Cx} {live nt:Nat} {ops:Array Oper} {an:T Nat} {call:Call} {tm:T Value} {h0:Hp} {df:Df} (hX:xO P cx) (hcall:gW P cx.gs call):∀ (l:List Oper) (k:Nat),ops.toList.drop k=l →
 ∀ (d:Dn) (f:Map) (a:Act) (w:World),mC cx.gs f→Env f (gS ops k) (Iz P cx ops call tm h0 k).lo tm a.tmps→a.tmps.size=nt→gX f (Iz P cx ops call tm h0 k).h w→aBm (Iz P cx ops call tm h0) k d →
 qA (iG P cx live nt ops an l k (gS ops k)) (comp an) call d (Iz P cx ops call tm h0 k).lo tm df (Iz P cx ops call tm h0 k).h=.none ∨
 (qA (iG P cx live nt ops an l k (gS ops k)) (comp an) call d (Iz P cx ops call tm h0 k).lo tm df (Iz P cx ops call tm h0 k).h=.ok .normal (kP live (gS ops ops.size) (Iz P cx ops call tm h0 ops.size).lo (gS ops ops.size) 0 tm) df (Iz P cx ops call tm h0 ops.size).h ∧
   ∀ i,k≤i→i<ops.size→Fact P cx ops an call tm nt (Iz P cx ops call tm h0) i):=by
 intro l
 induction l with
 | nil =>
  intro k hk d f a w hG hE hs hr hdn
  refine .inr ?_
  have hk2:ops.size≤k:=by
   have:=congrArg List.length hk
   simp at this;omega
  have hst:∀ j,Iz P cx ops call tm h0 (ops.size+j)=Iz P cx ops call tm h0 ops.size:=by
   intro j
   induction j with
   | zero=>rfl
   | succ j ih =>
    show (match ops[ops.size+j]? with|some o=>_|none=>Iz P cx ops call tm h0 (ops.size+j))=_
    rw [show ops[ops.size+j]?=none by simp]
    exact ih
  have hds:gS ops k=gS ops ops.size:=by
   unfold gS
   rw [List.take_of_length_le (by simpa using hk2),List.take_of_length_le (by simp)]
  obtain ⟨j,rfl⟩:=Nat.exists_eq_add_of_le hk2
  rw [hst j,hds]
  refine ⟨aBn _ _ _,fun i h1 h2=>by omega⟩
 | cons o l ih =>
  intro k hk d f a w hG hE hs hr hdn
  have hok:ops[k]?=some o:=by
   have:=congrArg (fun l=>l[0]?) hk
   simpa using this
  have hk':ops.toList.drop (k+1)=l:=by
   have:=congrArg (List.drop 1) hk
   simpa [List.drop_drop,Nat.add_comm] using this
  have hT:Iz P cx ops call tm h0 (k+1)=nxt P cx ops call tm (gS ops k) o (Iz P cx ops call tm h0 k):=by
   show (match ops[k]? with|some o=>_|none=>_)=_
   rw [hok]
  have hds:=Fy hok
  have ih1:=fun d f a w=>ih (k+1) hk' d f a w
  rw [hds] at ih1
  generalize hTd:Iz P cx ops call tm h0=T at *
  rcases aID (P:=P) (cx:=cx) (live:=live) (nt:=nt) (ops:=ops) (an:=an) (o:=o) (l:=l) (k:=k) (ds:=gS ops k) (cm:=comp an) (call:=call) (d:=d) (lo:=(T k).lo) (tm:=tm) (df:=df) (h:=(T k).h) with hn|⟨hdst,hrest⟩
  · exact .inl hn
  have hdst':∀ t,o.dst=some t→t<a.tmps.size:=fun t ht=>by
   unfold oF at hdst;rw [ht] at hdst
   rw [hs];exact Nat.blt_eq.mp hdst
  have close:∀ {r:eL},(r=.none∨(r=.ok .normal (kP live (gS ops ops.size) (T ops.size).lo (gS ops ops.size) 0 tm) df (T ops.size).h∧∀ i,k+1≤i→i<ops.size→Fact P cx ops an call tm nt T i))→Fact P cx ops an call tm nt T k →
   (r=.none∨(r=.ok .normal (kP live (gS ops ops.size) (T ops.size).lo (gS ops ops.size) 0 tm) df (T ops.size).h∧∀ i,k≤i→i<ops.size→Fact P cx ops an call tm nt T i)):=fun h hf=>h.imp id fun ⟨h1,h2⟩=>⟨h1,fun i hi hi2=>by
   by_cases e:i=k
   · subst e;exact hf
   · exact h2 i (by omega) hi2⟩
  have fact0:aQt P cx ops call tm (gS ops k) o (T k) (T (k+1))→(T (k+1)).L=[]→(T (k+1)).R=none→Fact P cx ops an call tm nt T k:=fun h1 h2 h3 =>
   ⟨⟨o,hok,hdst,h1⟩,fun i b _ _ hb=>by (rw [h3] at hb;cases hb),fun i b _ hb _=>by (rw [h2] at hb;cases hb),fun b hb=>by (rw [h2] at hb;cases hb)⟩
  rcases hrest with ⟨hg,he⟩|⟨hg,he⟩
  · rw [he]
    have hco:=Ro (P:=P) (cx:=cx) (ds:=gS ops k) (o:=o) hX
    unfold nxt at hT
    rw [hg] at hT
    revert hT hco
    cases hcop:uC P cx (gS ops k) o with
    | p fn =>
     intro hT hco
     show (eC (fn (T k).lo tm) (fun v=>qA (iG P cx live nt ops an l (k+1) (o.dst::gS ops k)) (comp an) call d (v::(T k).lo) tm df (T k).h) .none)=.none∨(eC (fn (T k).lo tm) (fun v=>qA (iG P cx live nt ops an l (k+1) (o.dst::gS ops k)) (comp an) call d (v::(T k).lo) tm df (T k).h) .none)=_∧_
     cases hv:fn (T k).lo tm with
     | none=>exact .inl rfl
     | some v =>
      dsimp only at hT
      rw [hv] at hT
      have hT':T (k+1)=⟨(T k).h,v::(T k).lo,[],none⟩:=hT
      obtain ⟨v',_,hvr⟩:=hco _ _ _ hv f a w hG hE
      have:=ih1 d f (a.put o.dst v') w hG (by rw [hT'];exact Env.cons hE hvr hdst') (by rw [lB];exact hs) (by rw [hT'];exact hr) (Rv hdn (by rw [hT']) (by rw [hT']) (by rw [hT']))
      rw [hT'] at this
      exact close this (fact0 (.p fn v hg hcop hv hT') (by rw [hT']) (by rw [hT']))
    | r fn =>
     intro hT hco
     have hco1:=hco (T k).lo tm f a w hG hE
     show (PR.rec (motive:=fun _=>eL) .none (fun v=>qA (iG P cx live nt ops an l (k+1) (o.dst::gS ops k)) (comp an) call d (v::(T k).lo) tm df (T k).h)
      (fun b g=>bif kT (comp an) k b d.ws then eC ((T k).h.bl.get (path b)) (fun ob=>eC (g ob) (fun v=>qA (iG P cx live nt ops an l (k+1) (o.dst::gS ops k)) (comp an) call ⟨d.ns,(k,b)::d.rs,d.ws⟩ (v::(T k).lo) tm df (T k).h) .none) .none else .none) (fn (T k).lo tm))=.none ∨
      (PR.rec (motive:=fun _=>eL) .none (fun v=>qA (iG P cx live nt ops an l (k+1) (o.dst::gS ops k)) (comp an) call d (v::(T k).lo) tm df (T k).h)
      (fun b g=>bif kT (comp an) k b d.ws then eC ((T k).h.bl.get (path b)) (fun ob=>eC (g ob) (fun v=>qA (iG P cx live nt ops an l (k+1) (o.dst::gS ops k)) (comp an) call ⟨d.ns,(k,b)::d.rs,d.ws⟩ (v::(T k).lo) tm df (T k).h) .none) .none else .none) (fn (T k).lo tm))=_∧_
     dsimp only at hT
     revert hco1 hT
     cases hv:fn (T k).lo tm with
     | none=>intro _ _;exact .inl rfl
     | val v =>
      intro hT hco1
      have hT':T (k+1)=⟨(T k).h,v::(T k).lo,[],none⟩:=hT
      obtain ⟨v',_,hvr⟩:=hco1
      have:=ih1 d f (a.put o.dst v') w hG (by rw [hT'];exact Env.cons hE hvr hdst') (by rw [lB];exact hs) (by rw [hT'];exact hr) (Rv hdn (by rw [hT']) (by rw [hT']) (by rw [hT']))
      rw [hT'] at this
      exact close this (fact0 (.rv fn v hg hcop hv hT') (by rw [hT']) (by rw [hT']))
     | read b g =>
      intro hT hco1
      dsimp only at hT ⊢
      cases hm:kT (comp an) k b d.ws with
      | false=>exact .inl rfl
      | true =>
       rw [cond_true]
       cases hb:(T k).h.bl.get (path b) with
       | none=>exact .inl rfl
       | some ob =>
        dsimp only [eC]
        cases hgo:g ob with
        | none=>exact .inl rfl
        | some v =>
         have hat:(T k).h.at b=some ob:=hb
         have hT':T (k+1)=⟨(T k).h,v::(T k).lo,[],some b⟩:=by
          rw [hT,hat]
          show (⟨_,pS (g ob)::_,_,_⟩:St)=_
          rw [hgo];rfl
         obtain ⟨i,hi,hco2⟩:=hco1
         obtain ⟨x,hx,hor⟩:=hr.obj b ob i hi hat
         obtain ⟨v',_,hvr⟩:=hco2 ob v x hgo hx hor
         have:=ih1 ⟨d.ns,(k,b)::d.rs,d.ws⟩ f (a.put o.dst v') w hG (by rw [hT'];exact Env.cons hE hvr hdst') (by rw [lB];exact hs) (by rw [hT'];exact hr) (Rw hdn (by rw [hT']) (by rw [hT']) (by rw [hT']))
         rw [hT'] at this
         refine close this ⟨⟨o,hok,hdst,.rb fn v b g ob hg hcop hv hat hgo hT'⟩,fun i b' hi hb' hbb=>?_,fun i b' _ hb' _=>?_,fun b' hb'=>?_⟩
         · rw [hT'] at hbb;cases hbb
           exact Wg hm i (hdn.ws i b hi hb')
         · rw [hT'] at hb';cases hb'
         · rw [hT'] at hb';cases hb'
    | g fn =>
     intro hT hco
     have hco1:=hco call hcall (T k).lo tm f (aS (T k).h (T k).h.next []) a w hG hE (hr.aS (Nat.le_refl _))
     cases htch:lW o with
     | false=>exact .inl rfl
     | true =>
     show (aAM (fun v h1=>bif allowed (comp an) k (Ak an k ops.toList 0) (Da ops.toList an k) d h1.log then qA (iG P cx live nt ops an l (k+1) (o.dst::gS ops k)) (comp an) call ⟨((T k).h.next,k)::d.ns,d.rs,wrote k h1.log d.ws⟩ (v::(T k).lo) tm df (aS h1 (T k).h.base (below (T k).h.base h1.log (T k).h.log)) else .none)
      (fn call (T k).lo tm (aS (T k).h (T k).h.next [])))=.none ∨
      (aAM (fun v h1=>bif allowed (comp an) k (Ak an k ops.toList 0) (Da ops.toList an k) d h1.log then qA (iG P cx live nt ops an l (k+1) (o.dst::gS ops k)) (comp an) call ⟨((T k).h.next,k)::d.ns,d.rs,wrote k h1.log d.ws⟩ (v::(T k).lo) tm df (aS h1 (T k).h.base (below (T k).h.base h1.log (T k).h.log)) else .none)
        (fn call (T k).lo tm (aS (T k).h (T k).h.next [])))=_∧_
     dsimp only at hT
     revert hco1 hT
     cases hv:fn call (T k).lo tm (aS (T k).h (T k).h.next []) with
     | none=>intro _ _;exact .inl rfl
     | panic c h1=>intro _ _;exact .inl rfl
     | val v h1 =>
      intro hT hco1
      show (bif allowed (comp an) k (Ak an k ops.toList 0) (Da ops.toList an k) d h1.log then qA (iG P cx live nt ops an l (k+1) (o.dst::gS ops k)) (comp an) call ⟨((T k).h.next,k)::d.ns,d.rs,wrote k h1.log d.ws⟩ (v::(T k).lo) tm df (aS h1 (T k).h.base (below (T k).h.base h1.log (T k).h.log)) else .none)=.none ∨
       (bif allowed (comp an) k (Ak an k ops.toList 0) (Da ops.toList an k) d h1.log then qA (iG P cx live nt ops an l (k+1) (o.dst::gS ops k)) (comp an) call ⟨((T k).h.next,k)::d.ns,d.rs,wrote k h1.log d.ws⟩ (v::(T k).lo) tm df (aS h1 (T k).h.base (below (T k).h.base h1.log (T k).h.log)) else .none)=_∧_
      cases hal:allowed (comp an) k (Ak an k ops.toList 0) (Da ops.toList an k) d h1.log with
      | false=>exact .inl rfl
      | true =>
       rw [cond_true]
       obtain ⟨f',v',w',hA,hC,hvr⟩:=We hco1
       have hT:T (k+1)=⟨aS h1 (T k).h.base (below (T k).h.base h1.log (T k).h.log),v::(T k).lo,h1.log.filter fun b=>decide (b<(T k).h.next),none⟩:=hT
       have hnx:(T k).h.next≤h1.next:=hA.next
       have hr1:gX f' (T (k+1)).h w':=by
        rw [hT]
        exact hC.rel.aS (Nat.le_trans hr.base hnx)
       have hL:∀ b,b∈(T (k+1)).L→b∈h1.log∧b<(T k).h.next:=fun b hb=>by
        rw [hT] at hb
        have:=List.mem_filter.1 hb
        exact ⟨this.1,by simpa using this.2⟩
       have:=ih1 ⟨((T k).h.next,k)::d.ns,d.rs,wrote k h1.log d.ws⟩ f' (a.put o.dst v') w' (hG.mono hC.le) (by rw [hT];exact Env.cons (hE.mono hC.le) hvr hdst') (by rw [lB];exact hs) hr1 (Wh hdn (fun b hb=>(hL b hb).1) (by rw [hT]))
       have e1:(T (k+1)).lo=v::(T k).lo:=by rw [hT]
       have e2:(T (k+1)).h=aS h1 (T k).h.base (below (T k).h.base h1.log (T k).h.log):=by rw [hT]
       rw [e1,e2] at this
       refine close this ⟨⟨o,hok,hdst,.g fn v h1 hg hcop htch hv hT hA hC.rel.dead⟩,fun i b' hi hb' hbb=>?_,fun i b' hi hb' hbb=>?_,fun b' hb'=>?_⟩
       · rw [hT] at hbb;cases hbb
       · exact Wg (Kw hal b' (hL b' hb').1).2 i (hdn.rs i b' hi hbb)
       · obtain ⟨h2,h3⟩:=hL b' hb'
         have h4:=(Kw hal b' h2).1
         have h5:=hdn.ns b' h3
         revert h4 h5
         cases owner d.ns b' with
         | none =>
          intro h4 h5
          exact .inl ⟨h5,fun m o' ho' ht'=>by
           have:=aIA ops.toList 0 h4 m o' (by simpa using ho') ht'
           simpa using this⟩
         | some j =>
          intro h4 h5
          obtain ⟨h6,h7,h8⟩:=aIC h4
          exact .inr ⟨j,h5.1,h5.2,h7,fun m o' ho' ht' hj=>by
           have:=aOg ops.toList 0 h8 m o' (by simpa using ho') ht' (by simpa using hj)
           simpa using this⟩
  · rw [he]
    unfold nxt at hT
    rw [hg] at hT
    have hT':T (k+1)=⟨(T k).h,undef::(T k).lo,[],none⟩:=hT
    have:=ih1 d f (a.put o.dst undef) w hG (by rw [hT'];exact Env.cons hE (bS.undef f) hdst') (by rw [lB];exact hs) (by rw [hT'];exact hr) (Rv hdn (by rw [hT']) (by rw [hT']) (by rw [hT']))
    rw [hT'] at this
    exact close this (fact0 (.skip hg hT') (by rw [hT']) (by rw [hT']))
end
section
variable {P:Program} {cx:Cx} {ops:Array Oper} {an:T Nat} {call:Call} {tm:T Value} {nt:Nat} {T:Nat→St}
theorem aIF (lo:List Value) (tm:cG.T Value):∀ (parts:List (Nat×Nat×OD)) (z:List Value),(∃ l,∀ (R:Type) (k:List Value→R) (no:R),jO parts lo tm z k no=k l)∨∀ (R:Type) (k:List Value→R) (no:R),jO parts lo tm z k no=no:=by
 intro parts
 induction parts with
 | nil=>intro z;exact .inl ⟨z,fun _ _ _=>rfl⟩
 | cons p r ih =>
  intro z
  have e:∀ (R:Type) (k:List Value→R) (no:R),jO (p::r) lo tm z k no=(bif Ah (bW p.2.2 lo tm) then no else bif Nat.beq (len (gL (bW p.2.2 lo tm))) p.2.1 then bif Nat.ble (Nat.add p.1 p.2.1) (len z) then jO r lo tm (over z p.1 (gL (bW p.2.2 lo tm))) k no else no else no):=fun _ _ _=>rfl
  cases h1:Ah (bW p.2.2 lo tm) with
  | true=>exact .inr fun R k no=>by rw [e,h1];rfl
  | false =>
   cases h2:Nat.beq (len (gL (bW p.2.2 lo tm))) p.2.1 with
   | false=>exact .inr fun R k no=>by rw [e,h1,h2];rfl
   | true =>
    cases h3:Nat.ble (Nat.add p.1 p.2.1) (len z) with
    | false=>exact .inr fun R k no=>by rw [e,h1,h2,h3];rfl
    | true =>
     rcases ih (over z p.1 (gL (bW p.2.2 lo tm))) with ⟨l,hl⟩|hl
     · exact .inl ⟨l,fun R k no=>by rw [e,h1,h2,h3];exact hl R k no⟩
     · exact .inr fun R k no=>by rw [e,h1,h2,h3];exact hl R k no
def aUC (fn:DO):Prop:=∀ call lo tm h v h1,fn call lo tm h=.val v h1→∃ ob,h1=h.new ob∧∀ h2:Hp,h2.next=h.next→fn call lo tm h2=.val v (h2.new ob)
theorem Fz {e:TypeId} {l:List Value} {n:Nat} {cl:Bool} {g:Nat→Value} {h h1:Hp} {v:Value} (hv:gT h e l n cl (fun b h=>fV.val (g b) h)=.val v h1) :
 ∃ ob,h1=h.new ob∧∀ h2:Hp,h2.next=h.next→gT h2 e l n cl (fun b h=>fV.val (g b) h)=.val v (h2.new ob):=by
 rw [eG] at hv
 cases hv
 exact ⟨_,rfl,fun h2 e2=>by rw [eG,e2]⟩
theorem aUD {b:Bool} {f fn:DO} (h:(bif b then CO.g f else bad)=.g fn):f=fn:=by
 cases b with
 | true=>cases h;rfl
 | false=>cases h
theorem Kx {ds:List (Option Tmp)} {o:Oper} {fn:DO} (hc:uC P cx ds o=.g fn) (hn:Cy o=true):aUC fn:=by
 obtain ⟨dst,op,type,pos,after,guard⟩:=o
 cases op<;>first|(cases hn;done)|skip
 case alloc e =>
  unfold uC at hc
  dsimp only at hc
  split at hc
  · cases hc
    intro call lo tm h v h1 hv
    exact Fz (g:=fun b=>bE b 0) hv
  · cases hc
 case box e x =>
  unfold uC at hc
  dsimp only at hc
  cases hc
  intro call lo tm h v h1 hv
  have e:∀ h:Hp,eM e (aU cx.gs ds x) call lo tm h=bif Ah (bW (aU cx.gs ds x) lo tm) then .none else gT h e (gL (bW (aU cx.gs ds x) lo tm)) (len (gL (bW (aU cx.gs ds x) lo tm))) true fun b h=>.val (bE b 0) h:=fun _=>rfl
  rw [e] at hv
  cases ht:Ah (bW (aU cx.gs ds x) lo tm) with
  | true=>rw [ht] at hv;cases hv
  | false =>
   rw [ht] at hv
   obtain ⟨ob,h2,h3⟩:=Fz (g:=fun b=>bE b 0) hv
   exact ⟨ob,h2,fun h' hh=>by rw [e,ht];exact h3 h' hh⟩
 case buildSlice t n parts =>
  unfold uC at hc
  dsimp only at hc
  split at hc
  · split at hc
    · have hc:=aUD hc
      subst hc
      intro call lo tm h v h1 hv
      unfold dK at hv ⊢
      rename_i l _ _
      rcases aIF lo tm l (dU n _) with ⟨l',hl⟩|hl
      · rw [hl] at hv
        obtain ⟨ob,h2,h3⟩:=Fz (g:=fun b=>cB b 0 n n) hv
        exact ⟨ob,h2,fun h' hh=>by rw [hl];exact h3 h' hh⟩
      · rw [hl] at hv;cases hv
    · cases hc
  · cases hc
def fR (P:Program) (cx:Cx) (ops:Array Oper) (an:cG.T Nat) (call:Call) (tm:cG.T Value) (nt:Nat) (T:Nat→St):Prop:=∀ i,i<ops.size→Fact P cx ops an call tm nt T i
theorem fR.heap (hF:fR P cx ops an call tm nt T) {k:Nat} (hk:k<ops.size):(T k).h.next≤(T (k+1)).h.next∧(∀ b,b∈(T (k+1)).L→b<(T k).h.next)∧(∀ b,b<(T k).h.next→b∉(T (k+1)).L→(T (k+1)).h.at b=(T k).h.at b) ∧
 (∀ b,b<(T k).h.next→(T k).h.at b=none→(T (k+1)).h.at b=none)∧((∀ b,(T k).h.next≤b→(T k).h.at b=none)→∀ b,(T (k+1)).h.next≤b→(T (k+1)).h.at b=none)∧(∃ v,(T (k+1)).lo=v::(T k).lo):=by
 obtain ⟨o,ho,_,hs⟩:=(hF k hk).op
 have quiet:∀ v R,T (k+1)=⟨(T k).h,v::(T k).lo,[],R⟩→_:=fun v R e=>by
  refine (?_:(T k).h.next≤(T (k+1)).h.next∧(∀ b,b∈(T (k+1)).L→b<(T k).h.next)∧(∀ b,b<(T k).h.next→b∉(T (k+1)).L→(T (k+1)).h.at b=(T k).h.at b) ∧
   (∀ b,b<(T k).h.next→(T k).h.at b=none→(T (k+1)).h.at b=none)∧((∀ b,(T k).h.next≤b→(T k).h.at b=none)→∀ b,(T (k+1)).h.next≤b→(T (k+1)).h.at b=none)∧(∃ v,(T (k+1)).lo=v::(T k).lo))
  rw [e]
  exact ⟨Nat.le_refl _,fun b hb=>(by cases hb),fun _ _ _=>rfl,fun _ _ h=>h,fun h=>h,v,rfl⟩
 cases hs with
 | skip hg hs=>exact quiet _ _ hs
 | p f v hg hc hv hs=>exact quiet _ _ hs
 | rv f v hg hc hv hs=>exact quiet _ _ hs
 | rb f v b g ob hg hc hv hb ho hs=>exact quiet _ _ hs
 | g f v h1 hg hc ht hv hs hA hd =>
  rw [hs]
  refine ⟨hA.next,fun b hb=>by simpa using (List.mem_filter.1 hb).2,fun b hb hn=>?_,fun b hb hn=>hA.dead b hb hn,fun _=>hd,v,rfl⟩
  exact hA.bT b hb fun h=>hn (List.mem_filter.2 ⟨h,by simpa using hb⟩)
theorem fR.Dk (hF:fR P cx ops an call tm nt T) {i:Nat}:∀ j,i+j≤ops.size→(T i).h.next≤(T (i+j)).h.next:=by
 intro j
 induction j with
 | zero=>intro _;exact Nat.le_refl _
 | succ j ih=>intro h;exact Nat.le_trans (ih (by omega)) (hF.heap (k:=i+j) (by omega)).1
theorem fR.uJ (hF:fR P cx ops an call tm nt T) {i j:Nat} (h:i≤j) (hj:j≤ops.size):(T i).h.next≤(T j).h.next:=by
 obtain ⟨d,rfl⟩:=Nat.exists_eq_add_of_le h
 exact hF.Dk d hj
theorem fR.aDz (hF:fR P cx ops an call tm nt T) {i b:Nat} (hb:b<(T i).h.next):∀ j,i+j≤ops.size→(∀ k,i≤k→k<i+j→b∉(T (k+1)).L)→(T (i+j)).h.at b=(T i).h.at b:=by
 intro j
 induction j with
 | zero=>intro _ _;rfl
 | succ j ih =>
  intro h hn
  have h1:=ih (by omega) fun k h1 h2=>hn k h1 (by omega)
  rw [← h1]
  exact (hF.heap (k:=i+j) (by omega)).2.2.1 b (Nat.lt_of_lt_of_le hb (hF.Dk j (by omega))) (hn (i+j) (by omega) (by omega))
theorem fR.aQu (hF:fR P cx ops an call tm nt T) {i b:Nat} (hb:b<(T i).h.next) (hd:(T i).h.at b=none):∀ j,i+j≤ops.size→(T (i+j)).h.at b=none:=by
 intro j
 induction j with
 | zero=>intro _;exact hd
 | succ j ih=>intro h;exact (hF.heap (k:=i+j) (by omega)).2.2.2.1 b (Nat.lt_of_lt_of_le hb (hF.Dk j (by omega))) (ih (by omega))
theorem fR.dead (hF:fR P cx ops an call tm nt T) (h0:∀ b,(T 0).h.next≤b→(T 0).h.at b=none):∀ k,k≤ops.size→∀ b,(T k).h.next≤b→(T k).h.at b=none:=by
 intro k
 induction k with
 | zero=>intro _;exact h0
 | succ k ih=>intro h;exact (hF.heap (k:=k) (by omega)).2.2.2.2.1 (ih (by omega))
theorem fR.Rx (hF:fR P cx ops an call tm nt T) {j k b:Nat} (hj:Pt T j b) (hjk:j<k) (hk:k≤ops.size):b<(T k).h.next:=Nat.lt_of_lt_of_le hj.2 (hF.uJ hjk hk)
theorem fR.vK (hF:fR P cx ops an call tm nt T) {j k b:Nat} (hj:Pt T j b) (hkj:k≤j) (hn:j<ops.size):(T k).h.next≤b:=Nat.le_trans (hF.uJ hkj (by omega)) hj.1
theorem fR.vL (hF:fR P cx ops an call tm nt T) {j k b:Nat} (hj:Pt T j b) (hk:Pt T k b) (hjn:j<ops.size) (hkn:k<ops.size):j=k:=by
 rcases Nat.lt_trichotomy j k with h|h|h
 · have:=hF.Rx hj h (by omega);exact absurd hk.1 (by omega)
 · exact h
 · have:=hF.Rx hk h (by omega);exact absurd hj.1 (by omega)
theorem aFy {k:Nat} {o:Oper} {fn:DO} {v:Value} {h1:Hp} (hn:Cy o=true) (hc:uC P cx (gS ops k) o=.g fn) (hv:fn call (T k).lo tm (aS (T k).h (T k).h.next [])=.val v h1):h1.log=[]:=by
 obtain ⟨ob,h,_⟩:=Kx hc hn _ _ _ _ _ _ hv
 rw [h];rfl
theorem fR.aUE (hF:fR P cx ops an call tm nt T) {k b:Nat} (hk:k<ops.size) (hb:b∈(T (k+1)).L):∃ o,ops[k]?=some o∧uD o=true:=by
 obtain ⟨o,ho,_,hs⟩:=(hF k hk).op
 refine ⟨o,ho,?_⟩
 cases hs with
 | skip hg hs=>rw [hs] at hb;cases hb
 | p f v hg hc hv hs=>rw [hs] at hb;cases hb
 | rv f v hg hc hv hs=>rw [hs] at hb;cases hb
 | rb f v b g ob hg hc hv hb' ho hs=>rw [hs] at hb;cases hb
 | g f v h1 hg hc ht hv hs hA hd =>
  unfold uD
  rw [ht]
  cases hn:Cy o with
  | false=>rfl
  | true =>
   rw [hs] at hb
   have:=aFy hn hc hv
   simp [this] at hb
def Wr (T:Nat→St) (i b:Nat):Prop:=b∈(T (i+1)).L∨Pt T i b
theorem zL {an:cG.T Nat} {i j:Nat} (h:comp an i j=true):comp an j i=true:=mZ.2 (mZ.1 h).symm
theorem fR.ww (hF:fR P cx ops an call tm nt T) {i k b:Nat} (hi:i<ops.size) (hk:k<ops.size) (h1:Wr T i b) (h2:Wr T k b):i=k∨comp an i k=true:=by
 have mixed:∀ {i k:Nat},i<ops.size→k<ops.size→b∈(T (i+1)).L→Pt T k b→i=k∨comp an i k=true:=fun {i k} hi hk h1 h2=>by
  rcases (hF i hi).may b h1 with ⟨h3,_⟩|⟨j,hj,h3,h4,_⟩
  · have:=hF.vK h2 (Nat.zero_le _) hk
    omega
  · have:=hF.vL h3 h2 (by omega) hk
    subst this
    exact .inr (mZ.2 (.inr h4))
 rcases h1 with h1|h1<;>rcases h2 with h2|h2
 · obtain ⟨oi,hoi,hti⟩:=hF.aUE hi h1
   rcases (hF k hk).may b h2 with ⟨_,h4⟩|⟨j,hj,h3,h4,h5⟩
   · exact h4 i oi hoi hti
   · rcases (hF i hi).may b h1 with ⟨h6,_⟩|⟨j',hj',h6,h7,_⟩
     · have:=hF.vK h3 (Nat.zero_le _) (by omega)
       omega
     · have:=hF.vL h3 h6 (by omega) (by omega)
       subst this
       exact h5 i oi hoi hti (.inr h7)
 · exact mixed hi hk h1 h2
 · exact (mixed hk hi h2 h1).elim (fun e=>.inl e.symm) fun h=>.inr (zL h)
 · exact .inl (hF.vL h1 h2 hi hk)
open Classical in
noncomputable def Um (T:Nat→St) (n:Nat) (f:Map) (S:Nat→Prop):Map:=fun b=>if b<(T 0).h.next∨∃ j,j<n∧S j∧Pt T j b then f b else none
theorem iQ {n:Nat} {f:Map} {S:Nat→Prop} {b:Nat} {i:Cn}:Um T n f S b=some i↔(b<(T 0).h.next∨∃ j,j<n∧S j∧Pt T j b)∧f b=some i:=by
 unfold Um
 split
 · rename_i h;exact ⟨fun e=>⟨h,e⟩,fun e=>e.2⟩
 · rename_i h;exact ⟨fun e=>(by cases e),fun e=>absurd e.1 h⟩
theorem oO {n:Nat} {f:Map} {S:Nat→Prop}:(Um T n f S).le f:=fun b i h=>(iQ.1 h).2
theorem aIG {n:Nat} {f:Map} {S S':Nat→Prop} (h:∀ j,S j→S' j):(Um T n f S).le (Um T n f S'):=fun b i hb=>by
 obtain ⟨h1,h2⟩:=iQ.1 hb
 exact iQ.2 ⟨h1.imp id fun ⟨j,a,b,c⟩=>⟨j,a,h j b,c⟩,h2⟩
def Clo (an:cG.T Nat) (S:Nat→Prop):Prop:=∀ j,S j→∀ i,Fw an i j→S i
def mK (f:Map) (ds:List (Option Tmp)) (lo:List Value) (tm:cG.T Value) (tmps:Array Value) (t:Tmp):Prop :=
 (∀ i,idx ds t=some i→bS f (nth lo i) (tmps.getD t undef))∧(idx ds t=none→∀ v,tm.get (path t)=some v→bS f v (tmps.getD t undef))
theorem mK.mono {f g:Map} {ds:List (Option Tmp)} {lo:List Value} {tmps:Array Value} {t:Tmp} (h:mK f ds lo tm tmps t) (hfg:f.le g):mK g ds lo tm tmps t :=
 ⟨fun i hi=>(h.1 i hi).mono hfg,fun hi v hv=>(h.2 hi v hv).mono hfg⟩
theorem mK.tmps {f:Map} {ds:List (Option Tmp)} {lo:List Value} {tmps tmps':Array Value} {t:Tmp} (h:mK f ds lo tm tmps t) (e:tmps'.getD t undef=tmps.getD t undef):mK f ds lo tm tmps' t:=by
 unfold mK
 rw [e];exact h
theorem Wi {d:Option Tmp} {ds:List (Option Tmp)} {t:Tmp} (h:d≠some t):idx (d::ds) t=(idx ds t).map (·+1):=by
 cases d with
 | none=>rfl
 | some u =>
  show (bif Nat.beq u t then some 0 else (idx ds t).map (·+1))=_
  cases hb:Nat.beq u t with
  | true=>exact absurd (by rw [Nat.eq_of_beq_eq_true hb]) h
  | false=>rfl
theorem Hz {ds:List (Option Tmp)} {t:Tmp}:idx (some t::ds) t=some 0:=by
 show (bif Nat.beq t t then some 0 else (idx ds t).map (·+1))=_
 rw [Nat.beq_refl];rfl
theorem aBo {f:Map} {d:Option Tmp} {ds:List (Option Tmp)} {lo:List Value} {v:Value} {tmps:Array Value} {t:Tmp} (h:d≠some t):mK f (d::ds) (v::lo) tm tmps t↔mK f ds lo tm tmps t:=by
 unfold mK
 rw [Wi h]
 cases hi:idx ds t with
 | none=>simp
 | some i =>
  constructor
  · rintro ⟨h1,_⟩
    exact ⟨fun j hj=>by cases hj;exact h1 (i+1) rfl,fun h=>by cases h⟩
  · rintro ⟨h1,_⟩
    exact ⟨fun j hj=>by cases hj;exact h1 i rfl,fun h=>by cases h⟩
theorem fR.aQv (hF:fR P cx ops an call tm nt T) {f:Map} {tmps:Array Value} {t:Tmp} {i:Nat}:∀ j,i+j≤ops.size→(∀ k o,i≤k→k<i+j→ops[k]?=some o→o.dst≠some t)→(mK f (gS ops (i+j)) (T (i+j)).lo tm tmps t↔mK f (gS ops i) (T i).lo tm tmps t):=by
 intro j
 induction j with
 | zero=>intro _ _;exact Iff.rfl
 | succ j ih =>
  intro h hn
  rw [← ih (by omega) fun k o h1 h2=>hn k o h1 (by omega)]
  obtain ⟨o,ho,_⟩:=(hF (i+j) (by omega)).op
  obtain ⟨v,hv⟩:=(hF.heap (k:=i+j) (by omega)).2.2.2.2.2
  show mK f (gS ops (i+j+1)) (T (i+j+1)).lo tm tmps t↔_
  rw [Fy ho,hv]
  exact aBo (hn (i+j) o (by omega) (by omega) ho)
def aYh (ops:Array Oper) (D:Nat→Prop) (t:Tmp) (m:Nat):Prop:=m≤ops.size∧∀ (i:Nat) (o:Oper),ops[i]?=some o→o.dst=some t→(D i↔i<m)
def o0 (ops:Array Oper) (an:cG.T Nat) (tm:cG.T Value) (T:Nat→St) (D:Nat→Prop) (f:Map) (tmps:Array Value):Prop :=
 ∀ S,Clo an S→∀ t m,aYh ops D t m→(∀ (i:Nat) (o:Oper),ops[i]?=some o→o.dst=some t→D i→S i)→mK (Um T ops.size f S) (gS ops m) (T m).lo tm tmps t
theorem o0.step (hO:vJ ops an) (hF:fR P cx ops an call tm nt T) {D:Nat→Prop} {f f':Map} {a:Act} {k:Nat} {o:Oper} {v v':Value} (hk:ops[k]?=some o) (hlo:(T (k+1)).lo=v::(T k).lo) (hDk:¬ D k) (hDc:Clo an D)
 (inv:o0 ops an tm T D f a.tmps) (hle:∀ S,(Um T ops.size f S).le (Um T ops.size f' S)) (hv:∀ S,Clo an S→S k→bS (Um T ops.size f' S) v v') (hdst:∀ t,o.dst=some t→t<a.tmps.size) :
 o0 ops an tm T (fun i=>D i∨i=k) f' (a.put o.dst v').tmps:=by
 intro S hS t m hcut hw
 have hkn:k<ops.size:=(Array.getElem?_eq_some_iff.1 hk).1
 by_cases ht:o.dst=some t
 ·
  have hkm:k<m:=((hcut.2 k o hk ht).1 (.inr rfl))
  have hno:∀ i oi,k+1≤i→i<m→ops[i]?=some oi→oi.dst≠some t:=fun i oi h1 h2 hi hd=>by
   have hDi:D i:=((hcut.2 i oi hi hd).2 h2).resolve_right (by omega)
   rcases hO.slot k i o oi t hk hi ht (by simp [hd]) with e|hc
   · omega
   · rcases mZ.1 hc with hb|hb
     · exact hDk (hDc i hDi k hb)
     · have:=hO.Fx k o hk i hb;omega
  obtain ⟨j,rfl⟩:=Nat.exists_eq_add_of_le (show k+1≤m from hkm)
  rw [hF.aQv j hcut.1 fun i oi h1 h2=>hno i oi h1 h2,Fy hk,hlo,ht]
  refine ⟨fun i hi=>?_,fun hi=>by rw [Hz] at hi;cases hi⟩
  rw [Hz] at hi;cases hi
  have:(a.put (some t) v').tmps.getD t undef=v':=by
   show (a.tmps.setIfInBounds t v').getD t undef=v'
   simp [Array.getD_eq_getD_getElem?,hdst t ht]
  rw [this]
  exact hv S hS (hw k o hk ht (.inr rfl))
 · have e:(a.put o.dst v').tmps.getD t undef=a.tmps.getD t undef:=by
    cases hd:o.dst with
    | none=>rfl
    | some u =>
     have hne:u≠t:=fun e=>ht (by rw [hd,e])
     show (a.tmps.setIfInBounds u v').getD t undef=_
     simp [Array.getD_eq_getD_getElem?,hne]
   refine mK.tmps (mK.mono (inv S hS t m ⟨hcut.1,fun i oi hi hd=>?_⟩ fun i oi hi hd hDi=>hw i oi hi hd (.inl hDi)) (hle S)) e
   rw [← hcut.2 i oi hi hd]
   have:i≠k:=fun e=>by subst e;rw [hk] at hi;cases hi;exact ht hd
   simp [this]
end
section
variable {P:Program} {cx:Cx} {ops:Array Oper} {an:T Nat} {call:Call} {tm:T Value} {nt:Nat} {T:Nat→St}
def Ga (ops:Array Oper) (T:Nat→St) (D:Nat→Prop) (b m:Nat):Prop:=m≤ops.size∧∀ i,i<ops.size→Wr T i b→(D i↔i<m)
structure gJ (ops:Array Oper) (an:cG.T Nat) (T:Nat→St) (f0:Map) (D:Nat→Prop) (f:Map) (w:World):Prop where
 dom:∀ b i,f b=some i→b<(T 0).h.next∨∃ j,j<ops.size∧D j∧Pt T j b
 dL:∀ b,b<(T 0).h.next→f b=f0 b
 obj:∀ S,Clo an S→∀ b m i o,f b=some i→Ga ops T D b m→(∀ j,j<ops.size→Wr T j b→D j→S j)→(T m).h.at b=some o→∃ x,w.heap[i.fE]?=some x∧pD (Um T ops.size f S) i o x
 inj:∀ b c i j m m',f b=some i→f c=some j→Ga ops T D b m→Ga ops T D c m'→((T m).h.at b).isSome→((T m').h.at c).isSome→i.fE=j.fE→b=c
 fresh:∀ b i,f b=some i→i.fE<w.heap.size
structure jY (ops:Array Oper) (T:Nat→St) (f0:Map) (w0:World) (D:Nat→Prop) (f:Map) (w:World):Prop where
 size:w0.heap.size≤w.heap.size
 tape:w.tape=w0.tape
 os:w.os=w0.os
 out:w.output=w0.output
 bT:∀ c,c<w0.heap.size→(∀ b i,f0 b=some i→i.fE=c→((T 0).h.at b).isSome→b<(T 0).h.base∧∀ k,k<ops.size→D k→b∉(T (k+1)).L)→w.heap[c]?=w0.heap[c]?
 news:∀ b i,f0 b=none→f b=some i→(T 0).h.next≤b∧(w0.heap.size≤i.fE∨∃ c j,f0 c=some j∧j.fE=i.fE∧((T 0).h.at c).isSome∧((T 0).h.base≤c∨∃ k,k<ops.size∧D k∧c∈(T (k+1)).L))
structure Next (ops:Array Oper) (an:cG.T Nat) (D:Nat→Prop) (k:Nat) (o:Oper):Prop where
 op:ops[k]?=some o
 not:¬ D k
 clo:Clo an D
 pre:∀ i,Fw an i k→D i
theorem Next.lt {D:Nat→Prop} {k:Nat} {o:Oper} (h:Next ops an D k o):k<ops.size:=(Array.getElem?_eq_some_iff.1 h.op).1
theorem Next.cut (hO:vJ ops an) {D:Nat→Prop} {k:Nat} {o:Oper} (h:Next ops an D k o) {j:Nat} (hj:j=k∨comp an j k=true) (hjn:j<ops.size):(D j↔j<k)∧(D j→Fw an j k):=by
 rcases hj with rfl|hc
 · exact ⟨⟨fun e=>absurd e h.not,fun e=>by omega⟩,fun e=>absurd e h.not⟩
 · rcases mZ.1 hc with hb|hb
   · exact ⟨⟨fun _=>hO.Fx k o h.op j hb,fun _=>h.pre j hb⟩,fun _=>hb⟩
   · have hlt:=hO.Fx j ops[j] (by simp [hjn]) k hb
     exact ⟨⟨fun e=>absurd (h.clo j e k hb) h.not,fun e=>by omega⟩,fun e=>absurd (h.clo j e k hb) h.not⟩
section
variable {f0:Map} {D:Nat→Prop} {f:Map} {w:World} {k:Nat} {o:Oper}
theorem Ga.drop {b m:Nat} (h:Ga ops T (fun i=>D i∨i=k) b m) (hW:¬ Wr T k b):Ga ops T D b m:=⟨h.1,fun i hi hw=>by
 rw [← h.2 i hi hw]
 have:i≠k:=fun e=>by subst e;exact hW hw
 simp [this]⟩
theorem gJ.quiet (inv:gJ ops an T f0 D f w) (hW:∀ b,¬ Wr T k b):gJ ops an T f0 (fun i=>D i∨i=k) f w :=
 ⟨fun b i h=>(inv.dom b i h).imp id fun ⟨j,h1,h2,h3⟩=>⟨j,h1,.inl h2,h3⟩,inv.dL,
   fun S hS b m i o h hc hw ho=>inv.obj S hS b m i o h (hc.drop (hW b)) (fun j h1 h2 h3=>hw j h1 h2 (.inl h3)) ho,
   fun b c i j m m' hb hc cb cc=>inv.inj b c i j m m' hb hc (cb.drop (hW b)) (cc.drop (hW c)),inv.fresh⟩
theorem jY.quiet {w0:World} (inv:jY ops T f0 w0 D f w):jY ops T f0 w0 (fun i=>D i∨i=k) f w :=
 ⟨inv.size,inv.tape,inv.os,inv.out,fun c hc h=>inv.bT c hc fun b i h1 h2 h3=>⟨(h b i h1 h2 h3).1,fun k' h4 h5=>(h b i h1 h2 h3).2 k' h4 (.inl h5)⟩,
   fun b i h1 h2=>(inv.news b i h1 h2).imp id fun h=>h.imp id fun ⟨c,j,a1,a2,a3,a4⟩=>⟨c,j,a1,a2,a3,a4.imp id fun ⟨k',b1,b2,b3⟩=>⟨k',b1,.inl b2,b3⟩⟩⟩
noncomputable abbrev lC (ops:Array Oper) (an:cG.T Nat) (T:Nat→St) (f:Map) (k:Nat):Map:=Um T ops.size f fun i=>Fw an i k
theorem zM (hO:vJ ops an) (hF:fR P cx ops an call tm nt T) (hn:Next ops an D k o) {b:Nat} {i:Cn} (h:lC ops an T f k b=some i):b<(T k).h.next:=by
 rcases (iQ.1 h).1 with h1|⟨j,h1,h2,h3⟩
 · exact Nat.lt_of_lt_of_le h1 (hF.uJ (Nat.zero_le _) (Nat.le_of_lt hn.lt))
 · exact hF.Rx h3 (hO.Fx k o hn.op j h2) (Nat.le_of_lt hn.lt)
theorem aFz (hO:vJ ops an) (hF:fR P cx ops an call tm nt T) (hn:Next ops an D k o) (ht:uD o=true) {b:Nat} {i:Cn} (h:lC ops an T f k b=some i):Ga ops T D b k∧∀ j,j<ops.size→Wr T j b→D j→Fw an j k:=by
 have key:∀ j,j<ops.size→Wr T j b→j=k∨comp an j k=true:=fun j hj hw=>by
  rcases (iQ.1 h).1 with h1|⟨j0,h1,h2,h3⟩
  · rcases hw with hw|hw
    · rcases (hF j hj).may b hw with ⟨_,h5⟩|⟨j',h5,h6,_⟩
      · exact (h5 k o hn.op ht).elim (fun e=>.inl e.symm) fun e=>.inr (zL e)
      · have:=hF.vK h6 (Nat.zero_le _) (by omega);omega
    · have:=hF.vK hw (Nat.zero_le _) hj;omega
  · rcases hw with hw|hw
    · rcases (hF j hj).may b hw with ⟨h5,_⟩|⟨j',h5,h6,h7,h8⟩
      · have:=hF.vK h3 (Nat.zero_le _) h1;omega
      · have:=hF.vL h6 h3 (by omega) h1
        subst this
        exact (h8 k o hn.op ht (.inr h2)).elim (fun e=>.inl e.symm) fun e=>.inr (zL e)
    · have:=hF.vL hw h3 hj h1
      subst this
      exact .inr (mZ.2 (.inl h2))
 exact ⟨⟨Nat.le_of_lt hn.lt,fun j hj hw=>(hn.cut hO (key j hj hw) hj).1⟩,fun j hj hw=>(hn.cut hO (key j hj hw) hj).2⟩
theorem aDA (hO:vJ ops an) (hk:ops[k]?=some o):Clo an fun i=>Fw an i k:=fun j hj i hi=>hO.trans k o hk i j hi hj
theorem aUG (hO:vJ ops an) (hF:fR P cx ops an call tm nt T) (hdead:∀ b,(T 0).h.next≤b→(T 0).h.at b=none) (hn:Next ops an D k o) (ht:uD o=true) (inv:gJ ops an T f0 D f w) :
 gX (lC ops an T f k) (aS (T k).h (T k).h.next []) w:=by
 refine ⟨fun b o' i hb ho=>?_,fun b c i j hb hc lb lc e=>?_,fun b i hb=>⟨zM hO hF hn hb,inv.fresh b i (oO b i hb)⟩,hF.dead hdead k (Nat.le_of_lt hn.lt),Nat.le_refl _⟩
 · obtain ⟨h1,h2⟩:=aFz hO hF hn ht hb
   exact inv.obj _ (aDA hO hn.op) b k i o' (oO b i hb) h1 h2 ho
 · exact inv.inj b c i j k k (oO b i hb) (oO c j hc) (aFz hO hF hn ht hb).1 (aFz hO hF hn ht hc).1 lb lc e
open Classical in
noncomputable def mP (T:Nat→St) (f f1:Map) (k:Nat):Map:=fun b=>if Pt T k b then f1 b else f b
section
variable {f1:Map} {h1:Hp} {w':World} {v:Value}
theorem aDB (hF:fR P cx ops an call tm nt T) (hn:Next ops an D k o) (inv:gJ ops an T f0 D f w) {b:Nat} {i:Cn} (h:f b=some i):¬ Pt T k b:=fun ho=>by
 rcases inv.dom b i h with h1|⟨j,h1,h2,h3⟩
 · have:=hF.vK ho (Nat.zero_le _) hn.lt;omega
 · have:=hF.vL h3 ho h1 hn.lt
   subst this;exact hn.not h2
theorem Ja (hF:fR P cx ops an call tm nt T) (hn:Next ops an D k o) (inv:gJ ops an T f0 D f w) (S:Nat→Prop):(Um T ops.size f S).le (Um T ops.size (mP T f f1 k) S):=fun b i h=>by
 obtain ⟨h1,h2⟩:=iQ.1 h
 refine iQ.2 ⟨h1,?_⟩
 unfold mP
 rw [if_neg (aDB hF hn inv h2)]
 exact h2
theorem Jb (hO:vJ ops an) (hF:fR P cx ops an call tm nt T) (hn:Next ops an D k o) (inv:gJ ops an T f0 D f w) (hle:(lC ops an T f k).le f1)
 (hown:∀ b i,f1 b=some i→lC ops an T f k b=none→Pt T k b) {S:Nat→Prop} (hS:Clo an S) (hSk:S k):f1.le (Um T ops.size (mP T f f1 k) S):=fun b i h=>by
 cases hb:lC ops an T f k b with
 | some j =>
  have:=hle b j hb
  rw [h] at this;cases this
  obtain ⟨h2,h3⟩:=iQ.1 hb
  refine iQ.2 ⟨h2.imp id fun ⟨j,a,b,c⟩=>⟨j,a,hS k hSk j b,c⟩,?_⟩
  unfold mP
  rw [if_neg (aDB hF hn inv h3)]
  exact h3
 | none =>
  have ho:=hown b i h hb
  refine iQ.2 ⟨.inr ⟨k,hn.lt,hSk,ho⟩,?_⟩
  unfold mP
  rw [if_pos ho]
  exact h
theorem gJ.gen (hO:vJ ops an) (hF:fR P cx ops an call tm nt T) (hn:Next ops an D k o) (ht:uD o=true) (inv:gJ ops an T f0 D f w)
 (hT:T (k+1)=⟨aS h1 (T k).h.base (below (T k).h.base h1.log (T k).h.log),v::(T k).lo,h1.log.filter fun b=>decide (b<(T k).h.next),none⟩)
 (hA:cV (aS (T k).h (T k).h.next []) h1) (hC:cY (lC ops an T f k) (aS (T k).h (T k).h.next []) w f1 h1 w') :
 gJ ops an T f0 (fun i=>D i∨i=k) (mP T f f1 k) w'∧(∀ b i,f1 b=some i→lC ops an T f k b=none→Pt T k b):=by
 have hat:∀ b,(T (k+1)).h.at b=h1.at b:=fun b=>by rw [hT];rfl
 have hnx:(T (k+1)).h.next=h1.next:=by rw [hT];rfl
 have hLm:∀ b,b∈(T (k+1)).L↔b∈h1.log∧b<(T k).h.next:=fun b=>by rw [hT];simp [List.mem_filter]
 have hown:∀ b i,f1 b=some i→lC ops an T f k b=none→Pt T k b:=fun b i h hb=>⟨(hC.news b i hb h).1,by rw [hnx];exact (hC.rel.fresh b i h).1⟩
 have hkl:∀ {b i},lC ops an T f k b=some i→b<(T k).h.next:=fun h=>zM hO hF hn h
 have wrK:∀ b i,Wr T k b→mP T f f1 k b=some i→f1 b=some i:=fun b i hw h=>by
  unfold mP at h
  split at h
  · exact h
  · rename_i hno
    have hL:=hw.resolve_right hno
    refine hC.le b i (iQ.2 ⟨?_,h⟩)
    exact ((hF k hn.lt).may b hL).imp (fun h=>h.1) fun ⟨j,a1,a2,a3,_⟩=>⟨j,Nat.lt_trans a1 hn.lt,a3,a2⟩
 have nwK:∀ b i,¬ Wr T k b→mP T f f1 k b=some i→f b=some i:=fun b i hw h=>by
  unfold mP at h
  rwa [if_neg (fun e=>hw (.inr e))] at h
 have atK:∀ b m,Wr T k b→Ga ops T (fun i=>D i∨i=k) b m→(T m).h.at b=h1.at b:=fun b m hw hc=>by
  have hkm:k<m:=(hc.2 k hn.lt hw).1 (.inr rfl)
  rw [← hat]
  obtain ⟨j,rfl⟩:=Nat.exists_eq_add_of_le (show k+1≤m from hkm)
  refine hF.aDz ?_ j hc.1 fun i h1 h2 hL=>?_
  · rcases hw with hw|hw
    · exact Nat.lt_of_lt_of_le ((hLm b).1 hw).2 (hF.heap hn.lt).1
    · exact hw.2
  · have hin:i<ops.size:=Nat.lt_of_lt_of_le h2 hc.1
    have hDi:D i:=((hc.2 i hin (.inl hL)).2 h2).resolve_right (by omega)
    rcases hF.ww hn.lt hin hw (.inl hL) with e|hcm
    · omega
    · rcases mZ.1 hcm with hb|hb
      · exact hn.not (hn.clo i hDi k hb)
      · have:=hO.Fx k o hn.op i hb;omega
 have mix:∀ b c i j m m',mP T f f1 k b=some i→mP T f f1 k c=some j→Ga ops T (fun i=>D i∨i=k) b m→Ga ops T (fun i=>D i∨i=k) c m'→((T m).h.at b).isSome→((T m').h.at c).isSome→i.fE=j.fE→Wr T k b→¬ Wr T k c→False:=fun b c i j m m' hb hc cb cc lb lc e hWb hWc=>by
  have hfc:=nwK c j hWc hc
  have hcc:=cc.drop hWc
  have hf1:=wrK b i hWb hb
  rw [atK b m hWb cb] at lb
  cases hfk:lC ops an T f k b with
  | some i' =>
   have:=hC.le b i' hfk
   rw [hf1] at this;cases this
   have lb':((T k).h.at b).isSome:=by
    cases hx:(T k).h.at b with
    | some _=>rfl
    | none=>rw [hA.dead b (hkl hfk) hx] at lb;cases lb
   have:=inv.inj b c i j k m' (oO b i hfk) hfc (aFz hO hF hn ht hfk).1 hcc lb' lc e
   subst this
   exact hWc hWb
  | none =>
   obtain ⟨_,hor⟩:=hC.news b i hfk hf1
   rcases hor with hor|⟨c2,j2,a1,a2,a3,a4⟩
   · have:=inv.fresh c j hfc
     omega
   · have hlt:=hkl a1
     have hlog:c2∈h1.log:=a4.resolve_left (by show ¬ (T k).h.next≤c2;omega)
     have:=inv.inj c2 c j2 j k m' (oO c2 j2 a1) hfc (aFz hO hF hn ht a1).1 hcc a3 lc (a2.trans e)
     subst this
     exact hWc (.inl ((hLm c2).2 ⟨hlog,hlt⟩))
 refine ⟨⟨fun b i h=>?_,fun b hb=>?_,fun S hS b m i o' h hc hw ho=>?_,fun b c i j m m' hb hc cb cc lb lc e=>?_,fun b i h=>?_⟩,hown⟩
 · unfold mP at h
   split at h
   · rename_i hO';exact .inr ⟨k,hn.lt,.inr rfl,hO'⟩
   · exact (inv.dom b i h).imp id fun ⟨j,a1,a2,a3⟩=>⟨j,a1,.inl a2,a3⟩
 · unfold mP
   rw [if_neg (fun e=>by have:=hF.vK e (Nat.zero_le _) hn.lt;omega)]
   exact inv.dL b hb
 · by_cases hW:Wr T k b
   · rw [atK b m hW hc] at ho
     obtain ⟨x,hx,hor⟩:=hC.rel.obj b o' i (wrK b i hW h) ho
     exact ⟨x,hx,hor.mono (Jb hO hF hn inv hC.le hown hS (hw k hn.lt hW (.inr rfl)))⟩
   · have hf:=nwK b i hW h
     have hcD:=hc.drop hW
     obtain ⟨x,hx,hor⟩:=inv.obj S hS b m i o' hf hcD (fun j a1 a2 a3=>hw j a1 a2 (.inl a3)) ho
     refine ⟨x,?_,hor.mono (Ja hF hn inv S)⟩
     rw [hC.bT i.fE (inv.fresh b i hf) fun b2 i2 g1 g2 g3=>?_]
     · exact hx
     · have hlt:=hkl g1
       have:=inv.inj b2 b i2 i k m (oO b2 i2 g1) hf (aFz hO hF hn ht g1).1 hcD g3 (by rw [ho];rfl) g2
       subst this
       exact ⟨hlt,fun hl=>hW (.inl ((hLm b2).2 ⟨hl,hlt⟩))⟩
 · by_cases hWb:Wr T k b
   · by_cases hWc:Wr T k c
     · rw [atK b m hWb cb] at lb
       rw [atK c m' hWc cc] at lc
       exact hC.rel.inj b c i j (wrK b i hWb hb) (wrK c j hWc hc) lb lc e
     · exact (mix b c i j m m' hb hc cb cc lb lc e hWb hWc).elim
   · by_cases hWc:Wr T k c
     · exact (mix c b j i m' m hc hb cc cb lc lb e.symm hWc hWb).elim
     · exact inv.inj b c i j m m' (nwK b i hWb hb) (nwK c j hWc hc) (cb.drop hWb) (cc.drop hWc) lb lc e
 · unfold mP at h
   split at h
   · exact (hC.rel.fresh b i h).2
   · exact Nat.lt_of_lt_of_le (inv.fresh b i h) hC.size
theorem jY.gen {w0:World} (hO:vJ ops an) (hF:fR P cx ops an call tm nt T) (hn:Next ops an D k o) (hinv:gJ ops an T f0 D f w) (inv:jY ops T f0 w0 D f w) (hf0:∀ b i,f0 b=some i→b<(T 0).h.next)
 (hT:T (k+1)=⟨aS h1 (T k).h.base (below (T k).h.base h1.log (T k).h.log),v::(T k).lo,h1.log.filter fun b=>decide (b<(T k).h.next),none⟩)
 (hC:cY (lC ops an T f k) (aS (T k).h (T k).h.next []) w f1 h1 w') :
 jY ops T f0 w0 (fun i=>D i∨i=k) (mP T f f1 k) w':=by
 have hLm:∀ b,b∈(T (k+1)).L↔b∈h1.log∧b<(T k).h.next:=fun b=>by rw [hT];simp [List.mem_filter]
 have hkl:∀ {b i},lC ops an T f k b=some i→b<(T k).h.next:=fun h=>zM hO hF hn h
 have live:∀ b i,f0 b=some i→((T k).h.at b).isSome→((T 0).h.at b).isSome:=fun b i hb hl=>by
  cases hx:(T 0).h.at b with
  | some _=>rfl
  | none =>
   have:=hF.aQu (i:=0) (hf0 b i hb) hx k (by have:=hn.lt;omega)
   rw [Nat.zero_add] at this
   rw [this] at hl;cases hl
 refine ⟨Nat.le_trans inv.size hC.size,hC.tape.trans inv.tape,hC.os.trans inv.os,hC.out.trans inv.out,fun c hc h=>?_,fun b i hb h=>?_⟩
 · have e:=inv.bT c hc fun b i g1 g2 g3=>⟨(h b i g1 g2 g3).1,fun k' a1 a2=>(h b i g1 g2 g3).2 k' a1 (.inl a2)⟩
   rw [← e]
   refine hC.bT c (Nat.lt_of_lt_of_le hc inv.size) fun b i g1 g2 g3=>?_
   have hlt:=hkl g1
   refine ⟨hlt,fun hl=>?_⟩
   have hL:=(hLm b).2 ⟨hl,hlt⟩
   have hfb:=oO b i g1
   cases hf:f0 b with
   | some i' =>
    have he:=hinv.dL b (hf0 b i' hf)
    rw [hfb,hf] at he;cases he
    exact (h b i hf g2 (live b i hf g3)).2 k hn.lt (.inr rfl) hL
   | none =>
    obtain ⟨_,hor⟩:=inv.news b i hf hfb
    rcases hor with hor|⟨c',j,a1,a2,a3,a4⟩
    · omega
    · obtain ⟨p,q⟩:=h c' j a1 (a2.trans g2) a3
      rcases a4 with a4|⟨k',a4,a5,a6⟩
      · omega
      · exact q k' a4 (.inl a5) a6
 · unfold mP at h
   split at h
   · rename_i hown
     have hfk:lC ops an T f k b=none:=by
      cases hx:lC ops an T f k b with
      | none=>rfl
      | some j=>have:=hkl hx;exact absurd hown.1 (by omega)
     obtain ⟨g1,hor⟩:=hC.news b i hfk h
     refine ⟨Nat.le_trans (hF.uJ (Nat.zero_le k) (Nat.le_of_lt hn.lt)) g1,?_⟩
     rcases hor with hor|⟨c2,j2,a1,a2,a3,a4⟩
     · exact .inl (Nat.le_trans inv.size hor)
     · have hlt:=hkl a1
       have hlog:c2∈h1.log:=a4.resolve_left (by show ¬ (T k).h.next≤c2;omega)
       have hL:=(hLm c2).2 ⟨hlog,hlt⟩
       have hfc:=oO c2 j2 a1
       cases hf:f0 c2 with
       | some j' =>
        have he:=hinv.dL c2 (hf0 c2 j' hf)
        rw [hfc,hf] at he;cases he
        exact .inr ⟨c2,j2,hf,a2,live c2 j2 hf a3,.inr ⟨k,hn.lt,.inr rfl,hL⟩⟩
       | none =>
        obtain ⟨_,hor'⟩:=inv.news c2 j2 hf hfc
        rcases hor' with hor'|⟨c',j',b1,b2,b3,b4⟩
        · exact .inl (by omega)
        · exact .inr ⟨c',j',b1,b2.trans a2,b3,b4.imp id fun ⟨k',x1,x2,x3⟩=>⟨k',x1,.inl x2,x3⟩⟩
   · obtain ⟨g1,g2⟩:=inv.news b i hb h
     exact ⟨g1,g2.imp id fun ⟨c,j,a1,a2,a3,a4⟩=>⟨c,j,a1,a2,a3,a4.imp id fun ⟨k',x1,x2,x3⟩=>⟨k',x1,.inl x2,x3⟩⟩⟩
def blank (n:Nat):Hp:=⟨.nil,n,n,[]⟩
theorem uK (n b:Nat):(blank n).at b=none:=rfl
theorem aUH (hO:vJ ops an) (hF:fR P cx ops an call tm nt T) (hn:Next ops an D k o) (inv:gJ ops an T f0 D f w):gX (lC ops an T f k) (blank (T k).h.next) w :=
 ⟨fun b o' i _ ho=>by (rw [uK] at ho;cases ho),fun b c i j _ _ lb=>by (rw [uK] at lb;cases lb),fun b i hb=>⟨zM hO hF hn hb,inv.fresh b i (oO b i hb)⟩,fun _ _=>rfl,Nat.le_refl _⟩
variable {ob:dY}
theorem Wj (hT:T (k+1)=⟨aS h1 (T k).h.base (below (T k).h.base h1.log (T k).h.log),v::(T k).lo,h1.log.filter fun b=>decide (b<(T k).h.next),none⟩)
 (he:h1=(aS (T k).h (T k).h.next []).new ob):(T (k+1)).L=[]∧(T (k+1)).h.next=(T k).h.next+1∧∀ b,(T (k+1)).h.at b=if (T k).h.next=b then some ob else (T k).h.at b:=by
 refine ⟨?_,?_,fun b=>?_⟩
 · rw [hT,he];rfl
 · rw [hT,he];rfl
 · rw [hT]
   show h1.at b=_
   rw [he,Hp.tE];rfl
theorem gJ.made (hO:vJ ops an) (hF:fR P cx ops an call tm nt T) (hn:Next ops an D k o) (inv:gJ ops an T f0 D f w)
 (hT:T (k+1)=⟨aS h1 (T k).h.base (below (T k).h.base h1.log (T k).h.log),v::(T k).lo,h1.log.filter fun b=>decide (b<(T k).h.next),none⟩)
 (he:h1=(aS (T k).h (T k).h.next []).new ob) (hC:cY (lC ops an T f k) (blank (T k).h.next) w f1 ((blank (T k).h.next).new ob) w') :
 gJ ops an T f0 (fun i=>D i∨i=k) (mP T f f1 k) w'∧(∀ b i,f1 b=some i→lC ops an T f k b=none→Pt T k b):=by
 obtain ⟨hL,hnx,hat⟩:=Wj hT he
 have hown:∀ b i,f1 b=some i→lC ops an T f k b=none→Pt T k b:=fun b i h hb=>⟨(hC.news b i hb h).1,by rw [hnx];exact (hC.rel.fresh b i h).1⟩
 have hkl:∀ {b i},lC ops an T f k b=some i→b<(T k).h.next:=fun h=>zM hO hF hn h
 have own_eq:∀ {b},Pt T k b→b=(T k).h.next:=fun {b} h=>by
  have h1:=h.1
  have h2:=h.2
  rw [hnx] at h2
  omega
 have wr_own:∀ {b},Wr T k b→Pt T k b:=fun {b} h=>h.resolve_left (by rw [hL];simp)
 have wrK:∀ b i,Wr T k b→mP T f f1 k b=some i→f1 b=some i:=fun b i hw h=>by
  unfold mP at h
  rwa [if_pos (wr_own hw)] at h
 have nwK:∀ b i,¬ Wr T k b→mP T f f1 k b=some i→f b=some i:=fun b i hw h=>by
  unfold mP at h
  rwa [if_neg (fun e=>hw (.inr e))] at h
 have atK:∀ b m,Wr T k b→Ga ops T (fun i=>D i∨i=k) b m→(T m).h.at b=some ob:=fun b m hw hc=>by
  have hkm:k<m:=(hc.2 k hn.lt hw).1 (.inr rfl)
  have hb:=own_eq (wr_own hw)
  have e1:(T (k+1)).h.at b=some ob:=by rw [hat,if_pos hb.symm]
  rw [← e1]
  obtain ⟨j,rfl⟩:=Nat.exists_eq_add_of_le (show k+1≤m from hkm)
  refine hF.aDz (wr_own hw).2 j hc.1 fun i h1 h2 hLi=>?_
  have hin:i<ops.size:=Nat.lt_of_lt_of_le h2 hc.1
  have hDi:D i:=((hc.2 i hin (.inl hLi)).2 h2).resolve_right (by omega)
  rcases hF.ww hn.lt hin hw (.inl hLi) with e|hcm
  · omega
  · rcases mZ.1 hcm with hb|hb
    · exact hn.not (hn.clo i hDi k hb)
    · have:=hO.Fx k o hn.op i hb;omega
 have far:∀ b i,Wr T k b→mP T f f1 k b=some i→w.heap.size≤i.fE:=fun b i hw h=>by
  have hf1:=wrK b i hw h
  have hfk:lC ops an T f k b=none:=by
   cases hx:lC ops an T f k b with
   | none=>rfl
   | some j =>
    have h1:=hkl hx
    have h2:=(wr_own hw).1
    omega
  rcases (hC.news b i hfk hf1).2 with h|⟨c,j,_,_,h3,_⟩
  · exact h
  · rw [uK] at h3;cases h3
 refine ⟨⟨fun b i h=>?_,fun b hb=>?_,fun S hS b m i o' h hc hw ho=>?_,fun b c i j m m' hb hc cb cc lb lc e=>?_,fun b i h=>?_⟩,hown⟩
 · unfold mP at h
   split at h
   · rename_i hO';exact .inr ⟨k,hn.lt,.inr rfl,hO'⟩
   · exact (inv.dom b i h).imp id fun ⟨j,a1,a2,a3⟩=>⟨j,a1,.inl a2,a3⟩
 · unfold mP
   rw [if_neg (fun e=>by have:=hF.vK e (Nat.zero_le _) hn.lt;omega)]
   exact inv.dL b hb
 · by_cases hW:Wr T k b
   · rw [atK b m hW hc] at ho
     cases ho
     have hb:=own_eq (wr_own hW)
     obtain ⟨x,hx,hor⟩:=hC.rel.obj b ob i (wrK b i hW h) (by rw [Hp.tE];exact if_pos hb.symm)
     exact ⟨x,hx,hor.mono (Jb hO hF hn inv hC.le hown hS (hw k hn.lt hW (.inr rfl)))⟩
   · have hf:=nwK b i hW h
     have hcD:=hc.drop hW
     obtain ⟨x,hx,hor⟩:=inv.obj S hS b m i o' hf hcD (fun j a1 a2 a3=>hw j a1 a2 (.inl a3)) ho
     refine ⟨x,?_,hor.mono (Ja hF hn inv S)⟩
     rw [hC.bT i.fE (inv.fresh b i hf) fun b2 i2 g1 g2 g3=>by (rw [uK] at g3;cases g3)]
     exact hx
 · by_cases hWb:Wr T k b
   · by_cases hWc:Wr T k c
     · rw [own_eq (wr_own hWb),own_eq (wr_own hWc)]
     · have h1:=far b i hWb hb
       have h2:=inv.fresh c j (nwK c j hWc hc)
       omega
   · by_cases hWc:Wr T k c
     · have h1:=far c j hWc hc
       have h2:=inv.fresh b i (nwK b i hWb hb)
       omega
     · exact inv.inj b c i j m m' (nwK b i hWb hb) (nwK c j hWc hc) (cb.drop hWb) (cc.drop hWc) lb lc e
 · unfold mP at h
   split at h
   · exact (hC.rel.fresh b i h).2
   · exact Nat.lt_of_lt_of_le (inv.fresh b i h) hC.size
theorem jY.made {w0:World} (hO:vJ ops an) (hF:fR P cx ops an call tm nt T) (hn:Next ops an D k o) (hinv:gJ ops an T f0 D f w) (inv:jY ops T f0 w0 D f w)
 (hT:T (k+1)=⟨aS h1 (T k).h.base (below (T k).h.base h1.log (T k).h.log),v::(T k).lo,h1.log.filter fun b=>decide (b<(T k).h.next),none⟩)
 (he:h1=(aS (T k).h (T k).h.next []).new ob) (hC:cY (lC ops an T f k) (blank (T k).h.next) w f1 ((blank (T k).h.next).new ob) w') :
 jY ops T f0 w0 (fun i=>D i∨i=k) (mP T f f1 k) w':=by
 obtain ⟨hL,hnx,hat⟩:=Wj hT he
 refine ⟨Nat.le_trans inv.size hC.size,hC.tape.trans inv.tape,hC.os.trans inv.os,hC.out.trans inv.out,fun c hc h=>?_,fun b i hb h=>?_⟩
 · have e:=inv.bT c hc fun b i g1 g2 g3=>⟨(h b i g1 g2 g3).1,fun k' a1 a2=>(h b i g1 g2 g3).2 k' a1 (.inl a2)⟩
   rw [← e]
   exact hC.bT c (Nat.lt_of_lt_of_le hc inv.size) fun b i g1 g2 g3=>by (rw [uK] at g3;cases g3)
 · unfold mP at h
   split at h
   · rename_i hown
     have hfk:lC ops an T f k b=none:=by
      cases hx:lC ops an T f k b with
      | none=>rfl
      | some j=>have:=zM hO hF hn hx;exact absurd hown.1 (by omega)
     obtain ⟨g1,hor⟩:=hC.news b i hfk h
     refine ⟨Nat.le_trans (hF.uJ (Nat.zero_le k) (Nat.le_of_lt hn.lt)) g1,?_⟩
     rcases hor with hor|⟨c2,j2,a1,a2,a3,a4⟩
     · exact .inl (Nat.le_trans inv.size hor)
     · rw [uK] at a3;cases a3
   · obtain ⟨g1,g2⟩:=inv.news b i hb h
     exact ⟨g1,g2.imp id fun ⟨c,j,a1,a2,a3,a4⟩=>⟨c,j,a1,a2,a3,a4.imp id fun ⟨k',x1,x2,x3⟩=>⟨k',x1,.inl x2,x3⟩⟩⟩
end
end
end
section
variable {P:Program} {cx:Cx} {ops:Array Oper} {an:T Nat} {call:Call} {tm:T Value} {nt:Nat} {T:Nat→St}
theorem aIH (l:List Value) (i:Nat):nth l i=(l[i]?).getD top:=by
 rcases Nat.lt_or_ge i l.length with h|h
 · rw [aDo h];simp [h]
 · rw [zI h];simp [h]
open Classical in
noncomputable def loS (ds:List (Option Tmp)) (lo:List Value) (L:List Tmp):List Value:=(List.range lo.length).map fun i=>if ∃ t∈L,idx ds t=some i then nth lo i else top
noncomputable def tmS (tm:cG.T Value) (L:List Tmp):cG.T Value:=L.foldr (fun t acc=>cG.T.set (path t) acc (tm.get (path t))) .nil
theorem aDC (tm:cG.T Value) (L:List Tmp) (t:Tmp):(tmS tm L).get (path t)=if t∈L then tm.get (path t) else none:=by
 induction L with
 | nil=>simp [tmS]
 | cons u L ih =>
  show (cG.T.set (path u) (tmS tm L) (tm.get (path u))).get (path t)=_
  rw [gC,ih]
  by_cases h:u=t
  · subst h;simp
  · have:t≠u:=fun e=>h e.symm
    simp [h,this]
theorem aOj {ds:List (Option Tmp)} {lo:List Value} {L:List Tmp} {t:Tmp} {i:Nat} (hi:idx ds t=some i):nth (loS ds lo L) i=top∨(t∈L∧nth (loS ds lo L) i=nth lo i):=by
 rcases Nat.lt_or_ge i lo.length with h|h
 · rw [aIH]
   unfold loS
   rw [List.getElem?_map,List.getElem?_range h]
   by_cases hx:∃ t∈L,idx ds t=some i
   · rw [Option.map_some,if_pos hx]
     obtain ⟨u,hu,hui⟩:=hx
     have h1:=zK hui
     rw [zK hi] at h1
     cases h1
     exact .inr ⟨hu,rfl⟩
   · rw [Option.map_some,if_neg hx];exact .inl rfl
 · refine .inl (zI ?_)
   unfold loS
   simpa using h
theorem aII {ds:List (Option Tmp)} {lo:List Value} {L:List Tmp} {t:Tmp} {i:Nat} (hi:idx ds t=some i) (ht:t∈L):nth (loS ds lo L) i=nth lo i:=by
 rcases Nat.lt_or_ge i lo.length with h|h
 · rw [aIH]
   unfold loS
   rw [List.getElem?_map,List.getElem?_range h,Option.map_some,if_pos ⟨t,ht,hi⟩]
   rfl
 · rw [zI h,zI (by unfold loS;simpa using h)]
theorem aIJ {f:Map} {ds:List (Option Tmp)} {lo:List Value} {L:List Tmp} {tmps:Array Value} (h:∀ t∈L,mK f ds lo tm tmps t):Env f ds (loS ds lo L) (tmS tm L) tmps:=by
 intro t
 refine ⟨fun i hi=>?_,fun hi v hv=>?_⟩
 · rcases aOj (lo:=lo) (L:=L) hi with e|⟨ht,e⟩
   · rw [e];exact .aHR _
   · rw [e];exact (h t ht).1 i hi
 · rw [aDC] at hv
   split at hv
   · rename_i ht;exact (h t ht).2 hi v hv
   · cases hv
theorem Ky {gs:List Nat} {ds:List (Option Tmp)} {lo:List Value} {L:List Tmp} {x:Operand} (h:∀ t,x=.tmp t→t∈L):gA lo tm (loS ds lo L) (tmS tm L) (aU gs ds x):=by
 cases x with
 | tmp t =>
  have ht:=h t rfl
  show bW (match idx ds t with|some i=>.loc i|none=>.tmp (path t)) lo tm=bW (match idx ds t with|some i=>.loc i|none=>.tmp (path t)) (loS ds lo L) (tmS tm L)
  cases hi:idx ds t with
  | some i=>exact (aII hi ht).symm
  | none =>
   show pS (tm.get (path t))=pS ((tmS tm L).get (path t))
   rw [aDC,if_pos ht]
 | const v=>rfl
 | global g=>rfl
 | func g=>rfl
theorem aFB {o:Oper} {t:Tmp} (h:Operand.tmp t∈o.op.operands):t∈looks ops o:=by
 unfold looks tmpsOf
 refine List.mem_append_left _ (List.mem_filterMap.2 ⟨.tmp t,by simpa using h,rfl⟩)
theorem Wk {f:Map} {ds:List (Option Tmp)} {o:Oper} {lo:List Value} {a:Act} (hv:∀ j want d,o.guard=some (j,want)→(ops[j]?).bind (·.dst)=some d→bS f (bW (aU cx.gs ds (.tmp d)) lo tm) (a.tmps.getD d undef)) :
 (Io cx ops ds o lo tm=0→Region.wanted o (yielded ops a.tmps)=true)∧(Io cx ops ds o lo tm=1→Region.wanted o (yielded ops a.tmps)=false):=by
 unfold Io
 cases hg:o.guard with
 | none=>exact ⟨fun _=>(by unfold Region.wanted;rw [hg]),fun h=>(by cases h)⟩
 | some p =>
  obtain ⟨j,want⟩:=p
  dsimp only
  cases hd:(ops[j]?).bind (·.dst) with
  | none=>exact ⟨fun h=>(by cases h),fun h=>(by cases h)⟩
  | some d =>
   dsimp only
   rcases Pp (want:=want) (hv j want d hg hd) 0 1 2 with ⟨b,hb,h1⟩|⟨⟨ys,hb⟩,h1⟩|h1
   · rw [h1,Hy hg hd hb]
     by_cases hbw:b=want
     · rw [if_pos hbw];exact ⟨fun _=>by simpa using hbw,fun h=>(by cases h)⟩
     · rw [if_neg hbw];exact ⟨fun h=>(by cases h),fun _=>by simpa using hbw⟩
   · rw [h1,Dp hg hd hb]
     exact ⟨fun h=>(by cases h),fun _=>rfl⟩
   · rw [h1];exact ⟨fun h=>(by cases h),fun h=>(by cases h)⟩
theorem aFC (hX:xO P cx) (hcall:gW P cx.gs call) (hO:vJ ops an) (hF:fR P cx ops an call tm nt T) (hdead:∀ b,(T 0).h.next≤b→(T 0).h.at b=none)
 {f0:Map} {w0:World} (hG:mC cx.gs f0) (hf0:∀ b i,f0 b=some i→b<(T 0).h.next) {D:Nat→Prop} {k:Nat} {o:Oper} (hn:Next ops an D k o) {f:Map} {a:Act} {w:World}
 (hinv:gJ ops an T f0 D f w) (ginv:jY ops T f0 w0 D f w) (sinv:o0 ops an tm T D f a.tmps) (hsz:a.tmps.size=nt) {Q:Exit→Act→World→Prop} {K:Act→World→Prop}
 (hK:∀ f' v' w',gJ ops an T f0 (fun i=>D i∨i=k) f' w'→jY ops T f0 w0 (fun i=>D i∨i=k) f' w'→o0 ops an tm T (fun i=>D i∨i=k) f' (a.put o.dst v').tmps→K (a.put o.dst v') w') :
 wpOp P ops Q k K a w:=by
 have hSk:=aDA hO hn.op
 have hslots:∀ t∈looks ops o,mK (lC ops an T f k) (gS ops k) (T k).lo tm a.tmps t:=fun t ht=>by
  have key:∀ (i:Nat) (oi:Oper),ops[i]?=some oi→oi.dst=some t→(D i↔i<k)∧(D i→Fw an i k):=fun i oi hi hd =>
   hn.cut hO (hO.slot i k oi o t hi hn.op hd (List.mem_append_right _ ht)) (Array.getElem?_eq_some_iff.1 hi).1
  exact sinv _ hSk t k ⟨Nat.le_of_lt hn.lt,fun i oi hi hd=>(key i oi hi hd).1⟩ fun i oi hi hd=>(key i oi hi hd).2
 have hE:=aIJ hslots
 have hsame:=aIy (P:=P) (cx:=cx) (ds:=gS ops k) (o:=o) (lo:=(T k).lo) (tm:=tm) (lo':=loS (gS ops k) (T k).lo (looks ops o)) (tm':=tmS tm (looks ops o)) fun x hx=>Ky fun t e=>by subst e;exact aFB hx
 have hGk:mC cx.gs (lC ops an T f k):=fun g hg=>by
  obtain ⟨i,h1,h2,h3⟩:=hG g hg
  exact ⟨i,iQ.2 ⟨.inl (hf0 g i h1),by rw [hinv.dL g (hf0 g i h1)];exact h1⟩,h2,h3⟩
 have hwant:=Wk (f:=lC ops an T f k) (cx:=cx) (ops:=ops) (tm:=tm) (ds:=gS ops k) (o:=o) (lo:=(T k).lo) (a:=a) fun j want d hg hd=>by
  have hdL:d∈looks ops o:=by
   unfold looks aHM
   rw [hg]
   exact List.mem_append_right _ (by dsimp only;rw [hd];simp)
  have h1:gA (T k).lo tm (loS (gS ops k) (T k).lo (looks ops o)) (tmS tm (looks ops o)) (aU cx.gs (gS ops k) (.tmp d)):=Ky fun t e=>by cases e;exact hdL
  unfold gA at h1
  rw [h1]
  exact bJ hGk hE (.tmp d)
 have hco:=Ro (P:=P) (cx:=cx) (ds:=gS ops k) (o:=o) hX
 obtain ⟨o',ho',hdst,hs⟩:=(hF k hn.lt).op
 have:o'=o:=by rw [hn.op] at ho';cases ho';rfl
 subst this
 have hdst':∀ t,o'.dst=some t→t<a.tmps.size:=fun t ht=>by
  unfold oF at hdst;rw [ht] at hdst
  rw [hsz];exact Nat.blt_eq.mp hdst
 have hle:∀ {S:Nat→Prop},Clo an S→S k→(lC ops an T f k).le (Um T ops.size f S):=fun hS hk=>aIG fun j hj=>hS k hk j hj
 have quiet:∀ v v' R,T (k+1)=⟨(T k).h,v::(T k).lo,[],R⟩→bS (lC ops an T f k) v v'→K (a.put o'.dst v') w:=fun v v' R hT hv=>by
  have hW:∀ b,¬ Wr T k b:=fun b hw=>by
   rcases hw with hw|hw
   · rw [hT] at hw;cases hw
   · have h2:=hw.2
     rw [hT] at h2
     exact absurd hw.1 (by have:b<(T k).h.next:=h2;omega)
  exact hK f v' w (hinv.quiet hW) ginv.quiet (o0.step hO hF hn.op (by rw [hT]) hn.not hn.clo sinv (fun S=>Map.le_refl _) (fun S hS hk=>hv.mono (hle hS hk)) hdst')
 have value:∀ {v':Value},Region.wanted o' (yielded ops a.tmps)=true→(execOp a.eval o').run P w=.ok (.value v') w→K (a.put o'.dst v') w→wpOp P ops Q k K a w:=fun {v'} h1 h2 h3=>by
  simp only [wpOp,hn.op,h1,if_true]
  refine .inl ?_
  unfold Oper.wp
  rw [h2]
  exact h3
 cases hs with
 | skip hg hT =>
  simp only [wpOp,hn.op,hwant.2 hg,Bool.false_eq_true,if_false]
  exact quiet undef undef none hT (bS.undef _)
 | p fn v hg hc hv hT =>
  rw [hc] at hco hsame
  have hv':fn (loS (gS ops k) (T k).lo (looks ops o')) (tmS tm (looks ops o'))=some v:=(hsame.symm.trans hv:_)
  obtain ⟨v',h1,h2⟩:=hco _ _ _ hv' (lC ops an T f k) a w hGk hE
  exact value (hwant.1 hg) h1 (quiet v v' none hT h2)
 | rv fn v hg hc hv hT =>
  rw [hc] at hco hsame
  have hv':fn (loS (gS ops k) (T k).lo (looks ops o')) (tmS tm (looks ops o'))=.val v:=(hsame.symm.trans hv:_)
  have h0:=hco _ _ (lC ops an T f k) a w hGk hE
  rw [hv'] at h0
  obtain ⟨v',h1,h2⟩:=h0
  exact value (hwant.1 hg) h1 (quiet v v' none hT h2)
 | rb fn v b g ob hg hc hv hb hgo hT =>
  rw [hc] at hco hsame
  have hv':fn (loS (gS ops k) (T k).lo (looks ops o')) (tmS tm (looks ops o'))=.read b g:=(hsame.symm.trans hv:_)
  have h0:=hco _ _ (lC ops an T f k) a w hGk hE
  rw [hv'] at h0
  obtain ⟨i,hi,h0⟩:=h0
  have hR:(T (k+1)).R=some b:=by rw [hT]
  have key:∀ j,j<ops.size→Wr T j b→j=k∨comp an j k=true:=fun j hj hw=>by
   rcases hw with hw|hw
   · rcases Nat.lt_trichotomy j k with h|h|h
     · exact .inr ((hF k hn.lt).rd j b h hw hR)
     · exact .inl h
     · exact .inr (zL ((hF j hj).wr k b h hw hR))
   · rcases (iQ.1 hi).1 with h1|⟨j0,h1,h2,h3⟩
     · have:=hF.vK hw (Nat.zero_le _) hj;omega
     · have:=hF.vL hw h3 hj h1
       subst this
       exact .inr (mZ.2 (.inl h2))
  obtain ⟨x,hx,hor⟩:=hinv.obj _ hSk b k i ob (oO b i hi) ⟨Nat.le_of_lt hn.lt,fun j hj hw=>(hn.cut hO (key j hj hw) hj).1⟩ (fun j hj hw=>(hn.cut hO (key j hj hw) hj).2) hb
  obtain ⟨v',h1,h2⟩:=h0 ob v x hgo hx hor
  exact value (hwant.1 hg) h1 (quiet v v' (some b) hT h2)
 | g fn v h1 hg hc ht hv hT hA hd =>
  rw [hc] at hco hsame
  have hv':fn call (loS (gS ops k) (T k).lo (looks ops o')) (tmS tm (looks ops o')) (aS (T k).h (T k).h.next [])=.val v h1:=((hsame call _).symm.trans hv:_)
  cases hno:Cy o' with
  | false =>
   have hh:uD o'=true:=by unfold uD;rw [ht,hno];rfl
   have h0:=hco call hcall _ _ (lC ops an T f k) (aS (T k).h (T k).h.next []) a w hGk hE (aUG hO hF hdead hn hh hinv)
   rw [hv'] at h0
   simp only [wpOp,hn.op,hwant.1 hg,if_true]
   refine .inl (h0 K Q fun f1 v' w' _ hC hvr=>?_)
   obtain ⟨g1,g2⟩:=gJ.gen hO hF hn hh hinv hT hA hC
   exact hK (mP T f f1 k) v' w' g1 (jY.gen hO hF hn hinv ginv hf0 hT hC) (o0.step hO hF hn.op (by rw [hT]) hn.not hn.clo sinv (fun S=>Ja hF hn hinv S) (fun S hS hk=>hvr.mono (Jb hO hF hn hinv hC.le g2 hS hk)) hdst')
  | true =>
   obtain ⟨ob,he,hall⟩:=Kx hc hno _ _ _ _ _ _ hv'
   have h0:=hco call hcall _ _ (lC ops an T f k) (blank (T k).h.next) a w hGk hE (aUH hO hF hn hinv)
   rw [hall (blank (T k).h.next) rfl] at h0
   simp only [wpOp,hn.op,hwant.1 hg,if_true]
   refine .inl (h0 K Q fun f1 v' w' _ hC hvr=>?_)
   obtain ⟨g1,g2⟩:=gJ.made hO hF hn hinv hT he hC
   exact hK (mP T f f1 k) v' w' g1 (jY.made hO hF hn hinv ginv hT he hC) (o0.step hO hF hn.op (by rw [hT]) hn.not hn.clo sinv (fun S=>Ja hF hn hinv S) (fun S hS hk=>hvr.mono (Jb hO hF hn hinv hC.le g2 hS hk)) hdst')
theorem aRE (hX:xO P cx) (hcall:gW P cx.gs call) (hO:vJ ops an) (hF:fR P cx ops an call tm nt T) (hdead:∀ b,(T 0).h.next≤b→(T 0).h.at b=none)
 {f0:Map} {w0:World} (hG:mC cx.gs f0) (hf0:∀ b i,f0 b=some i→b<(T 0).h.next) {ds0:List Deferred} {Q:Exit→Act→World→Prop}
 (hQ:∀ D f (a:Act) w,(∀ i,i<ops.size→D i)→gJ ops an T f0 D f w→jY ops T f0 w0 D f w→o0 ops an tm T D f a.tmps→a.tmps.size=nt→a.defers=ds0→Q .normal a w) :
 ∀ (fuel:Nat) (listed:Array Bool) (D:Nat→Prop) (f:Map) (a:Act) (w:World),listed.size=ops.size→(∀ i,D i↔listed[i]?=some true)→Clo an D→listed.toList.countP (fun b=>!b)≤fuel →
  gJ ops an T f0 D f w→jY ops T f0 w0 D f w→o0 ops an tm T D f a.tmps→a.tmps.size=nt→a.defers=ds0→wpAny P .any ops Q fuel listed a w:=by
 have done:∀ (listed:Array Bool) (D:Nat→Prop),listed.size=ops.size→(∀ i,D i↔listed[i]?=some true)→Region.ready .any ops listed=[]→∀ i,i<ops.size→D i:=fun listed D hsz hD hr i=>by
  induction i using Nat.strongRecOn with
  | ind i ih =>
   intro hi
   have hnot:i∉Region.ready .any ops listed:=by rw [hr];simp
   rw [mem_ready] at hnot
   cases hl:listed[i]? with
   | none=>have:=Array.getElem?_eq_none_iff.1 hl;omega
   | some b =>
    cases b with
    | true=>exact (hD i).2 hl
    | false =>
     refine absurd ⟨by simp [Array.getD_eq_getD_getElem?,hl],ops[i],by simp [hi],fun e he hb=>?_⟩ hnot
     have hlt:=hO.lt i ops[i] (by simp [hi]) e he hb
     have:=(hD e.on).1 (ih e.on hlt (by omega))
     simp [Array.getD_eq_getD_getElem?,this]
 intro fuel
 induction fuel with
 | zero =>
  intro listed D f a w hsz hD hcl hcnt hinv ginv sinv hts hds
  have hall:∀ i,i<ops.size→listed[i]?=some true:=fun i hi=>by
   have h0:listed.toList.countP (fun b=>!b)=0:=by omega
   have:=List.countP_eq_zero.1 h0 (listed[i]'(by omega)) (by simp)
   cases hb:listed[i]'(by omega) with
   | true=>rw [Array.getElem?_eq_getElem (by omega),hb]
   | false=>rw [hb] at this;simp at this
  have hr:Region.ready .any ops listed=[]:=by
   refine List.eq_nil_iff_forall_not_mem.2 fun i hi=>?_
   obtain ⟨h1,o,ho,_⟩:=mem_ready.1 hi
   have:=hall i (Array.getElem?_eq_some_iff.1 ho).1
   simp [Array.getD_eq_getD_getElem?,this] at h1
  exact ⟨hr,hQ D f a w (done listed D hsz hD hr) hinv ginv sinv hts hds⟩
 | succ fuel ih =>
  intro listed D f a w hsz hD hcl hcnt hinv ginv sinv hts hds
  refine ⟨fun hr=>hQ D f a w (done listed D hsz hD hr) hinv ginv sinv hts hds,fun k hk=>?_⟩
  obtain ⟨h1,o,ho,hafter⟩:=mem_ready.1 hk
  have hkn:=(Array.getElem?_eq_some_iff.1 ho).1
  have hlk:listed[k]?=some false:=by
   rw [Array.getD_eq_getD_getElem?] at h1
   cases hl:listed[k]? with
   | none=>rw [hl] at h1;cases h1
   | some b=>rw [hl] at h1;simp at h1;rw [h1]
  have hpre:∀ i,Fw an i k→D i:=fun i hi=>by
   obtain ⟨e,he,hb,h2⟩:=(hO.aOh i k o ho).1 hi
   have h3:D e.on:=(hD e.on).2 (by
    have:=hafter e he hb
    rw [Array.getD_eq_getD_getElem?] at this
    cases hl:listed[e.on]? with
    | none=>rw [hl] at this;cases this
    | some b=>rw [hl] at this;simp at this;rw [this])
   rcases h2 with rfl|h2
   · exact h3
   · exact hcl e.on h3 i h2
  have hn:Next ops an D k o:=⟨ho,fun h=>by (rw [hD,hlk] at h;cases h),hcl,hpre⟩
  refine aFC hX hcall hO hF hdead hG hf0 hn hinv ginv sinv hts fun f' v' w' a1 a2 a3=>?_
  refine ih _ (fun i=>D i∨i=k) f' (a.put o.dst v') w' (by simpa using hsz) (fun i=>?_) (fun j hj i hi=>?_) ?_ a1 a2 a3 (by rw [lB];exact hts) (by rw [put_defers];exact hds)
  · rw [Array.getElem?_setIfInBounds]
    by_cases e:k=i
    · subst e;simp [hsz,hkn]
    · rw [if_neg e,← hD]
      constructor
      · rintro (h|h)
        · exact h
        · exact absurd h.symm e
      · exact .inl
  · rcases hj with hj|rfl
    · exact .inl (hcl j hj i hi)
    · exact .inl (hpre i hi)
  · have hks:k<listed.size:=by omega
    have hget:listed[k]=false:=by
     have:=Array.getElem?_eq_getElem hks
     rw [hlk] at this
     exact (Option.some.inj this).symm
    have e1:(listed.setIfInBounds k true).toList=listed.toList.set k true:=by simp
    rw [e1]
    have hpos:0<listed.toList.countP (fun b=>!b):=List.countP_pos_iff.2 ⟨false,by rw [← hget];simp,rfl⟩
    rw [List.countP_set (by simpa using hks)]
    have h3:(listed.toList[k]'(by simpa using hks))=false:=by simpa using hget
    rw [h3]
    simp only [Bool.not_false,Bool.not_true,if_true,Bool.false_eq_true,if_false]
    omega
theorem fR.base (hF:fR P cx ops an call tm nt T):∀ k,k≤ops.size→(T k).h.base=(T 0).h.base∧∀ i b,i<k→((b∈(T (i+1)).L∧b<(T 0).h.base)∨b∈(T 0).h.log)→b∈(T k).h.log:=by
 intro k
 induction k with
 | zero=>intro _;exact ⟨rfl,fun i b h=>by omega⟩
 | succ k ih =>
  intro hk
  obtain ⟨h1,h2⟩:=ih (by omega)
  obtain ⟨o,ho,_,hs⟩:=(hF k (by omega)).op
  have quiet:∀ v R,T (k+1)=⟨(T k).h,v::(T k).lo,[],R⟩→(T (k+1)).h.base=(T 0).h.base∧∀ i b,i<k+1→((b∈(T (i+1)).L∧b<(T 0).h.base)∨b∈(T 0).h.log)→b∈(T (k+1)).h.log:=fun v R e=>by
   refine ⟨by rw [e];exact h1,fun i b hi hb=>?_⟩
   have:b∈(T k).h.log:=by
    by_cases hik:i=k
    · subst hik
      rcases hb with ⟨hb,_⟩|hb
      · rw [e] at hb;cases hb
      · cases i with
        | zero=>exact hb
        | succ i=>exact h2 0 b (by omega) (.inr hb)
    · exact h2 i b (by omega) hb
   rw [e];exact this
  cases hs with
  | skip hg hs=>exact quiet _ _ hs
  | p f v hg hc hv hs=>exact quiet _ _ hs
  | rv f v hg hc hv hs=>exact quiet _ _ hs
  | rb f v b g ob hg hc hv hb ho hs=>exact quiet _ _ hs
  | g f v h1' hg hc ht hv hs hA hd =>
   refine ⟨by rw [hs];exact h1,fun i b hi hb=>?_⟩
   have e2:(T (k+1)).h.log=below (T k).h.base h1'.log (T k).h.log:=by rw [hs];rfl
   rw [e2,aFx]
   by_cases hik:i=k
   · subst hik
     rcases hb with ⟨hb,hlt⟩|hb
     · right
       rw [hs] at hb
       exact ⟨(List.mem_filter.1 hb).1,by rw [h1];exact hlt⟩
     · left
       cases i with
       | zero=>exact hb
       | succ i=>exact h2 0 b (by omega) (.inr hb)
   · exact .inl (h2 i b (by omega) hb)
theorem aOk {cx:Cx} (hX:xO P cx) (hm:P.follows .mixedOrders=true):tL P cx:=by
 intro live nt rid ops call hcall tm df h f a w hG hI hr hD
 have hcc:kU P cx live nt (.region rid ops true)=bif Qz ops (xM ops.toList 0 .nil) then .draw (xM ops.toList 0 .nil) (iG P cx live nt ops (xM ops.toList 0 .nil) ops.toList 0 []) else .bad:=rfl
 rw [hcc]
 cases hdr:Qz ops (xM ops.toList 0 .nil) with
 | false=>trivial
 | true =>
 rw [cond_true]
 have hO:=Oi hdr
 generalize xM ops.toList 0 .nil=an at hO
 show xQ live nt f h w (qA (iG P cx live nt ops an ops.toList 0 []) (comp an) call ⟨[],[],[]⟩ [] tm df h) _
 have htr:=aIE (live:=live) (nt:=nt) (ops:=ops) (an:=an) (tm:=tm) (h0:=h) (df:=df) hX hcall ops.toList 0 rfl ⟨[],[],[]⟩ f a w hG hI.env hI.size hr ⟨fun i b h=>by omega,fun i b h=>by omega,fun b hb=>hb⟩
 have ht0:(Iz P cx ops call tm h 0).h=h:=rfl
 have hlo:(Iz P cx ops call tm h 0).lo=[]:=rfl
 have htr':qA (iG P cx live nt ops an ops.toList 0 []) (comp an) call ⟨[],[],[]⟩ [] tm df h=.none∨(qA (iG P cx live nt ops an ops.toList 0 []) (comp an) call ⟨[],[],[]⟩ [] tm df h=.ok .normal (kP live (gS ops ops.size) (Iz P cx ops call tm h ops.size).lo (gS ops ops.size) 0 tm) df (Iz P cx ops call tm h ops.size).h ∧
  ∀ i,0≤i→i<ops.size→Fact P cx ops an call tm nt (Iz P cx ops call tm h) i):=htr
 generalize Iz P cx ops call tm h=T at htr' ht0 hlo
 rcases htr' with e|⟨e,hF'⟩
 · rw [e];trivial
 rw [e]
 have hF:fR P cx ops an call tm nt T:=fun i hi=>hF' i (Nat.zero_le _) hi
 intro Q hQ
 have hlt0:∀ b i,f b=some i→b<(T 0).h.next:=fun b i hb=>by rw [ht0];exact (hr.fresh b i hb).1
 have hrle:∀ S,f.le (Um T ops.size f S):=fun S b i hb=>iQ.2 ⟨.inl (hlt0 b i hb),hb⟩
 have hnl:∀ b,b<(T 0).h.base→b<(T 0).h.next:=fun b hb=>by
  have:=hr.base
  rw [← ht0] at this
  omega
 have hnone:∀ b m,Ga ops T (fun _=>False) b m→b<(T 0).h.next→(T m).h.at b=h.at b:=fun b m hc hb=>by
  have:=hF.aDz (i:=0) hb m (by have:=hc.1;omega) fun k _ hk hL=>((hc.2 k (by have:=hc.1;omega) (.inl hL)).2 (by omega)).elim
  rw [Nat.zero_add,ht0] at this
  exact this
 refine wp_region_any hm (aRE (T:=T) (an:=an) (f0:=f) (w0:=w) (ds0:=a.defers) hX hcall hO hF (by rw [ht0];exact hr.dead) hG hlt0 ?_ ops.size _ (fun _=>False) f a _ (by simp) (fun i=>?_) (fun j hj=>hj.elim) (by
  have:=List.countP_le_length (p:=fun b=>!b) (l:=(Array.replicate ops.size false).toList)
  simpa using this) ?_ ?_ ?_ hI.size rfl)
 · intro D f' a' w' hall hinv ginv sinv hsz hds
   have hend:(T ops.size).h.base=(T 0).h.base:=(hF.base ops.size (Nat.le_refl _)).1
   have hlog:=fun i b hi hb=>(hF.base ops.size (Nat.le_refl _)).2 i b hi hb
   have hle:f.le f':=fun b i hb=>by rw [hinv.dL b (hlt0 b i hb)];exact hb
   have hn0:=hF.uJ (Nat.zero_le ops.size) (Nat.le_refl _)
   have cut:∀ b,Ga ops T D b ops.size:=fun b=>⟨Nat.le_refl _,fun i hi _=>⟨fun _=>hi,fun _=>hall i hi⟩⟩
   have hrel:gX f' (T ops.size).h w':=by
    refine ⟨fun b o i hb ho=>?_,fun b c i j hb hc lb lc e=>hinv.inj b c i j _ _ hb hc (cut b) (cut c) lb lc e,fun b i hb=>⟨?_,hinv.fresh b i hb⟩,hF.dead (by rw [ht0];exact hr.dead) ops.size (Nat.le_refl _),?_⟩
    · obtain ⟨x,hx,hor⟩:=hinv.obj (fun _=>True) (fun _ _ _ _=>trivial) b ops.size i o hb (cut b) (fun _ _ _ _=>trivial) ho
      exact ⟨x,hx,hor.mono oO⟩
    · rcases hinv.dom b i hb with h1|⟨j,h1,_,h3⟩
      · omega
      · exact hF.Rx h3 h1 (Nat.le_refl _)
    · rw [hend]
      have:=hr.base
      rw [← ht0] at this
      omega
   have henv:Env f' (gS ops ops.size) (T ops.size).lo tm a'.tmps:=fun t =>
    (sinv (fun _=>True) (fun _ _ _ _=>trivial) t ops.size ⟨Nat.le_refl _,fun i o hi _=>⟨fun _=>(Array.getElem?_eq_some_iff.1 hi).1,fun h=>hall i h⟩⟩ fun _ _ _ _ _=>trivial).mono oO
   refine hQ f' .normal a' w' ?_ ?_ (Rp henv hI.dead hsz) (by rw [hds];exact hD.mono hle) .normal
   · refine ⟨by rw [hend,ht0],by rw [← ht0];exact hn0,fun b hb=>?_,fun b hb hnl'=>?_,fun b hb hd=>?_⟩
     · by_cases h0:ops.size=0
       · rw [h0,ht0];exact hb
       · exact hlog 0 b (by omega) (.inr (by rw [ht0];exact hb))
     · rw [← ht0] at hb
       have:=hF.aDz (i:=0) (hnl b hb) ops.size (by omega) fun k _ hk hL=>hnl' (hlog k b (by omega) (.inl ⟨hL,hb⟩))
       rw [Nat.zero_add,ht0] at this
       exact this
     · rw [← ht0] at hb hd
       have:=hF.aQu (i:=0) hb hd ops.size (by omega)
       rw [Nat.zero_add] at this
       exact this
   · refine ⟨hr,hle,hrel,ginv.size,ginv.tape,ginv.os,ginv.out,fun c hc hh=>ginv.bT c hc fun b i h1 h2 h3=>?_,fun b i h1 h2=>?_⟩
     · rw [ht0] at h3 ⊢
       obtain ⟨p,q⟩:=hh b i h1 h2 h3
       exact ⟨p,fun k hk _ hL=>q (hlog k b hk (.inl ⟨hL,by rw [ht0];exact p⟩))⟩
     · obtain ⟨g1,g2⟩:=ginv.news b i h1 h2
       rw [ht0] at g1
       refine ⟨g1,g2.imp id fun ⟨c,j,a1,a2,a3,a4⟩=>⟨c,j,a1,a2,by rw [← ht0];exact a3,?_⟩⟩
       rcases a4 with a4|⟨k,b1,_,b3⟩
       · left;rw [← ht0];exact a4
       · rcases Nat.lt_or_ge c h.base with hcb|hcb
         · exact .inr (hlog k c b1 (.inl ⟨b3,by rw [ht0];exact hcb⟩))
         · exact .inl hcb
 · rw [Array.getElem?_replicate]
   split<;>simp
 · refine ⟨fun b i hb=>.inl (hlt0 b i hb),fun _ _=>rfl,fun S hS b m i o hb hc _ ho=>?_,fun b c i j m m' hb hc cb cc lb lc e=>?_,fun b i hb=>(hr.fresh b i hb).2⟩
   · rw [hnone b m hc (hlt0 b i hb)] at ho
     obtain ⟨x,hx,hor⟩:=hr.obj b o i hb ho
     exact ⟨x,hx,hor.mono (hrle S)⟩
   · rw [hnone b m cb (hlt0 b i hb)] at lb
     rw [hnone c m' cc (hlt0 c j hc)] at lc
     exact hr.inj b c i j hb hc lb lc e
 · exact ⟨Nat.le_refl _,rfl,rfl,rfl,fun _ _ _=>rfl,fun b i h1 h2=>by (rw [h1] at h2;cases h2)⟩
 · intro S hS t m hc _
   have h1:mK (Um T ops.size f S) (gS ops 0) [] tm a.tmps t:=(show mK f [] [] tm a.tmps t from hI.env t).mono (hrle S)
   have:=hF.aQv (f:=Um T ops.size f S) (tmps:=a.tmps) (t:=t) (i:=0) m (by have:=hc.1;omega) fun k o _ hk ho hd=>((hc.2 k o ho hd).2 (by omega)).elim
   rw [Nat.zero_add,hlo] at this
   exact this.2 h1
end
end cG
end Go
