/-
The row of ConsoleComposes: whatever the input, the law's answer is true, and the input reads as it did.
Conditions: none beyond the row's own.
-/
import Derived.Test.YtefdgihgbhbibaaGreatDoorRowW
import Derived.Test.YtefdgihgbhbibaaGreatDoorRowV
set_option linter.unusedVariables false
set_option linter.unusedSimpArgs false
set_option maxRecDepth 100000
namespace Go.Proofs.YtefdgihgbhbibaaGreatDoor
open Go.ChangeShapes Go.WideShapes Go.ChangeAt Go.RowKit Go.Clock
theorem aTG:Tryz.prog.readableRec 25=true:=by kernel_rfl
theorem aZg:decide (25<Tryz.prog.types.size)=true:=by kernel_rfl
theorem aTH:Tryz.prog.readableRec 26=true:=by kernel_rfl
theorem aZh:decide (26<Tryz.prog.types.size)=true:=by kernel_rfl
theorem aWM:Tryz.prog.readableRec 5=true:=by kernel_rfl
theorem lt5:decide (5<Tryz.prog.types.size)=true:=by kernel_rfl
theorem aMZ {P:Program} {W:World} {base:Nat} {t e:TypeId} {v:Value} (hu:P.underlying t=some (.slice e)) (h:Value.okWide P W .any base t v):(∃ a l c,v=.slice a l c)∧Cell.okWide P W .any base t v:=by
 unfold Value.okWide at h
 rw [hu] at h
 have h':Cell.okWide P W .any base t v:=h
 refine ⟨?_,h'⟩
 unfold Cell.okWide at h'
 rw [hu] at h'
 unfold Cell.ok at h'
 rw [hu] at h'
 cases v<;>first|exact ⟨_,_,_,rfl⟩|exact absurd h' (fun h=>h)
theorem aTI {P:Program} {W:World} {base:Nat} {t:TypeId} {k:IntKind} {v:Value} (hu:P.underlying t=some (.int k)) (h:Value.okWide P W .any base t v):∃ k' n,v=.int k' n:=by
 unfold Value.okWide at h
 rw [hu] at h
 have h':Cell.okWide P W .any base t v:=h
 unfold Cell.okWide at h'
 rw [hu] at h'
 unfold Cell.ok at h'
 rw [hu] at h'
 cases v<;>first|exact ⟨_,_,rfl⟩|exact absurd h' (fun h=>h)
theorem aTJ {P:Program} {W:World} {base:Nat} {t:TypeId} {n e:Nat} {v:Value} (hu:P.underlying t=some (.array n e)) (h:Value.okWide P W .any base t v):∃ cs,v=.agg cs∧Row.okWide P W .any base t cs:=by
 unfold Value.okWide at h
 rw [hu] at h
 obtain ⟨cs,h1,_,h3⟩:=h
 exact ⟨cs,h1,h3⟩
theorem aHe (os:Os):(wD os).Shaped Tryz.checked.prog:=World.shaped_of_ZipB (aNs os) (aNt os)
theorem aQi (os:Os):laidMetH Tryz.prog Rows.consoleComposesRow.laid (wD os).memory:=by
 rw [MakeChecks.laidMetH_plain _ _ _ Tryz.aDa]
 exact aRg os _
theorem lifted (os:Os) (started:os.Started) (H:Type) (enc:TypeId×Value→H) (F:Stop.Interp) :
 ReturnsInHanded { calm:=true } Tryz.checked os 3 .any (fun w args=>(Rows.consoleComposesSpec.pre enc Tryz.prog Tryz.f3 [] false w args∧laidMetH Tryz.prog Rows.consoleComposesRow.laid w)∧sizedMet enc Tryz.prog Tryz.f3 (OpenSpec.ofChange Rows.consoleComposesSpec) false w args)
  ((OpenSpec.ofChange Rows.consoleComposesSpec).postWith enc Tryz.prog Tryz.f3 F (outsideKept [.timePasses]) false true false):=by
 refine returns_of_change (C:=Tryz.checked) (X:=fun w _=>laidMetH Tryz.prog Rows.consoleComposesRow.laid w) (fun _ _ _ hh h=>h.of_heap hh) Tryz.own started Tryz.aRi Tryz.func3
  (witness_at (enc:=enc) (C:=Tryz.checked) (X:=fun w _=>laidMetH Tryz.prog Rows.consoleComposesRow.laid w) (wC os) #[.agg ⟨[.int .u8 0,.slice none 0 0,.int .u8 0,.slice none 0 0]⟩,.slice none 0 0,.int .u8 0] 8 (aT4 os) (aHe os) (aT5 os) (aRh enc os) (aHo enc os) (aQi os)) ?_
 intro W base args ds gs before hval0 hW _ _ hL hsh
 have hval:∀ (j:Nat) t v,Tryz.f3.params[j]?=some t→args[j]?=some v→Value.okWide Tryz.prog W .any base t v:=hval0
 have hW':=hW
 obtain ⟨p,q,hA0,hV,rfl,hfz,hnd⟩:=hW
 have hA:DataW.TrodAll enc Tryz.prog W 0 (fun _=>true) true Tryz.f3.params.toList args.toList ds p:=hA0
 rw [Tryz.params3] at hA hval
 obtain ⟨v0,v1,v2,d0,d1,d2,p0,p1,p2,rfl,rfl,rfl,h0,h1,h2⟩:=trodAll_three hA
 obtain ⟨rfl,rfl⟩:=trodVars_none hV
 rw [MakeChecks.laidMetH_plain _ _ _ Tryz.aDa] at hL
 have h0k:=h0
 have h1k:=h1
 have h2k:=h2
 obtain ⟨cs0,rfl,ok0⟩:=aTJ cG.aEO (hval 0 25 v0 rfl rfl)
 obtain ⟨⟨a,n,c,rfl⟩,ok1⟩:=aMZ cG.Ui (hval 1 26 v1 rfl rfl)
 obtain ⟨k',n',rfl⟩:=aTI cG.Nz (hval 2 5 v2 rfl rfl)
 obtain ⟨f0,t0⟩:=h0
 obtain ⟨f1,t1⟩:=h1
 obtain ⟨f2,t2⟩:=h2
 obtain ⟨va,vb,ra,rb,na,nb,la,lb,hva,hvb,e0,s1,s2⟩:=cG.aTF (show DataW.trod enc Tryz.prog W 0 (fun _=>true) true f0 25 cs0.toList=some (d0,p0) from t0) ok0
 obtain ⟨l,hl⟩:=cG.aWF (show DataW.trod enc Tryz.prog W 0 (fun _=>true) true f1 26 [.slice a n c]=some (d1,p1) from t1) ok1
 obtain ⟨w,hw,e2⟩:=cG.aWG (show DataW.trod enc Tryz.prog W 0 (fun _=>true) true f2 5 [.int k' n']=some (d2,p2) from t2)
 have walk:=cG.aWE (aWK hL) hva hvb hw s1 s2 hl
 have a0:cs0=⟨[.int .u8 (.ofNat va),ra,.int .u8 (.ofNat vb),rb]⟩:=by
  obtain ⟨c⟩:=cs0
  exact congrArg Array.mk e0
 rw [a0,e2] at hW'
 rw [a0] at h0k ⊢
 rw [e2] at h2k ⊢
 refine walk.mono fun e W' ⟨he,hb⟩=>?_
 subst he
 have hlt:∀ z∈p0++p1++p2,z.block<W.heap.size:=fun z hz=>by simpa using hW'.lt z (by simpa using hz)
 have hs:=Since.of_below hb
 exact ⟨_,rfl,⟨_,_,_,[],p0++(p1++p2),[],hW',trodAll_mk1 (shut_bool Tryz.aUn _),
  trodAll_mk3 (Below.trod Tryz.laidOut aTG (of_decide_eq_true aZg) h0k hs.2 fun z hz=>hlt z (by simp [hz])) (Below.trod Tryz.laidOut aTH (of_decide_eq_true aZh) h1k hs.2 fun z hz=>hlt z (by simp [hz])) (Below.trod Tryz.laidOut aWM (of_decide_eq_true lt5) h2k hs.2 fun z hz=>hlt z (by simp [hz])),rfl,hs.2.frame _,fun h=>by cases h⟩,hs.1⟩
theorem xR:Rows.ConsoleComposesSaid :=
 holds_of_wide_time 3 Tryz.f3 rfl rfl rfl rfl rfl rfl rfl ⟨rfl,rfl,rfl,rfl,rfl⟩ rfl rfl rfl rfl rfl Tryz.aHp Tryz.func3 aQh inst3 aWL
  (fun os started H enc _ F=>lifted os started H enc F)
end Go.Proofs.YtefdgihgbhbibaaGreatDoor
