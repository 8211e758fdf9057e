/-
The card of DeviceNews holds: New agrees with the reference, and the device runs the image, followed by bytes 255, and the settings, at every input, with what the row lists tied to the program's text.
Conditions: none beyond the card's own.
-/
import Derived.Test.YtekknahndoonjaaGreatDoorRows
import Derived.Stop.LaidTwo
import Derived.Lib.LaidTab
import Derived.Lib.LaidU8
import Derived.LaidLaws
import Derived.LaidMore
import Derived.LaidSub
import Derived.Test.YtekknahndoonjaaGreatDoorTie
import Derived.Test.YtekknahndoonjaaGreatDoorRun07
import Derived.Test.YtekknahndoonjaaGreatDoorRowA
import Derived.Test.YtekknahndoonjaaGreatDoorRowW
import Derived.Test.YtekknahndoonjaaGreatDoorRowG
import Derived.Test.YtekknahndoonjaaGreatDoorRowJ
set_option linter.all false
set_option maxRecDepth 100000
noncomputable section
namespace Go
namespace Abs
section
open RowKit Proofs
theorem Fi{H:Type}{enc:TypeId×Value→H}{P:Program}{w:World}{base:Nat}{sp:Nat→Bool}{fuel:Nat}{t:TypeId}{ps rs:Array TypeId}{va:Bool}{v:Value}{q:List MemPlace}(ht:P.underlying t=some (.func ps rs va))(h:DataW.trod enc P w base sp true fuel t [v]=some (.nil,q)):v=.nilFunc:=by
 cases fuel with
 | zero=>simp[DataW.trod] at h
 | succ n=>cases v<;>simp[DataW.trod,ht] at h<;>rfl
theorem ASx{α:Type}{l:List α}{k:Nat}(h:k<l.length):∃x,(l.drop (k*1)).take 1=[x]∧l[k]?=some x:=by
 refine⟨l[k],?_,List.getElem?_eq_getElem h⟩;rw[Nat.mul_one];apply List.ext_getElem?;intro i;rw[List.getElem?_take,List.getElem?_drop];cases i with
 | zero=>simp[List.getElem?_eq_getElem h]
 | succ i=>simp
def AMV:Tryz.prog.underlying 206=some (.array 7 120):=by kernel_rfl
def AJm:Tryz.prog.cellsOf 120=1:=by kernel_rfl
def AMW:Tryz.prog.cellsOf 206=7:=by kernel_rfl
theorem AJh:∃ps rs va,Tryz.prog.underlying 120=some (.func ps rs va):=⟨_,_,_,Tryz.underlying120⟩
def jW(k:UInt8):List UInt8:=[110,108,97,121,47,116,114,105,97,108,46,98,111,111,116,115,36,k]
theorem AMN{W:World}(hL:laidMetH Tryz.prog Proofs.YtekknahndoonjaaGreatDoor.Rows.deviceNewsRow.laid W):∃e fz,W.heap[0]?=some (.cells Ds.toArray e fz):=by
 obtain⟨g,t,cs,fuel,p,hg,ht,hv,hd⟩:=hL.funcs (n := "inlay/trial.boots") (d:=.agg [.iface "func" (.lit (.string (105::jW 49))),.nil,.nil,.nil,.nil,.iface "func" (.lit (.string (105::jW 50))),.nil]) (.tail _ (.tail _ (.tail _ (.tail _ (.tail _ (.tail _ (.head _)))))));have hg':Tryz.prog.globalNamed "inlay/trial.boots" = some 0:=by kernel_rfl
 rw[hg'] at hg;cases hg;have ht':(Tryz.prog.globals[0]?).map (·.type)=some 206:=by kernel_rfl
 rw[ht'] at ht;cases ht;have hd':DataW.trod (funcToken Tryz.prog) Tryz.prog W 0 (fun _=>true) true fuel 206 cs.toList=some (.agg [.held (105::jW 49),.nil,.nil,.nil,.nil,.held (105::jW 50),.nil],p):=hd;obtain⟨xs,m,rfl,hx,hl,hxl,he⟩:=DataW.trod_array AMV hd';rw[AMW] at hl;rw[AJm] at he;have hm:xs.map (·.1)=[.held (105::jW 49),.nil,.nil,.nil,.nil,.held (105::jW 50),.nil]:=by have:=congrArg Prod.fst hx;simpa using this.symm
 obtain⟨ps,rs,va,hu⟩:=AJh;have key:∀i,i<7→∃v q d,cs.toList[i]?=some v∧[DataW.held (105::jW 49),.nil,.nil,.nil,.nil,.held (105::jW 50),.nil][i]?=some d∧DataW.trod (funcToken Tryz.prog) Tryz.prog W 0 (fun _=>true) true m 120 [v]=some (d,q):=fun i hi=>by
  obtain⟨v,h1,h2⟩:=ASx (l:=cs.toList) (k:=i) (by omega);have h3:=he i hi;rw[h1] at h3;obtain⟨y,hy⟩:∃y,xs[i]?=some y:=⟨_,List.getElem?_eq_getElem (by omega)⟩
  have h4:(xs.map (·.1))[i]?=some y.1:=by rw[List.getElem?_map,hy];rfl
  rw[hm] at h4;exact⟨v,y.2,y.1,h2,h4,by rw[h3,hy]⟩
 obtain⟨v0,q0,d0,a0,b0,c0⟩:=key 0 (by omega);obtain⟨v1,q1,d1,a1,b1,c1⟩:=key 1 (by omega);obtain⟨v2,q2,d2,a2,b2,c2⟩:=key 2 (by omega);obtain⟨v3,q3,d3,a3,b3,c3⟩:=key 3 (by omega);obtain⟨v4,q4,d4,a4,b4,c4⟩:=key 4 (by omega);obtain⟨v5,q5,d5,a5,b5,c5⟩:=key 5 (by omega);obtain⟨v6,q6,d6,a6,b6,c6⟩:=key 6 (by omega);cases b0;cases b1;cases b2;cases b3;cases b4;cases b5;cases b6;obtain rfl:=func_of_trod (f0:=485) hu (by kernel_rfl) c0;obtain rfl:=Fi hu c1;obtain rfl:=Fi hu c2;obtain rfl:=Fi hu c3;obtain rfl:=Fi hu c4;obtain rfl:=func_of_trod (f0:=486) hu (by kernel_rfl) c5;obtain rfl:=Fi hu c6;have hcs:cs=Ds.toArray:=by
  obtain⟨l⟩:=cs;congr 1
  match l,hl,a0,a1,a2,a3,a4,a5,a6 with
  | [x0,x1,x2,x3,x4,x5,x6],_,a0,a1,a2,a3,a4,a5,a6 =>
   cases a0;cases a1;cases a2;cases a3;cases a4;cases a5;cases a6;rfl
 subst hcs;unfold World.var? at hv;rw[hg'] at hv;simp only[Option.bind_some] at hv;split at hv
 ·rename_i cs' ty fz heq;cases hv;exact⟨ty,fz,heq⟩
 ·cases hv
theorem AV2{W:World}(hL:laidMetH Tryz.prog Proofs.YtekknahndoonjaaGreatDoor.Rows.deviceNewsRow.laid W):AG4 W:=by
 have r5:Lib.VarReads Tryz.prog W "unicode/utf8.first" Go.Pinned.utf8First:=Lib.laidMet.reads (laidMetH_iff.1 hL).1 (List.mem_filter.2 ⟨.tail _ (.tail _ (.tail _ (.tail _ (.tail _ (.tail _ (.tail _ (.head _))))))),rfl⟩);have d5:Lib.VarReads Tryz.prog W "unicode/utf8.first" (Lib.tabData .u8 (Ek.map Int.ofNat)):=r5;obtain⟨e5,z5,g5⟩:=AUy (g:=5) (t:=525) (e:=5) (c:=256) d5 (by kernel_rfl) (by kernel_rfl) (by kernel_rfl) oI A9Y (by kernel_rfl);have t5:((Ek.map Int.ofNat).map fun z=>Value.int .u8 z)=AFS Ek:=by rw[List.map_map];rfl
 rw[t5] at g5;exact⟨AMN hL,⟨e5,z5,g5⟩⟩
end
end Abs
end Go
namespace Go.Proofs.YtekknahndoonjaaGreatDoor
open Go.ChangeShapes Go.WideShapes Go.ChangeAt Go.RowKit
theorem ATz(os:Os):laidMet Tryz.prog Lh (wB os):=by
 have e1:(Lh.filter fun x=>(Lh.map (·.1)).contains x.1)=Lh:=List.filter_eq_self.2 fun x hx=>List.contains_iff_mem.2 (List.mem_map.2 ⟨x,hx,rfl⟩);have e2:(Lh.filter fun x=>!(Lh.map (·.1)).contains x.1)=[]:=List.filter_eq_nil_iff.2 fun x hx=>by rw[List.contains_iff_mem.2 (List.mem_map.2 ⟨x,hx,rfl⟩)];simp
 have h:laidMet Tryz.prog Lh (wA os):=laidMet_layVars (w0:=wD os) (Lh.map (·.1)) [] (by rw[e1];rfl) (by rw[e1];exact AOr os) (by rw[e1];exact AGn os) (by rw[e2];exact LaidIn.none);exact h.of_heap (by simp[wB,World.memory,World.forCall,Input.heap])
theorem ATu(os:Os):laidMetH Tryz.prog Rows.deviceNewsRow.laid (wB os):=laidMetH_of_parts3 (fuel:=8) (ATz os) (A9U os) (AIW os)
theorem AJO{P:Program}{W:World}{base:Nat}{t:TypeId}{k:IntKind}{v:Value}(hu:P.underlying t=some (.int k))(h:Value.okWide P W .any base t v):∃k' n,v=.int k' n:=by unfold Value.okWide at h;rw[hu] at h;have h':Cell.okWide P W .any base t v:=h;unfold Cell.okWide at h';rw[hu] at h';unfold Cell.ok at h';rw[hu] at h';cases v<;>first|exact⟨_,_,rfl⟩|exact absurd h' (fun h=>h)
theorem ATY{P:Program}{W:World}{base:Nat}{t:TypeId}{fs:Array Field}{v:Value}(hu:P.underlying t=some (.struct fs))(h:Value.okWide P W .any base t v):∃cs,v=.agg cs∧Row.okWide P W .any base t cs:=by unfold Value.okWide at h;rw[hu] at h;obtain⟨cs,h1,_,h3⟩:=h;exact⟨cs,h1,h3⟩
theorem lifted(os:Os)(started:os.Started)(H:Type)(enc:TypeId×Value→H):
 ReturnsInHanded {} Tryz.checked os 3 .any (fun w args=>(Rows.deviceNewsSpec.pre enc Tryz.prog Tryz.f3 [] false w args∧laidMetH Tryz.prog Rows.deviceNewsRow.laid w)∧sizedMet enc Tryz.prog Tryz.f3 (OpenSpec.ofChange Rows.deviceNewsSpec) false w args)
  (Rows.deviceNewsSpec.post enc Tryz.prog Tryz.f3 false true false false):=by
 refine returnsInHanded_of_change_and (C:=Tryz.checked) (X:=fun w _=>laidMetH Tryz.prog Rows.deviceNewsRow.laid w) (fun _ _ _ hh h=>h.of_heap hh) Tryz.own started Tryz.AT1 Tryz.func3
  (ChangeSpec.witness_shaped (enc:=enc) (C:=Tryz.checked) (os:=os) (X:=fun w _=>laidMetH Tryz.prog Rows.deviceNewsRow.laid w) false (wA os) iz 8 (AW4 os) (World.shaped_of_ZipB (AQt os) (AQx os)) (AV0 os) (AST enc os) (AMH enc os) (ATu os)) ?_
 intro W base args ds gs before hval0 hW _ _ hL _;have hval:∀(j:Nat) t v,Tryz.f3.params[j]?=some t→args[j]?=some v→Value.okWide Tryz.prog W .any base t v:=hval0;have hW':=hW;obtain⟨p,q,hA0,hV,rfl,hfz,hnd⟩:=hW;have hA:DataW.TrodAll enc Tryz.prog W 0 (fun _=>true) true Tryz.f3.params.toList args.toList ds p:=hA0;rw[Tryz.params3] at hA hval;obtain⟨v0,v1,v2,d0,d1,d2,p0,p1,p2,rfl,rfl,rfl,h0,h1,h2⟩:=trodAll_three hA;obtain⟨rfl,rfl⟩:=trodVars_none hV;have h0k:=h0;have h1k:=h1;have h2k:=h2;obtain⟨cs0,rfl,ok0⟩:=ATY Tryz.underlying33 (hval 0 33 v0 rfl rfl);obtain⟨k1,n1,rfl⟩:=AJO Abs.AFX (hval 1 27 v1 rfl rfl);obtain⟨k2,n2,rfl⟩:=AJO Abs.oI (hval 2 5 v2 rfl rfl);obtain⟨f0,t0⟩:=h0;obtain⟨f1,t1⟩:=h1;obtain⟨f2,t2⟩:=h2;obtain⟨w0,w1,w2,w3,A2G,lv,ov,rv,rk,xv,n1',n2',n3',n4',n5',l1,l2,l3,l5,b0,b1,b2,b3,e0,s1,s2,s3,s4,s5,j1,j2,j3,j5⟩:=Abs.ASo (show DataW.trod enc Tryz.prog W 0 (fun _=>true) true f0 33 cs0.toList=some (d0,p0) from t0) ok0;obtain⟨nn,hnn,e1⟩:=Abs.AKX (show DataW.trod enc Tryz.prog W 0 (fun _=>true) true f1 27 [.int k1 n1]=some (d1,p1) from t1);obtain⟨fl,hfl,e2⟩:=Abs.AVq (show DataW.trod enc Tryz.prog W 0 (fun _=>true) true f2 5 [.int k2 n2]=some (d2,p2) from t2);have walk:=Abs.AWV (A2G:=A2G) (Abs.AV2 hL) b0 b1 b2 b3 hnn hfl s1 s2 s3 s4 s5 j1 j2 j3 j5;have a0:cs0=⟨[lv,Abs.bN w0,Abs.bN w1,Abs.bN w2,Abs.bN w3,ov,.int .u16 (.ofNat A2G),rv,rk,xv]⟩:=by obtain⟨c⟩:=cs0;exact congrArg Array.mk e0
 rw[a0,e1,e2] at hW';rw[a0] at h0k ⊢;rw[e1] at h1k ⊢;rw[e2] at h2k ⊢;refine walk.mono fun e W' ⟨he,o1,o2,o3,o4,o5⟩=>?_;subst he;have hb:Below W.heap.size W W':=⟨o1,o2,o3,o4,o5⟩
 have hlt:∀z∈p0++p1++p2,z.block<W.heap.size:=fun z hz=>by simpa using hW'.lt z (by simpa using hz)
 exact⟨_,rfl,_,_,_,[],p0++(p1++p2),[],hW',trodAll_mk1 (shut_bool AWW _),
  trodAll_mk3 (Below.trod Tryz.laidOut AUn (of_decide_eq_true AZt) h0k hb fun z hz=>hlt z (by simp[hz])) (Below.trod Tryz.laidOut AT8 (of_decide_eq_true AZ3) h1k hb fun z hz=>hlt z (by simp[hz]))
   (Below.trod Tryz.laidOut AVo (of_decide_eq_true AaF) h2k hb fun z hz=>hlt z (by simp[hz])),rfl,hb.frame _,fun h=>by cases h⟩
theorem dx:Rows.DeviceNewsSaid :=
 OpenClaim.holds_of_wide 3 Tryz.f3 rfl rfl rfl rfl rfl rfl rfl ⟨rfl,rfl,rfl,rfl,rfl⟩ rfl rfl rfl rfl rfl Tryz.AMb Tryz.func3 AOh AWi AWC
  (fun os started H enc _=>lifted os started H enc)
theorem deviceNews_card:Rows.DeviceNewsCardSaid :=
 Claim7.holds_tied_plain_at .later [] [.data,.data,.data,.data,.sentinel,.sentinel,.funcs,.pinned] true AUz true
  dx (fun _ h=>by cases h) AVV (fun _ h=>by cases h) deviceNews_row_tie rfl ⟨rfl,rfl⟩ AQc rfl
  (fun f fn hf hfn=>by
    obtain rfl:f=3:=Option.some.inj (Tryz.AMb.symm.trans hf) |>.symm;obtain rfl:fn=Tryz.f3:=(Option.some.inj (Tryz.func3.symm.trans hfn)).symm;exact⟨AJW,fun j t ht=>by
     rw[Tryz.params3] at ht;have hm:t∈[33,27,5]:=by simpa using Array.mem_of_getElem? ht
     exact(show Tryz.prog.wantsStandIn t=false by simpa using List.all_eq_true.1 AJ2 t hm)⟩)
  APW
#print axioms deviceNews_card
end Go.Proofs.YtekknahndoonjaaGreatDoor
end
