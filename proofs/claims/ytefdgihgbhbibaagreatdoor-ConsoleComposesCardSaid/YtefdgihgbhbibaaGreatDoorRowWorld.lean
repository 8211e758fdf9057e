/-
A world in which the law can be called: what the row lists, laid step by step.
Conditions: none.
-/
import Derived.Test.YtefdgihgbhbibaaGreatDoorRowJ
set_option linter.unusedVariables false
set_option linter.unusedSimpArgs false
set_option maxRecDepth 100000
namespace Go.Proofs.YtefdgihgbhbibaaGreatDoor
def gZ (P:Program) (name:String) (u:TypeId):Bool:=match (P.info? u).map (·.desc) with
 | some (TypeDesc.named n _)=>n == name
 | some (TypeDesc.pointer e)=>(match (P.info? e).map (·.desc) with
  | some (TypeDesc.named m _)=>String.append (String.singleton (Char.ofNat 42)) m == name
  | _=>P.typeName? 3 u == some name)
 | _=>P.typeName? 3 u == some name
theorem Jo {P:Program} {d u:Nat} {i:TypeInfo} {n name:String} {t:TypeId} (hi:P.info? u=some i) (hd:i.desc=TypeDesc.named n t) (h:P.typeName? (d+1) u=some name):n=name:=by
 unfold Program.typeName? at h
 rw [hi] at h
 simp only [hd] at h
 split at h
 · exact Option.some.inj h
 · cases h
theorem aAB {P:Program} {name:String} {u:TypeId} (h:P.typeName? 3 u=some name):gZ P name u=true:=by
 unfold gZ
 cases hi:P.info? u with
 | none=>simp [h]
 | some i =>
  show (match some i.desc with
   | some (TypeDesc.named n _)=>n == name
   | some (TypeDesc.pointer e)=>(match (P.info? e).map (·.desc) with
    | some (TypeDesc.named m _)=>String.append (String.singleton (Char.ofNat 42)) m == name
    | _=>P.typeName? 3 u == some name)
   | _=>P.typeName? 3 u == some name)=true
  cases hd:i.desc<;>first|(show (P.typeName? 3 u == some name)=true;rw [h];exact beq_self_eq_true _)|skip
  · rename_i e
    show (match (P.info? e).map (·.desc) with
     | some (TypeDesc.named m _)=>String.append (String.singleton (Char.ofNat 42)) m == name
     | _=>P.typeName? 3 u == some name)=true
    have h0:=h
    unfold Program.typeName? at h
    rw [hi] at h
    simp only [hd] at h
    obtain ⟨m',h1,h2⟩:=Option.map_eq_some_iff.1 h
    cases hj:P.info? e with
    | none=>simp [h0]
    | some j =>
     cases hjd:j.desc<;>first|(simp only [Option.map_some,hjd];rw [h0];exact beq_self_eq_true _)|skip
     rename_i m t
     have:=Jo hj hjd h1
     subst this
     simp only [Option.map_some,hjd]
     rw [← h2]
     exact beq_self_eq_true _
  · rename_i n t
    have:=Jo hi hd h
    subst this
    exact beq_self_eq_true _
noncomputable def eI:String:=match Rows.laid_bytes_ErrTooLarge (H:=Unit) with
 | .iface n _=>n
 | _=>default
theorem aT2:((List.range 50).all fun v=>!gZ Tryz.prog eI (v+0))=true:=by kernel_rfl
theorem aRe:((List.range 50).all fun v=>!gZ Tryz.prog eI (v+50))=true:=by kernel_rfl
theorem aM8:((List.range 50).all fun v=>!gZ Tryz.prog eI (v+100))=true:=by kernel_rfl
theorem aM9:((List.range 50).all fun v=>!gZ Tryz.prog eI (v+150))=true:=by kernel_rfl
theorem aNa:((List.range 50).all fun v=>!gZ Tryz.prog eI (v+200))=true:=by kernel_rfl
theorem aNb:((List.range 50).all fun v=>!gZ Tryz.prog eI (v+250))=true:=by kernel_rfl
theorem aNc:((List.range 50).all fun v=>!gZ Tryz.prog eI (v+300))=true:=by kernel_rfl
theorem aNd:((List.range 50).all fun v=>!gZ Tryz.prog eI (v+350))=true:=by kernel_rfl
theorem aNe:((List.range 50).all fun v=>!gZ Tryz.prog eI (v+400))=true:=by kernel_rfl
theorem aNf:((List.range 50).all fun v=>!gZ Tryz.prog eI (v+450))=true:=by kernel_rfl
theorem aNg:((List.range 50).all fun v=>!gZ Tryz.prog eI (v+500))=true:=by kernel_rfl
theorem aNh:((List.range 50).all fun v=>!gZ Tryz.prog eI (v+550))=true:=by kernel_rfl
theorem aNi:((List.range 50).all fun v=>!gZ Tryz.prog eI (v+600))=true:=by kernel_rfl
theorem aNj:((List.range 50).all fun v=>!gZ Tryz.prog eI (v+650))=true:=by kernel_rfl
theorem aNk:((List.range 50).all fun v=>!gZ Tryz.prog eI (v+700))=true:=by kernel_rfl
theorem aNl:((List.range 4).all fun v=>!gZ Tryz.prog eI (v+750))=true:=by kernel_rfl
theorem aNm:Tryz.prog.typeName? 3 754=some eI:=by kernel_rfl
theorem types_size:754<Tryz.prog.types.size:=of_decide_eq_true (by kernel_rfl)
theorem jB {a n v:Nat} (h:((List.range n).all fun v=>!gZ Tryz.prog eI (v+a))=true) (h1:a≤v) (h2:v<a+n):(Tryz.prog.typeName? 3 v == some eI)=false:=by
 have:=List.all_eq_true.1 h (v - a) (List.mem_range.2 (by omega))
 rw [Nat.sub_add_cancel h1] at this
 cases hq:(Tryz.prog.typeName? 3 v == some eI) with
 | false=>rfl
 | true =>
  rw [aAB (eq_of_beq hq)] at this
  cases this
theorem Fb:((List.range Tryz.prog.types.size).find? fun u=>Tryz.prog.typeName? 3 u == some eI)=some 754:=by
 refine List.find?_range_eq_some.2 ⟨by rw [aNm];exact beq_self_eq_true _,List.mem_range.2 types_size,fun v hv=>?_⟩
 have key:(Tryz.prog.typeName? 3 v == some eI)=false:=by
  rcases Nat.lt_or_ge v 50 with h0|h0
  · exact jB aT2 (by omega) (by omega)
  rcases Nat.lt_or_ge v 100 with h50|h50
  · exact jB aRe (by omega) (by omega)
  rcases Nat.lt_or_ge v 150 with h100|h100
  · exact jB aM8 (by omega) (by omega)
  rcases Nat.lt_or_ge v 200 with h150|h150
  · exact jB aM9 (by omega) (by omega)
  rcases Nat.lt_or_ge v 250 with h200|h200
  · exact jB aNa (by omega) (by omega)
  rcases Nat.lt_or_ge v 300 with h250|h250
  · exact jB aNb (by omega) (by omega)
  rcases Nat.lt_or_ge v 350 with h300|h300
  · exact jB aNc (by omega) (by omega)
  rcases Nat.lt_or_ge v 400 with h350|h350
  · exact jB aNd (by omega) (by omega)
  rcases Nat.lt_or_ge v 450 with h400|h400
  · exact jB aNe (by omega) (by omega)
  rcases Nat.lt_or_ge v 500 with h450|h450
  · exact jB aNf (by omega) (by omega)
  rcases Nat.lt_or_ge v 550 with h500|h500
  · exact jB aNg (by omega) (by omega)
  rcases Nat.lt_or_ge v 600 with h550|h550
  · exact jB aNh (by omega) (by omega)
  rcases Nat.lt_or_ge v 650 with h600|h600
  · exact jB aNi (by omega) (by omega)
  rcases Nat.lt_or_ge v 700 with h650|h650
  · exact jB aNj (by omega) (by omega)
  rcases Nat.lt_or_ge v 750 with h700|h700
  · exact jB aNk (by omega) (by omega)
  rcases Nat.lt_or_ge v 754 with h750|h750
  · exact jB aNl (by omega) (by omega)
  omega
 rw [key];rfl
open Go.ChangeShapes Go.WideShapes Go.ChangeAt Go.RowKit
noncomputable def Cp (d:DataW Unit):List Value:=match d with
 | .lit (.int k z)=>[.int k z]
 | .agg ps=>ps.flatMap fun
  | .lit (.int k z)=>[.int k z]
  | .agg qs=>qs.flatMap fun
   | .lit (.int k z)=>[.int k z]
   | _=>[]
  | _=>[]
 | _=>[]
noncomputable def aAC (d:DataW Unit):List UInt8:=match d with
 | .iface _ (.ptr (.agg [.lit (.string bs)]))=>bs
 | _=>[]
noncomputable def Cq (d:DataW Unit):Obj:=.cells #[.string ⟨(aAC d).toArray⟩] 756
theorem Fc {P:Program} {t u:TypeId} {n:Nat} {name:String} {d:DataW Unit} {x:List Value×List Obj} {v:Value} (hf:((List.range P.types.size).find? fun u=>P.typeName? 3 u == some name)=some u) (hu:(match P.underlying t with|some (.interface _)=>true|_=>false)=true) (hl:d.lay P u n=some x) (hp:Lay.pack P u x.1=some v) :
 (DataW.iface name d).lay P t n=some ([.iface u v],x.2):=by
 cases hq:P.underlying t with
 | none=>rw [hq] at hu;cases hu
 | some e =>
  rw [hq] at hu
  cases e<;>first|(cases hu;done)|skip
  unfold DataW.lay
  rw [hq,hf]
  simp only [hl,hp]
theorem gN {P:Program} {n g:Nat} {x:String×DataW Unit} {r:List (String×DataW Unit)} {t:TypeId} {y:List Value×List Obj} {z:List (Nat×List Value)×List Obj} (hg:P.globalNamed x.1=some g) (ht:(P.globals[g]?).map (·.type)=some t) (hy:x.2.lay P t n=some y) (hz:Lay.layList P (n+y.2.length) r=some z) :
 Lay.layList P n (x::r)=some ((g,y.1)::z.1,y.2++z.2):=by
 obtain ⟨gl,h1,h2⟩:=Option.map_eq_some_iff.1 ht
 subst h2
 unfold Lay.layList
 rw [hg]
 simp only [h1,hy,hz]
theorem Un {P:Program} {n:Nat}:Lay.layList P n []=some ([],[]):=by unfold Lay.layList;rfl
noncomputable def lK (i:Nat):String×DataW Unit:=(Rows.consoleComposesRow.laid[i]?).getD (eI,.nil)
theorem Jp:(match Tryz.prog.underlying 408 with|some (.interface _)=>true|_=>false)=true:=by kernel_rfl
theorem dg0:Tryz.prog.globalNamed (lK 0).1=some 4:=by kernel_rfl
theorem dt0:(Tryz.prog.globals[4]?).map (·.type)=some 408:=by kernel_rfl
theorem de0:(lK 0).2=.iface eI (.ptr (.agg [.lit (.string (aAC (lK 0).2))])):=by kernel_rfl
theorem dp0:(DataW.ptr (.agg [.lit (.string (aAC (lK 0).2))])).lay Tryz.prog 754 18=some ([.pointer (some ⟨18,0,none⟩)],[Cq (lK 0).2]):=by kernel_rfl
theorem dk0:Lay.pack Tryz.prog 754 [.pointer (some ⟨18,0,none⟩)]=some (.pointer (some ⟨18,0,none⟩)):=by kernel_rfl
theorem dl0:(lK 0).2.lay Tryz.prog 408 18=some ([.iface 754 (.pointer (some ⟨18,0,none⟩))],[Cq (lK 0).2]):=by
 have h:=Fc (t:=408) Fb Jp dp0 dk0
 rw [← de0] at h
 exact h
theorem dg1:Tryz.prog.globalNamed (lK 1).1=some 1:=by kernel_rfl
theorem dt1:(Tryz.prog.globals[1]?).map (·.type)=some 425:=by kernel_rfl
theorem dl1:(lK 1).2.lay Tryz.prog 425 19=some (Cp (lK 1).2,[]):=by kernel_rfl
theorem dg2:Tryz.prog.globalNamed (lK 2).1=some 3:=by kernel_rfl
theorem dt2:(Tryz.prog.globals[3]?).map (·.type)=some 520:=by kernel_rfl
theorem dl2:(lK 2).2.lay Tryz.prog 520 19=some (Cp (lK 2).2,[]):=by kernel_rfl
theorem dg3:Tryz.prog.globalNamed (lK 3).1=some 6:=by kernel_rfl
theorem dt3:(Tryz.prog.globals[6]?).map (·.type)=some 712:=by kernel_rfl
theorem dl3:(lK 3).2.lay Tryz.prog 712 19=some (Cp (lK 3).2,[]):=by kernel_rfl
theorem dg4:Tryz.prog.globalNamed (lK 4).1=some 7:=by kernel_rfl
theorem dt4:(Tryz.prog.globals[7]?).map (·.type)=some 715:=by kernel_rfl
theorem dl4:(lK 4).2.lay Tryz.prog 715 19=some (Cp (lK 4).2,[]):=by kernel_rfl
theorem dg5:Tryz.prog.globalNamed (lK 5).1=some 9:=by kernel_rfl
theorem dt5:(Tryz.prog.globals[9]?).map (·.type)=some 408:=by kernel_rfl
theorem de5:(lK 5).2=.iface eI (.ptr (.agg [.lit (.string (aAC (lK 5).2))])):=by kernel_rfl
theorem dp5:(DataW.ptr (.agg [.lit (.string (aAC (lK 5).2))])).lay Tryz.prog 754 19=some ([.pointer (some ⟨19,0,none⟩)],[Cq (lK 5).2]):=by kernel_rfl
theorem dk5:Lay.pack Tryz.prog 754 [.pointer (some ⟨19,0,none⟩)]=some (.pointer (some ⟨19,0,none⟩)):=by kernel_rfl
theorem dl5:(lK 5).2.lay Tryz.prog 408 19=some ([.iface 754 (.pointer (some ⟨19,0,none⟩))],[Cq (lK 5).2]):=by
 have h:=Fc (t:=408) Fb Jp dp5 dk5
 rw [← de5] at h
 exact h
theorem dg6:Tryz.prog.globalNamed (lK 6).1=some 10:=by kernel_rfl
theorem dt6:(Tryz.prog.globals[10]?).map (·.type)=some 408:=by kernel_rfl
theorem de6:(lK 6).2=.iface eI (.ptr (.agg [.lit (.string (aAC (lK 6).2))])):=by kernel_rfl
theorem dp6:(DataW.ptr (.agg [.lit (.string (aAC (lK 6).2))])).lay Tryz.prog 754 20=some ([.pointer (some ⟨20,0,none⟩)],[Cq (lK 6).2]):=by kernel_rfl
theorem dk6:Lay.pack Tryz.prog 754 [.pointer (some ⟨20,0,none⟩)]=some (.pointer (some ⟨20,0,none⟩)):=by kernel_rfl
theorem dl6:(lK 6).2.lay Tryz.prog 408 20=some ([.iface 754 (.pointer (some ⟨20,0,none⟩))],[Cq (lK 6).2]):=by
 have h:=Fc (t:=408) Fb Jp dp6 dk6
 rw [← de6] at h
 exact h
theorem dg7:Tryz.prog.globalNamed (lK 7).1=some 8:=by kernel_rfl
theorem dt7:(Tryz.prog.globals[8]?).map (·.type)=some 725:=by kernel_rfl
theorem dl7:(lK 7).2.lay Tryz.prog 725 21=some (Cp (lK 7).2,[]):=by kernel_rfl
theorem dg8:Tryz.prog.globalNamed (lK 8).1=some 11:=by kernel_rfl
theorem dt8:(Tryz.prog.globals[11]?).map (·.type)=some 189:=by kernel_rfl
theorem dl8:(lK 8).2.lay Tryz.prog 189 21=some (Cp (lK 8).2,[]):=by kernel_rfl
theorem dg9:Tryz.prog.globalNamed (lK 9).1=some 12:=by kernel_rfl
theorem dt9:(Tryz.prog.globals[12]?).map (·.type)=some 752:=by kernel_rfl
theorem dl9:(lK 9).2.lay Tryz.prog 752 21=some (Cp (lK 9).2,[]):=by kernel_rfl
theorem aHl:Rows.consoleComposesRow.laid=[lK 0,lK 1,lK 2,lK 3,lK 4,lK 5,lK 6,lK 7,lK 8,lK 9]:=by kernel_rfl
noncomputable def y0:List (Nat×List Value)×List Obj:=([(4,[.iface 754 (.pointer (some ⟨18,0,none⟩))]),(1,Cp (lK 1).2),(3,Cp (lK 2).2),(6,Cp (lK 3).2),(7,Cp (lK 4).2),(9,[.iface 754 (.pointer (some ⟨19,0,none⟩))]),(10,[.iface 754 (.pointer (some ⟨20,0,none⟩))]),(8,Cp (lK 7).2),(11,Cp (lK 8).2),(12,Cp (lK 9).2)],[Cq (lK 0).2,Cq (lK 5).2,Cq (lK 6).2])
theorem aRf:Lay.layList Tryz.prog 18 Rows.consoleComposesRow.laid=some y0:=by
 rw [aHl]
 exact (gN dg0 dt0 dl0 (gN dg1 dt1 dl1 (gN dg2 dt2 dl2 (gN dg3 dt3 dl3 (gN dg4 dt4 dl4 (gN dg5 dt5 dl5 (gN dg6 dt6 dl6 (gN dg7 dt7 dl7 (gN dg8 dt8 dl8 (gN dg9 dt9 dl9 Un))))))))))
def aT3 (w:World) (y:List (Nat×List Value)×List Obj):World:={ w with heap:=⟨Lay.setRows w.heap.toList y.1++y.2⟩ }
theorem aAD {P:Program} {w:World} {l:List (String×DataW Unit)} {y:List (Nat×List Value)×List Obj} (h:Lay.layList P w.heap.size l=some y):w.layVars P l=aT3 w y:=by
 unfold World.layVars
 rw [h];rfl
theorem aNn {P:Program} {w:World} {l:List (String×DataW Unit)} {y:List (Nat×List Value)×List Obj} (h:Lay.layList P w.heap.size l=some y) (h1:(y.1.map (·.1)).Nodup) (h2:∀ r∈y.1,Lay.isRow w.heap.toList[r.1]?=true):w.layFits P l []=true:=by
 unfold World.layFits
 rw [h]
 simp only [Bool.and_eq_true,decide_eq_true_eq,List.all_eq_true]
 exact ⟨⟨h1,fun r hr=>⟨h2 r hr,rfl⟩⟩,fun r hr=>by cases hr⟩
theorem aEQ {P:Program} {w w':World} {l:List (String×DataW Unit)} {y:List (Nat×List Value)×List Obj} (h:Lay.layList P w.heap.size l=some y) (h1:(y.1.all fun r=>r.2.all (Lay.okV P w'))=true) (h2:y.2.all (Lay.okO P w')=true):w.layIfaces P l w'=true:=by
 unfold World.layIfaces
 rw [h]
 simp only [h1,h2,Bool.and_self]
noncomputable def w0 (os:Os):World:=World.holding Tryz.prog os ⟨#[],#[],[]⟩
theorem aER (os:Os):(w0 os).heap.size=18:=by kernel_rfl
theorem aAE (os:Os):Lay.layList Tryz.prog (w0 os).heap.size Rows.consoleComposesRow.laid=some y0:=by rw [aER];exact aRf
noncomputable def wC (os:Os):World:=aT3 (w0 os) y0
theorem aHm (os:Os):World.laidAll Tryz.prog os Rows.consoleComposesRow.laid=wC os:=aAD (aAE os)
noncomputable def wD (os:Os):World:=(wC os).forCall (fun _ _=>0) ⟨#[],#[.agg ⟨[.int .u8 0,.slice none 0 0,.int .u8 0,.slice none 0 0]⟩,.slice none 0 0,.int .u8 0],[]⟩
theorem aT4 (os:Os):(wC os).os=os:=by rw [← aHm];exact World.laidAll_os _ _ _
theorem aHn:(y0.1.map (·.1)).Nodup:=by show [4,1,3,6,7,9,10,8,11,12].Nodup;decide
theorem aNo (os:Os):(y0.1.all fun r=>Lay.isRow (w0 os).heap.toList[r.1]?)=true:=by kernel_rfl
theorem aNp (os:Os):(y0.1.all fun r=>r.2.all (Lay.okV Tryz.prog (wC os)))=true:=by kernel_rfl
theorem aNq (os:Os):y0.2.all (Lay.okO Tryz.prog (wC os))=true:=by kernel_rfl
theorem aNr (os:Os):(w0 os).layFits Tryz.prog Rows.consoleComposesRow.laid []=true:=aNn (aAE os) aHn (List.all_eq_true.1 (aNo os))
theorem aES (os:Os):(w0 os).layIfaces Tryz.prog Rows.consoleComposesRow.laid (World.laidAll Tryz.prog os Rows.consoleComposesRow.laid)=true:=by
 rw [aHm]
 exact aEQ (aAE os) (aNp os) (aNq os)
theorem aRg (os:Os) (args:Array Value):laidMet Tryz.prog Rows.consoleComposesRow.laid ((wC os).forCall (fun _ _=>0) ⟨#[],args,[]⟩).memory:=by
 rw [← aHm]
 exact laidMet_laidAll args (aNr os) (aES os)
theorem aNs (os:Os):(wD os).variablesZipB Tryz.checked.prog=true:=by kernel_rfl
theorem aNt (os:Os):((wD os).heap.toList.drop Tryz.checked.prog.globals.size).take ((begin Tryz.checked.prog (fun _ _=>0) default).world.heap.size - Tryz.checked.prog.globals.size)=(begin Tryz.checked.prog (fun _ _=>0) default).world.heap.toList.drop Tryz.checked.prog.globals.size:=by kernel_rfl
theorem aT5 (os:Os):Input.okWideB Tryz.checked.prog (wD os) 3 ⟨#[],#[.agg ⟨[.int .u8 0,.slice none 0 0,.int .u8 0,.slice none 0 0]⟩,.slice none 0 0,.int .u8 0],[]⟩=true:=by kernel_rfl
theorem aRh {H:Type} (enc:TypeId×Value→H) (os:Os):Rows.consoleComposesSpec.preB enc Tryz.checked.prog Tryz.f3 [] false (wD os).memory #[.agg ⟨[.int .u8 0,.slice none 0 0,.int .u8 0,.slice none 0 0]⟩,.slice none 0 0,.int .u8 0] 8=true:=by kernel_rfl
theorem aHo {H:Type} (enc:TypeId×Value→H) (os:Os):Rows.consoleComposesSpec.sizedB enc Tryz.checked.prog Tryz.f3 false (wD os).memory #[.agg ⟨[.int .u8 0,.slice none 0 0,.int .u8 0,.slice none 0 0]⟩,.slice none 0 0,.int .u8 0] 8=true:=by kernel_rfl
end Go.Proofs.YtefdgihgbhbibaaGreatDoor
