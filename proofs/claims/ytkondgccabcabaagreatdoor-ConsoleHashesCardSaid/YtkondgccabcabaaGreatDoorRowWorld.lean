/-
A world in which the law can be called: what the row lists, laid step by step.
Conditions: none.
-/
import Derived.Test.YtkondgccabcabaaGreatDoorHashS0
set_option linter.unusedVariables false
set_option linter.unusedSimpArgs false
/- ConsoleHashes: where the type of a sentinel stands among the program's types. -/
set_option maxRecDepth 100000
namespace Go.Proofs.YtkondgccabcabaaGreatDoor
/-- a type that may bear a name, told without a look at all the others -/
def mayBear (P : Program) (name : String) (u : TypeId) : Bool := match (P.info? u).map (·.desc) with
  | some (TypeDesc.named n _) => n == name
  | some (TypeDesc.pointer e) => (match (P.info? e).map (·.desc) with
    | some (TypeDesc.named m _) => String.append (String.singleton (Char.ofNat 42)) m == name
    | _ => P.typeName? 3 u == some name)
  | _ => P.typeName? 3 u == some name
theorem bear_named {P : Program} {d u : Nat} {i : TypeInfo} {n name : String} {t : TypeId} (hi : P.info? u = some i) (hd : i.desc = TypeDesc.named n t) (h : P.typeName? (d + 1) u = some name) : n = name := by
  unfold Program.typeName? at h
  rw [hi] at h
  simp only [hd] at h
  split at h
  · exact Option.some.inj h
  · cases h
theorem mayBear_of {P : Program} {name : String} {u : TypeId} (h : P.typeName? 3 u = some name) : mayBear P name u = true := by
  unfold mayBear
  cases hi : P.info? u with
  | none => simp [h]
  | some i =>
    show (match some i.desc with
      | some (TypeDesc.named n _) => n == name
      | some (TypeDesc.pointer e) => (match (P.info? e).map (·.desc) with
        | some (TypeDesc.named m _) => String.append (String.singleton (Char.ofNat 42)) m == name
        | _ => P.typeName? 3 u == some name)
      | _ => P.typeName? 3 u == some name) = true
    cases hd : i.desc <;> first | (show (P.typeName? 3 u == some name) = true; rw [h]; exact beq_self_eq_true _) | skip
    · rename_i e
      show (match (P.info? e).map (·.desc) with
        | some (TypeDesc.named m _) => String.append (String.singleton (Char.ofNat 42)) m == name
        | _ => P.typeName? 3 u == some name) = true
      have h0 := h
      unfold Program.typeName? at h
      rw [hi] at h
      simp only [hd] at h
      obtain ⟨m', h1, h2⟩ := Option.map_eq_some_iff.1 h
      cases hj : P.info? e with
      | none => simp [h0]
      | some j =>
        cases hjd : j.desc <;> first | (simp only [Option.map_some, hjd]; rw [h0]; exact beq_self_eq_true _) | skip
        rename_i m t
        have := bear_named hj hjd h1
        subst this
        simp only [Option.map_some, hjd]
        rw [← h2]
        exact beq_self_eq_true _
    · rename_i n t
      have := bear_named hi hd h
      subst this
      exact beq_self_eq_true _
noncomputable def sentName : String := match Rows.laid_bytes_ErrTooLarge (H := Unit) with
  | .iface n _ => n
  | _ => default
theorem bear0 : ((List.range 50).all fun v => !mayBear Tryz.prog sentName (v + 0)) = true := by kernel_rfl
theorem bear50 : ((List.range 50).all fun v => !mayBear Tryz.prog sentName (v + 50)) = true := by kernel_rfl
theorem bear100 : ((List.range 50).all fun v => !mayBear Tryz.prog sentName (v + 100)) = true := by kernel_rfl
theorem bear150 : ((List.range 50).all fun v => !mayBear Tryz.prog sentName (v + 150)) = true := by kernel_rfl
theorem bear200 : ((List.range 50).all fun v => !mayBear Tryz.prog sentName (v + 200)) = true := by kernel_rfl
theorem bear250 : ((List.range 50).all fun v => !mayBear Tryz.prog sentName (v + 250)) = true := by kernel_rfl
theorem bear300 : ((List.range 50).all fun v => !mayBear Tryz.prog sentName (v + 300)) = true := by kernel_rfl
theorem bear350 : ((List.range 50).all fun v => !mayBear Tryz.prog sentName (v + 350)) = true := by kernel_rfl
theorem bear400 : ((List.range 50).all fun v => !mayBear Tryz.prog sentName (v + 400)) = true := by kernel_rfl
theorem bear450 : ((List.range 50).all fun v => !mayBear Tryz.prog sentName (v + 450)) = true := by kernel_rfl
theorem bear500 : ((List.range 50).all fun v => !mayBear Tryz.prog sentName (v + 500)) = true := by kernel_rfl
theorem bear550 : ((List.range 50).all fun v => !mayBear Tryz.prog sentName (v + 550)) = true := by kernel_rfl
theorem bear600 : ((List.range 50).all fun v => !mayBear Tryz.prog sentName (v + 600)) = true := by kernel_rfl
theorem bear650 : ((List.range 50).all fun v => !mayBear Tryz.prog sentName (v + 650)) = true := by kernel_rfl
theorem bear700 : ((List.range 25).all fun v => !mayBear Tryz.prog sentName (v + 700)) = true := by kernel_rfl
theorem bear_at : Tryz.prog.typeName? 3 725 = some sentName := by kernel_rfl
theorem types_size : 725 < Tryz.prog.types.size := of_decide_eq_true (by kernel_rfl)
theorem bear_no {a n v : Nat} (h : ((List.range n).all fun v => !mayBear Tryz.prog sentName (v + a)) = true) (h1 : a ≤ v) (h2 : v < a + n) : (Tryz.prog.typeName? 3 v == some sentName) = false := by
  have := List.all_eq_true.1 h (v - a) (List.mem_range.2 (by omega))
  rw [Nat.sub_add_cancel h1] at this
  cases hq : (Tryz.prog.typeName? 3 v == some sentName) with
  | false => rfl
  | true =>
    rw [mayBear_of (eq_of_beq hq)] at this
    cases this
theorem bear_find : ((List.range Tryz.prog.types.size).find? fun u => Tryz.prog.typeName? 3 u == some sentName) = some 725 := by
  refine List.find?_range_eq_some.2 ⟨by rw [bear_at]; exact beq_self_eq_true _, List.mem_range.2 types_size, fun v hv => ?_⟩
  have key : (Tryz.prog.typeName? 3 v == some sentName) = false := by
    rcases Nat.lt_or_ge v 50 with h0 | h0
    · exact bear_no bear0 (by omega) (by omega)
    rcases Nat.lt_or_ge v 100 with h50 | h50
    · exact bear_no bear50 (by omega) (by omega)
    rcases Nat.lt_or_ge v 150 with h100 | h100
    · exact bear_no bear100 (by omega) (by omega)
    rcases Nat.lt_or_ge v 200 with h150 | h150
    · exact bear_no bear150 (by omega) (by omega)
    rcases Nat.lt_or_ge v 250 with h200 | h200
    · exact bear_no bear200 (by omega) (by omega)
    rcases Nat.lt_or_ge v 300 with h250 | h250
    · exact bear_no bear250 (by omega) (by omega)
    rcases Nat.lt_or_ge v 350 with h300 | h300
    · exact bear_no bear300 (by omega) (by omega)
    rcases Nat.lt_or_ge v 400 with h350 | h350
    · exact bear_no bear350 (by omega) (by omega)
    rcases Nat.lt_or_ge v 450 with h400 | h400
    · exact bear_no bear400 (by omega) (by omega)
    rcases Nat.lt_or_ge v 500 with h450 | h450
    · exact bear_no bear450 (by omega) (by omega)
    rcases Nat.lt_or_ge v 550 with h500 | h500
    · exact bear_no bear500 (by omega) (by omega)
    rcases Nat.lt_or_ge v 600 with h550 | h550
    · exact bear_no bear550 (by omega) (by omega)
    rcases Nat.lt_or_ge v 650 with h600 | h600
    · exact bear_no bear600 (by omega) (by omega)
    rcases Nat.lt_or_ge v 700 with h650 | h650
    · exact bear_no bear650 (by omega) (by omega)
    rcases Nat.lt_or_ge v 725 with h700 | h700
    · exact bear_no bear700 (by omega) (by omega)
    omega
  rw [key]; rfl
end Go.Proofs.YtkondgccabcabaaGreatDoor
/- ConsoleHashes: what the row lists, laid step by step. -/
set_option maxRecDepth 100000
namespace Go.Proofs.YtkondgccabcabaaGreatDoor
open Go.ChangeShapes Go.WideShapes Go.ChangeAt Go.RowKit
/-- the cells of plain data -/
noncomputable def litV (d : DataW Unit) : List Value := match d with
  | .lit (.int k z) => [.int k z]
  | .agg ps => ps.flatMap fun
    | .lit (.int k z) => [.int k z]
    | .agg qs => qs.flatMap fun
      | .lit (.int k z) => [.int k z]
      | _ => []
    | _ => []
  | _ => []
noncomputable def strB (d : DataW Unit) : List UInt8 := match d with
  | .iface _ (.ptr (.agg [.lit (.string bs)])) => bs
  | _ => []
noncomputable def sentC (d : DataW Unit) : Obj := .cells #[.string ⟨(strB d).toArray⟩] 727
theorem lay_sentG {P : Program} {t u : TypeId} {n : Nat} {name : String} {d : DataW Unit} {x : List Value × List Obj} {v : Value} (hf : ((List.range P.types.size).find? fun u => P.typeName? 3 u == some name) = some u) (hu : (match P.underlying t with | some (.interface _) => true | _ => false) = true) (hl : d.lay P u n = some x) (hp : Lay.pack P u x.1 = some v) :
    (DataW.iface name d).lay P t n = some ([.iface u v], x.2) := by
  cases hq : P.underlying t with
  | none => rw [hq] at hu; cases hu
  | some e =>
    rw [hq] at hu
    cases e <;> first | (cases hu; done) | skip
    unfold DataW.lay
    rw [hq, hf]
    simp only [hl, hp]
theorem layList_cons {P : Program} {n g : Nat} {x : String × DataW Unit} {r : List (String × DataW Unit)} {t : TypeId} {y : List Value × List Obj} {z : List (Nat × List Value) × List Obj} (hg : P.globalNamed x.1 = some g) (ht : (P.globals[g]?).map (·.type) = some t) (hy : x.2.lay P t n = some y) (hz : Lay.layList P (n + y.2.length) r = some z) :
    Lay.layList P n (x :: r) = some ((g, y.1) :: z.1, y.2 ++ z.2) := by
  obtain ⟨gl, h1, h2⟩ := Option.map_eq_some_iff.1 ht
  subst h2
  unfold Lay.layList
  rw [hg]
  simp only [h1, hy, hz]
theorem layList_nil {P : Program} {n : Nat} : Lay.layList P n [] = some ([], []) := by unfold Lay.layList; rfl
/-- the data of the row -/
noncomputable def dat (i : Nat) : String × DataW Unit := (Rows.consoleHashesRow.laid[i]?).getD (sentName, .nil)
theorem under321 : (match Tryz.prog.underlying 321 with | some (.interface _) => true | _ => false) = true := by kernel_rfl
theorem dg0 : Tryz.prog.globalNamed (dat 0).1 = some 4 := by kernel_rfl
theorem dt0 : (Tryz.prog.globals[4]?).map (·.type) = some 321 := by kernel_rfl
theorem de0 : (dat 0).2 = .iface sentName (.ptr (.agg [.lit (.string (strB (dat 0).2))])) := by kernel_rfl
theorem dp0 : (DataW.ptr (.agg [.lit (.string (strB (dat 0).2))])).lay Tryz.prog 725 18 = some ([.pointer (some ⟨18, 0, none⟩)], [sentC (dat 0).2]) := by kernel_rfl
theorem dk0 : Lay.pack Tryz.prog 725 [.pointer (some ⟨18, 0, none⟩)] = some (.pointer (some ⟨18, 0, none⟩)) := by kernel_rfl
theorem dl0 : (dat 0).2.lay Tryz.prog 321 18 = some ([.iface 725 (.pointer (some ⟨18, 0, none⟩))], [sentC (dat 0).2]) := by
  have h := lay_sentG (t := 321) bear_find under321 dp0 dk0
  rw [← de0] at h
  exact h
theorem dg1 : Tryz.prog.globalNamed (dat 1).1 = some 0 := by kernel_rfl
theorem dt1 : (Tryz.prog.globals[0]?).map (·.type) = some 62 := by kernel_rfl
theorem dl1 : (dat 1).2.lay Tryz.prog 62 19 = some (litV (dat 1).2, []) := by kernel_rfl
theorem dg2 : Tryz.prog.globalNamed (dat 2).1 = some 1 := by kernel_rfl
theorem dt2 : (Tryz.prog.globals[1]?).map (·.type) = some 87 := by kernel_rfl
theorem dl2 : (dat 2).2.lay Tryz.prog 87 19 = some (litV (dat 2).2, []) := by kernel_rfl
theorem dg3 : Tryz.prog.globalNamed (dat 3).1 = some 6 := by kernel_rfl
theorem dt3 : (Tryz.prog.globals[6]?).map (·.type) = some 675 := by kernel_rfl
theorem dl3 : (dat 3).2.lay Tryz.prog 675 19 = some (litV (dat 3).2, []) := by kernel_rfl
theorem dg4 : Tryz.prog.globalNamed (dat 4).1 = some 7 := by kernel_rfl
theorem dt4 : (Tryz.prog.globals[7]?).map (·.type) = some 678 := by kernel_rfl
theorem dl4 : (dat 4).2.lay Tryz.prog 678 19 = some (litV (dat 4).2, []) := by kernel_rfl
theorem dg5 : Tryz.prog.globalNamed (dat 5).1 = some 9 := by kernel_rfl
theorem dt5 : (Tryz.prog.globals[9]?).map (·.type) = some 321 := by kernel_rfl
theorem de5 : (dat 5).2 = .iface sentName (.ptr (.agg [.lit (.string (strB (dat 5).2))])) := by kernel_rfl
theorem dp5 : (DataW.ptr (.agg [.lit (.string (strB (dat 5).2))])).lay Tryz.prog 725 19 = some ([.pointer (some ⟨19, 0, none⟩)], [sentC (dat 5).2]) := by kernel_rfl
theorem dk5 : Lay.pack Tryz.prog 725 [.pointer (some ⟨19, 0, none⟩)] = some (.pointer (some ⟨19, 0, none⟩)) := by kernel_rfl
theorem dl5 : (dat 5).2.lay Tryz.prog 321 19 = some ([.iface 725 (.pointer (some ⟨19, 0, none⟩))], [sentC (dat 5).2]) := by
  have h := lay_sentG (t := 321) bear_find under321 dp5 dk5
  rw [← de5] at h
  exact h
theorem dg6 : Tryz.prog.globalNamed (dat 6).1 = some 10 := by kernel_rfl
theorem dt6 : (Tryz.prog.globals[10]?).map (·.type) = some 321 := by kernel_rfl
theorem de6 : (dat 6).2 = .iface sentName (.ptr (.agg [.lit (.string (strB (dat 6).2))])) := by kernel_rfl
theorem dp6 : (DataW.ptr (.agg [.lit (.string (strB (dat 6).2))])).lay Tryz.prog 725 20 = some ([.pointer (some ⟨20, 0, none⟩)], [sentC (dat 6).2]) := by kernel_rfl
theorem dk6 : Lay.pack Tryz.prog 725 [.pointer (some ⟨20, 0, none⟩)] = some (.pointer (some ⟨20, 0, none⟩)) := by kernel_rfl
theorem dl6 : (dat 6).2.lay Tryz.prog 321 20 = some ([.iface 725 (.pointer (some ⟨20, 0, none⟩))], [sentC (dat 6).2]) := by
  have h := lay_sentG (t := 321) bear_find under321 dp6 dk6
  rw [← de6] at h
  exact h
theorem dg7 : Tryz.prog.globalNamed (dat 7).1 = some 8 := by kernel_rfl
theorem dt7 : (Tryz.prog.globals[8]?).map (·.type) = some 688 := by kernel_rfl
theorem dl7 : (dat 7).2.lay Tryz.prog 688 21 = some (litV (dat 7).2, []) := by kernel_rfl
theorem dg8 : Tryz.prog.globalNamed (dat 8).1 = some 11 := by kernel_rfl
theorem dt8 : (Tryz.prog.globals[11]?).map (·.type) = some 44 := by kernel_rfl
theorem dl8 : (dat 8).2.lay Tryz.prog 44 21 = some (litV (dat 8).2, []) := by kernel_rfl
theorem dg9 : Tryz.prog.globalNamed (dat 9).1 = some 12 := by kernel_rfl
theorem dt9 : (Tryz.prog.globals[12]?).map (·.type) = some 723 := by kernel_rfl
theorem dl9 : (dat 9).2.lay Tryz.prog 723 21 = some (litV (dat 9).2, []) := by kernel_rfl
theorem list10 : Rows.consoleHashesRow.laid = [dat 0, dat 1, dat 2, dat 3, dat 4, dat 5, dat 6, dat 7, dat 8, dat 9] := by kernel_rfl
noncomputable def y0 : List (Nat × List Value) × List Obj := ([(4, [.iface 725 (.pointer (some ⟨18, 0, none⟩))]), (0, litV (dat 1).2), (1, litV (dat 2).2), (6, litV (dat 3).2), (7, litV (dat 4).2), (9, [.iface 725 (.pointer (some ⟨19, 0, none⟩))]), (10, [.iface 725 (.pointer (some ⟨20, 0, none⟩))]), (8, litV (dat 7).2), (11, litV (dat 8).2), (12, litV (dat 9).2)], [sentC (dat 0).2, sentC (dat 5).2, sentC (dat 6).2])
theorem lay_y0 : Lay.layList Tryz.prog 18 Rows.consoleHashesRow.laid = some y0 := by
  rw [list10]
  exact (layList_cons dg0 dt0 dl0 (layList_cons dg1 dt1 dl1 (layList_cons dg2 dt2 dl2 (layList_cons dg3 dt3 dl3 (layList_cons dg4 dt4 dl4 (layList_cons dg5 dt5 dl5 (layList_cons dg6 dt6 dl6 (layList_cons dg7 dt7 dl7 (layList_cons dg8 dt8 dl8 (layList_cons dg9 dt9 dl9 layList_nil))))))))))
end Go.Proofs.YtkondgccabcabaaGreatDoor
/- ConsoleHashes: the world in which the row's list is laid, spelt out. -/
set_option maxRecDepth 100000
namespace Go.Proofs.YtkondgccabcabaaGreatDoor
open Go.ChangeShapes Go.WideShapes Go.ChangeAt Go.RowKit
/-- a world whose rows are set, with more blocks behind -/
def layW (w : World) (y : List (Nat × List Value) × List Obj) : World := { w with heap := ⟨Lay.setRows w.heap.toList y.1 ++ y.2⟩ }
theorem layVars_of {P : Program} {w : World} {l : List (String × DataW Unit)} {y : List (Nat × List Value) × List Obj} (h : Lay.layList P w.heap.size l = some y) : w.layVars P l = layW w y := by
  unfold World.layVars
  rw [h]; rfl
theorem fits_of {P : Program} {w : World} {l : List (String × DataW Unit)} {y : List (Nat × List Value) × List Obj} (h : Lay.layList P w.heap.size l = some y) (h1 : (y.1.map (·.1)).Nodup) (h2 : ∀ r ∈ y.1, Lay.isRow w.heap.toList[r.1]? = true) : w.layFits P l [] = true := by
  unfold World.layFits
  rw [h]
  simp only [Bool.and_eq_true, decide_eq_true_eq, List.all_eq_true]
  exact ⟨⟨h1, fun r hr => ⟨h2 r hr, rfl⟩⟩, fun r hr => by cases hr⟩
theorem ifaces_of {P : Program} {w w' : World} {l : List (String × DataW Unit)} {y : List (Nat × List Value) × List Obj} (h : Lay.layList P w.heap.size l = some y) (h1 : (y.1.all fun r => r.2.all (Lay.okV P w')) = true) (h2 : y.2.all (Lay.okO P w') = true) : w.layIfaces P l w' = true := by
  unfold World.layIfaces
  rw [h]
  simp only [h1, h2, Bool.and_self]
noncomputable def w0 (os : Os) : World := World.holding Tryz.prog os ⟨#[], #[], []⟩
theorem hold_size (os : Os) : (w0 os).heap.size = 18 := by kernel_rfl
theorem lay_w0 (os : Os) : Lay.layList Tryz.prog (w0 os).heap.size Rows.consoleHashesRow.laid = some y0 := by rw [hold_size]; exact lay_y0
noncomputable def wC (os : Os) : World := layW (w0 os) y0
theorem wA_eq (os : Os) : World.laidAll Tryz.prog os Rows.consoleHashesRow.laid = wC os := layVars_of (lay_w0 os)
noncomputable def wD (os : Os) : World := (wC os).forCall (fun _ _ => 0) ⟨#[], #[.slice none 0 0], []⟩
theorem wC_os (os : Os) : (wC os).os = os := by rw [← wA_eq]; exact World.laidAll_os _ _ _
theorem y0_nodup : (y0.1.map (·.1)).Nodup := by show [4, 0, 1, 6, 7, 9, 10, 8, 11, 12].Nodup; decide
theorem w0_rows (os : Os) : (y0.1.all fun r => Lay.isRow (w0 os).heap.toList[r.1]?) = true := by kernel_rfl
theorem y0_vals (os : Os) : (y0.1.all fun r => r.2.all (Lay.okV Tryz.prog (wC os))) = true := by kernel_rfl
theorem y0_objs (os : Os) : y0.2.all (Lay.okO Tryz.prog (wC os)) = true := by kernel_rfl
theorem wA_fits (os : Os) : (w0 os).layFits Tryz.prog Rows.consoleHashesRow.laid [] = true := fits_of (lay_w0 os) y0_nodup (List.all_eq_true.1 (w0_rows os))
theorem wA_ifaces (os : Os) : (w0 os).layIfaces Tryz.prog Rows.consoleHashesRow.laid (World.laidAll Tryz.prog os Rows.consoleHashesRow.laid) = true := by
  rw [wA_eq]
  exact ifaces_of (lay_w0 os) (y0_vals os) (y0_objs os)
theorem wC_met (os : Os) (args : Array Value) : laidMet Tryz.prog Rows.consoleHashesRow.laid ((wC os).forCall (fun _ _ => 0) ⟨#[], args, []⟩).memory := by
  rw [← wA_eq]
  exact laidMet_laidAll args (wA_fits os) (wA_ifaces os)
end Go.Proofs.YtkondgccabcabaaGreatDoor
/- ConsoleHashes: the variables of that world. -/
set_option maxRecDepth 100000
namespace Go.Proofs.YtkondgccabcabaaGreatDoor
open Go.ChangeShapes Go.WideShapes Go.ChangeAt Go.RowKit
theorem wD_vars (os : Os) : (wD os).variablesZipB Tryz.checked.prog = true := by kernel_rfl
end Go.Proofs.YtkondgccabcabaaGreatDoor
/- ConsoleHashes: the rows of that world. -/
set_option maxRecDepth 100000
namespace Go.Proofs.YtkondgccabcabaaGreatDoor
open Go.ChangeShapes Go.WideShapes Go.ChangeAt Go.RowKit
theorem wD_rows (os : Os) : ((wD os).heap.toList.drop Tryz.checked.prog.globals.size).take ((begin Tryz.checked.prog (fun _ _ => 0) default).world.heap.size - Tryz.checked.prog.globals.size) = (begin Tryz.checked.prog (fun _ _ => 0) default).world.heap.toList.drop Tryz.checked.prog.globals.size := by kernel_rfl
end Go.Proofs.YtkondgccabcabaaGreatDoor
/- ConsoleHashes: the input of that world, and what the row asks for. -/
set_option maxRecDepth 100000
namespace Go.Proofs.YtkondgccabcabaaGreatDoor
open Go.ChangeShapes Go.WideShapes Go.ChangeAt Go.RowKit
theorem wD_ok (os : Os) : Input.okWideB Tryz.checked.prog (wD os) 3 ⟨#[], #[.slice none 0 0], []⟩ = true := by kernel_rfl
theorem wD_pre {H : Type} (enc : TypeId × Value → H) (os : Os) : Rows.consoleHashesSpec.preB enc Tryz.checked.prog Tryz.f3 [] false (wD os).memory #[.slice none 0 0] 8 = true := by kernel_rfl
theorem wD_sized {H : Type} (enc : TypeId × Value → H) (os : Os) : Rows.consoleHashesSpec.sizedB enc Tryz.checked.prog Tryz.f3 false (wD os).memory #[.slice none 0 0] 8 = true := by kernel_rfl
end Go.Proofs.YtkondgccabcabaaGreatDoor
