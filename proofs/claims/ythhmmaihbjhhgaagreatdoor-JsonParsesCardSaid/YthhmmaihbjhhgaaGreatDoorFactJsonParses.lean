/- The closed facts of the row of the law JsonParses. -/
import Derived.Test.YthhmmaihbjhhgaaGreatDoorRows
import Derived.WalkKit
import Derived.ProofKit
import Derived.JoinedOf
import Derived.SevenTiedAt
namespace Go.Proofs.YthhmmaihbjhhgaaGreatDoor.jsonParses
open Go.ChangeShapes Go.WideShapes Go.ChangeAt Go.RowKit
open Go.ChangeMaps (open_string shut_string)
noncomputable abbrev fP : Program := Tryz.pinned.checked.prog
noncomputable abbrev fF : Func := Tryz.f4
noncomputable abbrev fS : ChangeSpec := (OpenSpec.ofChange Rows.jsonParsesSpec).bare
noncomputable abbrev fC : OpenClaim := Rows.jsonParsesRow
theorem fact0 : (fC.wf (OpenSpec.ofChange fS)) = true := by kernel_rfl
theorem fact1 : (laidOutB fP) = true := by kernel_rfl
theorem fact2 : (mapsRowed fP) = true := by kernel_rfl
theorem fact3 : (fF.params.all (fP.readableRec ·)) = true := by kernel_rfl
theorem fact4 : (namedTie fP fC.named fS.vars) = true := by kernel_rfl
theorem fact5 : ((fC.stops == [])) = true := by kernel_rfl
theorem fact6 : ((fP.stops == [])) = true := by kernel_rfl
theorem fact7 : ((fC.knobs == [])) = true := by kernel_rfl
theorem fact8 : ((fP.stopKnobs == [])) = true := by kernel_rfl
theorem fact9 : ((fC.inPlace == fP.inPlace 4)) = true := by kernel_rfl
theorem fact10 : ((fC.unfollowed == fP.unfollowed 4)) = true := by kernel_rfl
theorem fact11 : ((fC.recurses == fP.recurses 4)) = true := by kernel_rfl
theorem fact12 : ((fC.named == fP.varsNamed 4)) = true := by kernel_rfl
theorem fact13 : ((fC.maps == (fF.params.toList ++ fS.plain.varTypes fP).any (fP.mapsRec ·))) = true := by kernel_rfl
theorem fact14 : ((fC.ifaces == (fF.params.toList ++ fS.plain.varTypes fP).any (fP.ifacesRec ·))) = true := by kernel_rfl
theorem fact15 : ((fC.mapsOut == fP.mapsAmong fF.resultTypes.toList)) = true := by kernel_rfl
theorem fact16 : ((fC.loops == (fF.params.toList ++ fS.plain.varTypes fP).any (fP.loopsFrom ·))) = true := by kernel_rfl
theorem fact17 : ((fC.wideKeys == (fF.params.toList ++ fS.plain.varTypes fP ++ fF.resultTypes.toList).any (fP.wideKeysFrom ·))) = true := by kernel_rfl
theorem fact18 : (fS.vars.all (fP.varReadable ·)) = true := by kernel_rfl
theorem fact19 : (fF.resultTypes.all (fun t => fP.readableRec t && decide (t < fP.types.size))) = true := by kernel_rfl
theorem fact20 : ((fC.ifacesOut == fF.resultTypes.toList.any (fP.ifacesRec ·))) = true := by kernel_rfl
theorem fact21 : ((fC.loopsOut == fF.resultTypes.toList.any (fP.loopsFrom ·))) = true := by kernel_rfl
theorem fact22 : ((fC.plainKeys == fP.plainKeys)) = true := by kernel_rfl
theorem fact23 : (fC.shortTexts.isNone) = true := by kernel_rfl
theorem fact24 : (fP.stopsHeard) = true := by kernel_rfl
theorem fact25 : (fP.mayEnter) = true := by kernel_rfl
theorem fact26 : ((fC.lifted == fP.liftsFinal)) = true := by kernel_rfl
theorem fact27 : ((fP.make == some fC.make)) = true := by kernel_rfl
theorem fact28 : ((fC.kinds == (if fC.domain.isEmpty then [] else fF.params.toList.map fun t => match fP.underlying t with | some (.int k) => some k | _ => none))) = true := by kernel_rfl
theorem fact29 : ((fC.pinned == fC.pinnedBy)) = true := by kernel_rfl
theorem fact30 : ((fC.veiled == (fF.params.toList ++ fS.plain.varTypes fP ++ fF.resultTypes.toList).any (fP.veiledRec ·))) = true := by kernel_rfl
theorem fact31 : (fC.veiledFits fP fF.params.toList (fF.params.toList ++ fS.plain.varTypes fP ++ fF.resultTypes.toList)) = true := by kernel_rfl
theorem and2 {a b : Bool} (ha : a = true) (hb : b = true) : (a && b) = true := by rw [ha, hb]; rfl
set_option maxRecDepth 100000 in
theorem facts : joinedFacts Tryz.pinned.checked.prog 4 Tryz.f4 (OpenSpec.ofChange Rows.jsonParsesSpec).bare Rows.jsonParsesRow = true := (and2 (and2 (and2 (and2 (and2 (and2 (and2 (and2 (and2 (and2 (and2 (and2 (and2 (and2 (and2 (and2 (and2 (and2 (and2 (and2 (and2 (and2 (and2 (and2 (and2 (and2 (and2 (and2 (and2 (and2 (and2 fact0 fact1) fact2) fact3) fact4) fact5) fact6) fact7) fact8) fact9) fact10) fact11) fact12) fact13) fact14) fact15) fact16) fact17) fact18) fact19) fact20) fact21) fact22) fact23) fact24) fact25) fact26) fact27) fact28) fact29) fact30) fact31)
end Go.Proofs.YthhmmaihbjhhgaaGreatDoor.jsonParses
