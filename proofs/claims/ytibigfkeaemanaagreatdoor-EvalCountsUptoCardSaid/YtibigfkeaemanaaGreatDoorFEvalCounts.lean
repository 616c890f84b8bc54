import Derived.JoinedCond
import Derived.KernelRfl
import Derived.Test.YtibigfkeaemanaaGreatDoorCards
namespace Go.Proofs.YtibigfkeaemanaaGreatDoor.evalCounts
set_option maxRecDepth 100000
theorem fact0 : (Rows.evalCountsUptoRow.wf (OpenSpec.ofChange (((Rows.OpenSpec.upto Rows.evalCountsSpec)).bare))) = true := by kernel_rfl
theorem fact1 : (laidOutB Tryz.prog) = true := by kernel_rfl
theorem fact2 : (mapsRowed Tryz.prog) = true := by kernel_rfl
theorem fact3 : (Tryz.f4.params.all (Tryz.prog.readableRec ·)) = true := by kernel_rfl
theorem fact4 : (namedTie Tryz.prog Rows.evalCountsUptoRow.named (((Rows.OpenSpec.upto Rows.evalCountsSpec)).bare).vars) = true := by kernel_rfl
theorem fact5 : ((Rows.evalCountsUptoRow.stops == [])) = true := by kernel_rfl
theorem fact6 : ((Tryz.prog.stops == [])) = true := by kernel_rfl
theorem fact7 : ((Rows.evalCountsUptoRow.knobs == [])) = true := by kernel_rfl
theorem fact8 : ((Tryz.prog.stopKnobs == [])) = true := by kernel_rfl
theorem fact9 : ((Rows.evalCountsUptoRow.inPlace == Tryz.prog.inPlace 4)) = true := by kernel_rfl
theorem fact10 : ((Rows.evalCountsUptoRow.unfollowed == Tryz.prog.unfollowed 4)) = true := by kernel_rfl
theorem fact11 : ((Rows.evalCountsUptoRow.recurses == Tryz.prog.recurses 4)) = true := by kernel_rfl
theorem fact12 : ((Rows.evalCountsUptoRow.named == Tryz.prog.varsNamed 4)) = true := by kernel_rfl
theorem fact13 : ((Rows.evalCountsUptoRow.maps == (Tryz.f4.params.toList ++ (((Rows.OpenSpec.upto Rows.evalCountsSpec)).bare).plain.varTypes Tryz.prog).any (Tryz.prog.mapsRec ·))) = true := by kernel_rfl
theorem fact14 : ((Rows.evalCountsUptoRow.ifaces == (Tryz.f4.params.toList ++ (((Rows.OpenSpec.upto Rows.evalCountsSpec)).bare).plain.varTypes Tryz.prog).any (Tryz.prog.ifacesRec ·))) = true := by kernel_rfl
theorem fact15 : ((Rows.evalCountsUptoRow.mapsOut == Tryz.prog.mapsAmong Tryz.f4.resultTypes.toList)) = true := by kernel_rfl
theorem fact16 : ((Rows.evalCountsUptoRow.loops == (Tryz.f4.params.toList ++ (((Rows.OpenSpec.upto Rows.evalCountsSpec)).bare).plain.varTypes Tryz.prog).any (Tryz.prog.loopsFrom ·))) = true := by kernel_rfl
theorem fact17 : ((Rows.evalCountsUptoRow.wideKeys == (Tryz.f4.params.toList ++ (((Rows.OpenSpec.upto Rows.evalCountsSpec)).bare).plain.varTypes Tryz.prog ++ Tryz.f4.resultTypes.toList).any (Tryz.prog.wideKeysFrom ·))) = true := by kernel_rfl
theorem fact18 : ((((Rows.OpenSpec.upto Rows.evalCountsSpec)).bare).vars.all (Tryz.prog.varReadable ·)) = true := by kernel_rfl
theorem fact19 : (Tryz.f4.resultTypes.all (fun t => Tryz.prog.readableRec t && decide (t < Tryz.prog.types.size))) = true := by kernel_rfl
theorem fact20 : ((Rows.evalCountsUptoRow.ifacesOut == Tryz.f4.resultTypes.toList.any (Tryz.prog.ifacesRec ·))) = true := by kernel_rfl
theorem fact21 : ((Rows.evalCountsUptoRow.loopsOut == Tryz.f4.resultTypes.toList.any (Tryz.prog.loopsFrom ·))) = true := by kernel_rfl
theorem fact22 : ((Rows.evalCountsUptoRow.plainKeys == Tryz.prog.plainKeys)) = true := by kernel_rfl
theorem fact23 : (Rows.evalCountsUptoRow.shortTexts.isNone) = true := by kernel_rfl
theorem fact24 : (Tryz.prog.stopsHeard) = true := by kernel_rfl
theorem fact25 : (Tryz.prog.mayEnter) = true := by kernel_rfl
theorem fact26 : ((Rows.evalCountsUptoRow.lifted == Tryz.prog.liftsFinal)) = true := by kernel_rfl
theorem fact27 : ((Tryz.prog.make == some Rows.evalCountsUptoRow.make)) = true := by kernel_rfl
theorem fact28 : ((Rows.evalCountsUptoRow.kinds == (if Rows.evalCountsUptoRow.domain.isEmpty then [] else Tryz.f4.params.toList.map fun t => match Tryz.prog.underlying t with | some (.int k) => some k | _ => none))) = true := by kernel_rfl
theorem fact29 : ((Rows.evalCountsUptoRow.pinned == Rows.evalCountsUptoRow.pinnedBy)) = true := by kernel_rfl
theorem fact30 : ((Rows.evalCountsUptoRow.veiled == (Tryz.f4.params.toList ++ (((Rows.OpenSpec.upto Rows.evalCountsSpec)).bare).plain.varTypes Tryz.prog ++ Tryz.f4.resultTypes.toList).any (Tryz.prog.veiledRec ·))) = true := by kernel_rfl
theorem fact31 : (Rows.evalCountsUptoRow.veiledFits Tryz.prog Tryz.f4.params.toList (Tryz.f4.params.toList ++ (((Rows.OpenSpec.upto Rows.evalCountsSpec)).bare).plain.varTypes Tryz.prog ++ Tryz.f4.resultTypes.toList)) = true := by kernel_rfl
theorem band {a b : Bool} (x : a = true) (y : b = true) : (a && b) = true := by rw [x, y]; rfl
theorem facts : joinedFacts Tryz.prog 4 Tryz.f4 ((Rows.OpenSpec.upto Rows.evalCountsSpec)).bare Rows.evalCountsUptoRow = true := (band (band (band (band (band (band (band (band (band (band (band (band (band (band (band (band (band (band (band (band (band (band (band (band (band (band (band (band (band (band (band fact0 fact1) fact2) fact3) fact4) fact5) fact6) fact7) fact8) fact9) fact10) fact11) fact12) fact13) fact14) fact15) fact16) fact17) fact18) fact19) fact20) fact21) fact22) fact23) fact24) fact25) fact26) fact27) fact28) fact29) fact30) fact31)
end Go.Proofs.YtibigfkeaemanaaGreatDoor.evalCounts
