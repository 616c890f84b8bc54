import Derived.JoinedCond
import Derived.KernelRfl
import Derived.Test.YtnaenhkldanjbaaDoorCards
namespace Go.Proofs.YtnaenhkldanjbaaDoor.langParses
set_option maxRecDepth 100000
theorem fact0 : (Rows.langParsesRow.wf (OpenSpec.ofChange Rows.langParsesSpec)) = true := by kernel_rfl
theorem fact1 : (laidOutB Tryd.prog) = true := by kernel_rfl
theorem fact2 : (mapsRowed Tryd.prog) = true := by kernel_rfl
theorem fact3 : (Tryd.f3.params.all (Tryd.prog.readableRec ·)) = true := by kernel_rfl
theorem fact4 : (namedTie Tryd.prog Rows.langParsesRow.named Rows.langParsesSpec.vars) = true := by kernel_rfl
theorem fact5 : ((Rows.langParsesRow.stops == [])) = true := by kernel_rfl
theorem fact6 : ((Tryd.prog.stops == [])) = true := by kernel_rfl
theorem fact7 : ((Rows.langParsesRow.knobs == [])) = true := by kernel_rfl
theorem fact8 : ((Tryd.prog.stopKnobs == [])) = true := by kernel_rfl
theorem fact9 : ((Rows.langParsesRow.inPlace == Tryd.prog.inPlace 3)) = true := by kernel_rfl
theorem fact10 : ((Rows.langParsesRow.unfollowed == Tryd.prog.unfollowed 3)) = true := by kernel_rfl
theorem fact11 : ((Rows.langParsesRow.recurses == Tryd.prog.recurses 3)) = true := by kernel_rfl
theorem fact12 : ((Rows.langParsesRow.named == Tryd.prog.varsNamed 3)) = true := by kernel_rfl
theorem fact13 : ((Rows.langParsesRow.maps == (Tryd.f3.params.toList ++ Rows.langParsesSpec.plain.varTypes Tryd.prog).any (Tryd.prog.mapsRec ·))) = true := by kernel_rfl
theorem fact14 : ((Rows.langParsesRow.ifaces == (Tryd.f3.params.toList ++ Rows.langParsesSpec.plain.varTypes Tryd.prog).any (Tryd.prog.ifacesRec ·))) = true := by kernel_rfl
theorem fact15 : ((Rows.langParsesRow.mapsOut == Tryd.prog.mapsAmong Tryd.f3.resultTypes.toList)) = true := by kernel_rfl
theorem fact16 : ((Rows.langParsesRow.loops == (Tryd.f3.params.toList ++ Rows.langParsesSpec.plain.varTypes Tryd.prog).any (Tryd.prog.loopsFrom ·))) = true := by kernel_rfl
theorem fact17 : ((Rows.langParsesRow.wideKeys == (Tryd.f3.params.toList ++ Rows.langParsesSpec.plain.varTypes Tryd.prog ++ Tryd.f3.resultTypes.toList).any (Tryd.prog.wideKeysFrom ·))) = true := by kernel_rfl
theorem fact18 : (Rows.langParsesSpec.vars.all (Tryd.prog.varReadable ·)) = true := by kernel_rfl
theorem fact19 : (Tryd.f3.resultTypes.all (fun t => Tryd.prog.readableRec t && decide (t < Tryd.prog.types.size))) = true := by kernel_rfl
theorem fact20 : ((Rows.langParsesRow.ifacesOut == Tryd.f3.resultTypes.toList.any (Tryd.prog.ifacesRec ·))) = true := by kernel_rfl
theorem fact21 : ((Rows.langParsesRow.loopsOut == Tryd.f3.resultTypes.toList.any (Tryd.prog.loopsFrom ·))) = true := by kernel_rfl
theorem fact22 : ((Rows.langParsesRow.plainKeys == Tryd.prog.plainKeys)) = true := by kernel_rfl
theorem fact23 : (Rows.langParsesRow.shortTexts.isNone) = true := by kernel_rfl
theorem fact24 : (Tryd.prog.stopsHeard) = true := by kernel_rfl
theorem fact25 : (Tryd.prog.mayEnter) = true := by kernel_rfl
theorem fact26 : ((Rows.langParsesRow.lifted == Tryd.prog.liftsFinal)) = true := by kernel_rfl
theorem fact27 : ((Tryd.prog.make == some Rows.langParsesRow.make)) = true := by kernel_rfl
theorem fact28 : ((Rows.langParsesRow.kinds == (if Rows.langParsesRow.domain.isEmpty then [] else Tryd.f3.params.toList.map fun t => match Tryd.prog.underlying t with | some (.int k) => some k | _ => none))) = true := by kernel_rfl
theorem fact29 : ((Rows.langParsesRow.pinned == Rows.langParsesRow.pinnedBy)) = true := by kernel_rfl
theorem fact30 : ((Rows.langParsesRow.veiled == (Tryd.f3.params.toList ++ Rows.langParsesSpec.plain.varTypes Tryd.prog ++ Tryd.f3.resultTypes.toList).any (Tryd.prog.veiledRec ·))) = true := by kernel_rfl
theorem fact31 : (Rows.langParsesRow.veiledFits Tryd.prog Tryd.f3.params.toList (Tryd.f3.params.toList ++ Rows.langParsesSpec.plain.varTypes Tryd.prog ++ Tryd.f3.resultTypes.toList)) = true := by kernel_rfl
theorem band {a b : Bool} (x : a = true) (y : b = true) : (a && b) = true := by rw [x, y]; rfl
theorem facts : joinedFacts Tryd.prog 3 Tryd.f3 ((OpenSpec.ofChange Rows.langParsesSpec)).bare Rows.langParsesRow = true := (band (band (band (band (band (band (band (band (band (band (band (band (band (band (band (band (band (band (band (band (band (band (band (band (band (band (band (band (band (band (band fact0 fact1) fact2) fact3) fact4) fact5) fact6) fact7) fact8) fact9) fact10) fact11) fact12) fact13) fact14) fact15) fact16) fact17) fact18) fact19) fact20) fact21) fact22) fact23) fact24) fact25) fact26) fact27) fact28) fact29) fact30) fact31)
end Go.Proofs.YtnaenhkldanjbaaDoor.langParses
