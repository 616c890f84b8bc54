/-
  NamesNil: the closed facts of its row, each by itself.
-/
import Derived.Test.YtconhcamgebcaaaGreatDoorCards
import Derived.JoinedCond
import Derived.KernelRfl
namespace Go.Proofs.YtconhcamgebcaaaGreatDoor.namesNil
set_option maxRecDepth 100000
theorem fact0 : (Rows.namesNilRow.wf (OpenSpec.ofChange Rows.namesNilSpec)) = true := by kernel_rfl
theorem fact1 : (laidOutB Tryz.prog) = true := by kernel_rfl
theorem fact2 : (mapsRowed Tryz.prog) = true := by kernel_rfl
theorem fact3 : (Tryz.f9.params.all (Tryz.prog.readableRec ·)) = true := by kernel_rfl
theorem fact4 : (namedTie Tryz.prog Rows.namesNilRow.named Rows.namesNilSpec.vars) = true := by kernel_rfl
theorem fact5 : ((Rows.namesNilRow.stops == [])) = true := by kernel_rfl
theorem fact6 : ((Tryz.prog.stops == [])) = true := by kernel_rfl
theorem fact7 : ((Rows.namesNilRow.knobs == [])) = true := by kernel_rfl
theorem fact8 : ((Tryz.prog.stopKnobs == [])) = true := by kernel_rfl
theorem fact9 : ((Rows.namesNilRow.inPlace == Tryz.prog.inPlace 9)) = true := by kernel_rfl
theorem fact10 : ((Rows.namesNilRow.unfollowed == Tryz.prog.unfollowed 9)) = true := by kernel_rfl
theorem fact11 : ((Rows.namesNilRow.recurses == Tryz.prog.recurses 9)) = true := by kernel_rfl
theorem fact12 : ((Rows.namesNilRow.named == Tryz.prog.varsNamed 9)) = true := by kernel_rfl
theorem fact13 : ((Rows.namesNilRow.maps == (Tryz.f9.params.toList ++ Rows.namesNilSpec.plain.varTypes Tryz.prog).any (Tryz.prog.mapsRec ·))) = true := by kernel_rfl
theorem fact14 : ((Rows.namesNilRow.ifaces == (Tryz.f9.params.toList ++ Rows.namesNilSpec.plain.varTypes Tryz.prog).any (Tryz.prog.ifacesRec ·))) = true := by kernel_rfl
theorem fact15 : ((Rows.namesNilRow.mapsOut == Tryz.prog.mapsAmong Tryz.f9.resultTypes.toList)) = true := by kernel_rfl
theorem fact16 : ((Rows.namesNilRow.loops == (Tryz.f9.params.toList ++ Rows.namesNilSpec.plain.varTypes Tryz.prog).any (Tryz.prog.loopsFrom ·))) = true := by kernel_rfl
theorem fact17 : ((Rows.namesNilRow.wideKeys == (Tryz.f9.params.toList ++ Rows.namesNilSpec.plain.varTypes Tryz.prog ++ Tryz.f9.resultTypes.toList).any (Tryz.prog.wideKeysFrom ·))) = true := by kernel_rfl
theorem fact18 : (Rows.namesNilSpec.vars.all (Tryz.prog.varReadable ·)) = true := by kernel_rfl
theorem fact19 : (Tryz.f9.resultTypes.all (fun t => Tryz.prog.readableRec t && decide (t < Tryz.prog.types.size))) = true := by kernel_rfl
theorem fact20 : ((Rows.namesNilRow.ifacesOut == Tryz.f9.resultTypes.toList.any (Tryz.prog.ifacesRec ·))) = true := by kernel_rfl
theorem fact21 : ((Rows.namesNilRow.loopsOut == Tryz.f9.resultTypes.toList.any (Tryz.prog.loopsFrom ·))) = true := by kernel_rfl
theorem fact22 : ((Rows.namesNilRow.plainKeys == Tryz.prog.plainKeys)) = true := by kernel_rfl
theorem fact23 : (Rows.namesNilRow.shortTexts.isNone) = true := by kernel_rfl
theorem fact24 : (Tryz.prog.stopsHeard) = true := by kernel_rfl
theorem fact25 : (Tryz.prog.mayEnter) = true := by kernel_rfl
theorem fact26 : ((Rows.namesNilRow.lifted == Tryz.prog.liftsFinal)) = true := by kernel_rfl
theorem fact27 : ((Tryz.prog.make == some Rows.namesNilRow.make)) = true := by kernel_rfl
theorem fact28 : ((Rows.namesNilRow.kinds == (if Rows.namesNilRow.domain.isEmpty then [] else Tryz.f9.params.toList.map fun t => match Tryz.prog.underlying t with | some (.int k) => some k | _ => none))) = true := by kernel_rfl
theorem fact29 : ((Rows.namesNilRow.pinned == Rows.namesNilRow.pinnedBy)) = true := by kernel_rfl
theorem fact30 : ((Rows.namesNilRow.veiled == (Tryz.f9.params.toList ++ Rows.namesNilSpec.plain.varTypes Tryz.prog ++ Tryz.f9.resultTypes.toList).any (Tryz.prog.veiledRec ·))) = true := by kernel_rfl
theorem fact31 : (Rows.namesNilRow.veiledFits Tryz.prog Tryz.f9.params.toList (Tryz.f9.params.toList ++ Rows.namesNilSpec.plain.varTypes Tryz.prog ++ Tryz.f9.resultTypes.toList)) = true := by kernel_rfl
theorem band {a b : Bool} (x : a = true) (y : b = true) : (a && b) = true := by rw [x, y]; rfl
theorem facts : joinedFacts Tryz.prog 9 Tryz.f9 ((OpenSpec.ofChange Rows.namesNilSpec)).bare Rows.namesNilRow = true := (band (band (band (band (band (band (band (band (band (band (band (band (band (band (band (band (band (band (band (band (band (band (band (band (band (band (band (band (band (band (band fact0 fact1) fact2) fact3) fact4) fact5) fact6) fact7) fact8) fact9) fact10) fact11) fact12) fact13) fact14) fact15) fact16) fact17) fact18) fact19) fact20) fact21) fact22) fact23) fact24) fact25) fact26) fact27) fact28) fact29) fact30) fact31)
end Go.Proofs.YtconhcamgebcaaaGreatDoor.namesNil
