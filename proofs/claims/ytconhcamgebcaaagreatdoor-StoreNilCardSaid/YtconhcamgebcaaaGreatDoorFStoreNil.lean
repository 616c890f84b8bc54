/-
  StoreNil: the closed facts of its row, each by itself.
-/
import Derived.Test.YtconhcamgebcaaaGreatDoorCards
import Derived.JoinedCond
import Derived.KernelRfl
namespace Go.Proofs.YtconhcamgebcaaaGreatDoor.storeNil
set_option maxRecDepth 100000
theorem fact0 : (Rows.storeNilRow.wf (OpenSpec.ofChange Rows.storeNilSpec)) = true := by kernel_rfl
theorem fact1 : (laidOutB Tryz.prog) = true := by kernel_rfl
theorem fact2 : (mapsRowed Tryz.prog) = true := by kernel_rfl
theorem fact3 : (Tryz.f7.params.all (Tryz.prog.readableRec ·)) = true := by kernel_rfl
theorem fact4 : (namedTie Tryz.prog Rows.storeNilRow.named Rows.storeNilSpec.vars) = true := by kernel_rfl
theorem fact5 : ((Rows.storeNilRow.stops == [])) = true := by kernel_rfl
theorem fact6 : ((Tryz.prog.stops == [])) = true := by kernel_rfl
theorem fact7 : ((Rows.storeNilRow.knobs == [])) = true := by kernel_rfl
theorem fact8 : ((Tryz.prog.stopKnobs == [])) = true := by kernel_rfl
theorem fact9 : ((Rows.storeNilRow.inPlace == Tryz.prog.inPlace 7)) = true := by kernel_rfl
theorem fact10 : ((Rows.storeNilRow.unfollowed == Tryz.prog.unfollowed 7)) = true := by kernel_rfl
theorem fact11 : ((Rows.storeNilRow.recurses == Tryz.prog.recurses 7)) = true := by kernel_rfl
theorem fact12 : ((Rows.storeNilRow.named == Tryz.prog.varsNamed 7)) = true := by kernel_rfl
theorem fact13 : ((Rows.storeNilRow.maps == (Tryz.f7.params.toList ++ Rows.storeNilSpec.plain.varTypes Tryz.prog).any (Tryz.prog.mapsRec ·))) = true := by kernel_rfl
theorem fact14 : ((Rows.storeNilRow.ifaces == (Tryz.f7.params.toList ++ Rows.storeNilSpec.plain.varTypes Tryz.prog).any (Tryz.prog.ifacesRec ·))) = true := by kernel_rfl
theorem fact15 : ((Rows.storeNilRow.mapsOut == Tryz.prog.mapsAmong Tryz.f7.resultTypes.toList)) = true := by kernel_rfl
theorem fact16 : ((Rows.storeNilRow.loops == (Tryz.f7.params.toList ++ Rows.storeNilSpec.plain.varTypes Tryz.prog).any (Tryz.prog.loopsFrom ·))) = true := by kernel_rfl
theorem fact17 : ((Rows.storeNilRow.wideKeys == (Tryz.f7.params.toList ++ Rows.storeNilSpec.plain.varTypes Tryz.prog ++ Tryz.f7.resultTypes.toList).any (Tryz.prog.wideKeysFrom ·))) = true := by kernel_rfl
theorem fact18 : (Rows.storeNilSpec.vars.all (Tryz.prog.varReadable ·)) = true := by kernel_rfl
theorem fact19 : (Tryz.f7.resultTypes.all (fun t => Tryz.prog.readableRec t && decide (t < Tryz.prog.types.size))) = true := by kernel_rfl
theorem fact20 : ((Rows.storeNilRow.ifacesOut == Tryz.f7.resultTypes.toList.any (Tryz.prog.ifacesRec ·))) = true := by kernel_rfl
theorem fact21 : ((Rows.storeNilRow.loopsOut == Tryz.f7.resultTypes.toList.any (Tryz.prog.loopsFrom ·))) = true := by kernel_rfl
theorem fact22 : ((Rows.storeNilRow.plainKeys == Tryz.prog.plainKeys)) = true := by kernel_rfl
theorem fact23 : (Rows.storeNilRow.shortTexts.isNone) = true := by kernel_rfl
theorem fact24 : (Tryz.prog.stopsHeard) = true := by kernel_rfl
theorem fact25 : (Tryz.prog.mayEnter) = true := by kernel_rfl
theorem fact26 : ((Rows.storeNilRow.lifted == Tryz.prog.liftsFinal)) = true := by kernel_rfl
theorem fact27 : ((Tryz.prog.make == some Rows.storeNilRow.make)) = true := by kernel_rfl
theorem fact28 : ((Rows.storeNilRow.kinds == (if Rows.storeNilRow.domain.isEmpty then [] else Tryz.f7.params.toList.map fun t => match Tryz.prog.underlying t with | some (.int k) => some k | _ => none))) = true := by kernel_rfl
theorem fact29 : ((Rows.storeNilRow.pinned == Rows.storeNilRow.pinnedBy)) = true := by kernel_rfl
theorem fact30 : ((Rows.storeNilRow.veiled == (Tryz.f7.params.toList ++ Rows.storeNilSpec.plain.varTypes Tryz.prog ++ Tryz.f7.resultTypes.toList).any (Tryz.prog.veiledRec ·))) = true := by kernel_rfl
theorem fact31 : (Rows.storeNilRow.veiledFits Tryz.prog Tryz.f7.params.toList (Tryz.f7.params.toList ++ Rows.storeNilSpec.plain.varTypes Tryz.prog ++ Tryz.f7.resultTypes.toList)) = true := by kernel_rfl
theorem band {a b : Bool} (x : a = true) (y : b = true) : (a && b) = true := by rw [x, y]; rfl
theorem facts : joinedFacts Tryz.prog 7 Tryz.f7 ((OpenSpec.ofChange Rows.storeNilSpec)).bare Rows.storeNilRow = true := (band (band (band (band (band (band (band (band (band (band (band (band (band (band (band (band (band (band (band (band (band (band (band (band (band (band (band (band (band (band (band fact0 fact1) fact2) fact3) fact4) fact5) fact6) fact7) fact8) fact9) fact10) fact11) fact12) fact13) fact14) fact15) fact16) fact17) fact18) fact19) fact20) fact21) fact22) fact23) fact24) fact25) fact26) fact27) fact28) fact29) fact30) fact31)
end Go.Proofs.YtconhcamgebcaaaGreatDoor.storeNil
