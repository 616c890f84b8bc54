import Derived.JoinedCond
import Derived.KernelRfl
import Derived.Test.YtgdnfoijhdpppaaDoorCards
namespace Go.Proofs.YtgdnfoijhdpppaaDoor.treeQuotas
set_option maxRecDepth 100000
theorem fact0 : (Rows.treeQuotasUptoRow.wf (OpenSpec.ofChange (((Rows.OpenSpec.upto Rows.treeQuotasSpec)).bare))) = true := by kernel_rfl
theorem fact1 : (laidOutB Tryd.prog) = true := by kernel_rfl
theorem fact2 : (mapsRowed Tryd.prog) = true := by kernel_rfl
theorem fact3 : (Tryd.f3.params.all (Tryd.prog.readableRec ·)) = true := by kernel_rfl
theorem fact4 : (namedTie Tryd.prog Rows.treeQuotasUptoRow.named (((Rows.OpenSpec.upto Rows.treeQuotasSpec)).bare).vars) = true := by kernel_rfl
theorem fact5 : ((Rows.treeQuotasUptoRow.stops == [])) = true := by kernel_rfl
theorem fact6 : ((Tryd.prog.stops == [])) = true := by kernel_rfl
theorem fact7 : ((Rows.treeQuotasUptoRow.knobs == [])) = true := by kernel_rfl
theorem fact8 : ((Tryd.prog.stopKnobs == [])) = true := by kernel_rfl
theorem fact9 : ((Rows.treeQuotasUptoRow.inPlace == Tryd.prog.inPlace 3)) = true := by kernel_rfl
theorem fact10 : ((Rows.treeQuotasUptoRow.unfollowed == Tryd.prog.unfollowed 3)) = true := by kernel_rfl
theorem fact11 : ((Rows.treeQuotasUptoRow.recurses == Tryd.prog.recurses 3)) = true := by kernel_rfl
theorem fact12 : ((Rows.treeQuotasUptoRow.named == Tryd.prog.varsNamed 3)) = true := by kernel_rfl
theorem fact13 : ((Rows.treeQuotasUptoRow.maps == (Tryd.f3.params.toList ++ (((Rows.OpenSpec.upto Rows.treeQuotasSpec)).bare).plain.varTypes Tryd.prog).any (Tryd.prog.mapsRec ·))) = true := by kernel_rfl
theorem fact14 : ((Rows.treeQuotasUptoRow.ifaces == (Tryd.f3.params.toList ++ (((Rows.OpenSpec.upto Rows.treeQuotasSpec)).bare).plain.varTypes Tryd.prog).any (Tryd.prog.ifacesRec ·))) = true := by kernel_rfl
theorem fact15 : ((Rows.treeQuotasUptoRow.mapsOut == Tryd.prog.mapsAmong Tryd.f3.resultTypes.toList)) = true := by kernel_rfl
theorem fact16 : ((Rows.treeQuotasUptoRow.loops == (Tryd.f3.params.toList ++ (((Rows.OpenSpec.upto Rows.treeQuotasSpec)).bare).plain.varTypes Tryd.prog).any (Tryd.prog.loopsFrom ·))) = true := by kernel_rfl
theorem fact17 : ((Rows.treeQuotasUptoRow.wideKeys == (Tryd.f3.params.toList ++ (((Rows.OpenSpec.upto Rows.treeQuotasSpec)).bare).plain.varTypes Tryd.prog ++ Tryd.f3.resultTypes.toList).any (Tryd.prog.wideKeysFrom ·))) = true := by kernel_rfl
theorem fact18 : ((((Rows.OpenSpec.upto Rows.treeQuotasSpec)).bare).vars.all (Tryd.prog.varReadable ·)) = true := by kernel_rfl
theorem fact19 : (Tryd.f3.resultTypes.all (fun t => Tryd.prog.readableRec t && decide (t < Tryd.prog.types.size))) = true := by kernel_rfl
theorem fact20 : ((Rows.treeQuotasUptoRow.ifacesOut == Tryd.f3.resultTypes.toList.any (Tryd.prog.ifacesRec ·))) = true := by kernel_rfl
theorem fact21 : ((Rows.treeQuotasUptoRow.loopsOut == Tryd.f3.resultTypes.toList.any (Tryd.prog.loopsFrom ·))) = true := by kernel_rfl
theorem fact22 : ((Rows.treeQuotasUptoRow.plainKeys == Tryd.prog.plainKeys)) = true := by kernel_rfl
theorem fact23 : (Rows.treeQuotasUptoRow.shortTexts.isNone) = true := by kernel_rfl
theorem fact24 : (Tryd.prog.stopsHeard) = true := by kernel_rfl
theorem fact25 : (Tryd.prog.mayEnter) = true := by kernel_rfl
theorem fact26 : ((Rows.treeQuotasUptoRow.lifted == Tryd.prog.liftsFinal)) = true := by kernel_rfl
theorem fact27 : ((Tryd.prog.make == some Rows.treeQuotasUptoRow.make)) = true := by kernel_rfl
theorem fact28 : ((Rows.treeQuotasUptoRow.kinds == (if Rows.treeQuotasUptoRow.domain.isEmpty then [] else Tryd.f3.params.toList.map fun t => match Tryd.prog.underlying t with | some (.int k) => some k | _ => none))) = true := by kernel_rfl
theorem fact29 : ((Rows.treeQuotasUptoRow.pinned == Rows.treeQuotasUptoRow.pinnedBy)) = true := by kernel_rfl
theorem fact30 : ((Rows.treeQuotasUptoRow.veiled == (Tryd.f3.params.toList ++ (((Rows.OpenSpec.upto Rows.treeQuotasSpec)).bare).plain.varTypes Tryd.prog ++ Tryd.f3.resultTypes.toList).any (Tryd.prog.veiledRec ·))) = true := by kernel_rfl
theorem fact31 : (Rows.treeQuotasUptoRow.veiledFits Tryd.prog Tryd.f3.params.toList (Tryd.f3.params.toList ++ (((Rows.OpenSpec.upto Rows.treeQuotasSpec)).bare).plain.varTypes Tryd.prog ++ Tryd.f3.resultTypes.toList)) = true := by kernel_rfl
theorem band {a b : Bool} (x : a = true) (y : b = true) : (a && b) = true := by rw [x, y]; rfl
theorem facts : joinedFacts Tryd.prog 3 Tryd.f3 ((Rows.OpenSpec.upto Rows.treeQuotasSpec)).bare Rows.treeQuotasUptoRow = true := (band (band (band (band (band (band (band (band (band (band (band (band (band (band (band (band (band (band (band (band (band (band (band (band (band (band (band (band (band (band (band fact0 fact1) fact2) fact3) fact4) fact5) fact6) fact7) fact8) fact9) fact10) fact11) fact12) fact13) fact14) fact15) fact16) fact17) fact18) fact19) fact20) fact21) fact22) fact23) fact24) fact25) fact26) fact27) fact28) fact29) fact30) fact31)
end Go.Proofs.YtgdnfoijhdpppaaDoor.treeQuotas
