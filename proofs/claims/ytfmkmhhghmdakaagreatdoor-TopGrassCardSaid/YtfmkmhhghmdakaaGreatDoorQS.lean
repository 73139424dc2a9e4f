/- The closed facts of landaidtop.TopGrass's row. -/
import Derived.Test.YtfmkmhhghmdakaaGreatDoorRows
import Derived.Test.YtfmkmhhghmdakaaGreatDoorCards
import Derived.SevenTiedAt
import Derived.JoinedOf
import Derived.KernelRfl
namespace Go.Proofs.YtfmkmhhghmdakaaGreatDoor.topGrass
open Go
set_option maxRecDepth 100000
theorem k0 : (Rows.topGrassRow.wf (OpenSpec.ofChange Rows.topGrassSpec)) = true := by kernel_rfl
theorem k1 : (laidOutB Tryz.prog) = true := by kernel_rfl
theorem k2 : (mapsRowed Tryz.prog) = true := by kernel_rfl
theorem k3 : (Tryz.f5.params.all (Tryz.prog.readableRec ·)) = true := by kernel_rfl
theorem k4 : (namedTie Tryz.prog Rows.topGrassRow.named Rows.topGrassSpec.vars) = true := by kernel_rfl
theorem k5 : ((Rows.topGrassRow.stops == [])) = true := by kernel_rfl
theorem k6 : ((Tryz.prog.stops == [])) = true := by kernel_rfl
theorem k7 : ((Rows.topGrassRow.knobs == [])) = true := by kernel_rfl
theorem k8 : ((Tryz.prog.stopKnobs == [])) = true := by kernel_rfl
theorem k9 : ((Rows.topGrassRow.inPlace == Tryz.prog.inPlace 5)) = true := by kernel_rfl
theorem k10 : ((Rows.topGrassRow.unfollowed == Tryz.prog.unfollowed 5)) = true := by kernel_rfl
theorem k11 : ((Rows.topGrassRow.recurses == Tryz.prog.recurses 5)) = true := by kernel_rfl
theorem k12 : ((Rows.topGrassRow.named == Tryz.prog.varsNamed 5)) = true := by kernel_rfl
theorem k13 : ((Rows.topGrassRow.maps == (Tryz.f5.params.toList ++ Rows.topGrassSpec.plain.varTypes Tryz.prog).any (Tryz.prog.mapsRec ·))) = true := by kernel_rfl
theorem k14 : ((Rows.topGrassRow.ifaces == (Tryz.f5.params.toList ++ Rows.topGrassSpec.plain.varTypes Tryz.prog).any (Tryz.prog.ifacesRec ·))) = true := by kernel_rfl
theorem k15 : ((Rows.topGrassRow.mapsOut == Tryz.prog.mapsAmong Tryz.f5.resultTypes.toList)) = true := by kernel_rfl
theorem k16 : ((Rows.topGrassRow.loops == (Tryz.f5.params.toList ++ Rows.topGrassSpec.plain.varTypes Tryz.prog).any (Tryz.prog.loopsFrom ·))) = true := by kernel_rfl
theorem k17 : ((Rows.topGrassRow.wideKeys == (Tryz.f5.params.toList ++ Rows.topGrassSpec.plain.varTypes Tryz.prog ++ Tryz.f5.resultTypes.toList).any (Tryz.prog.wideKeysFrom ·))) = true := by kernel_rfl
theorem k18 : (Rows.topGrassSpec.vars.all (Tryz.prog.varReadable ·)) = true := by kernel_rfl
theorem k19 : (Tryz.f5.resultTypes.all (fun t => Tryz.prog.readableRec t && decide (t < Tryz.prog.types.size))) = true := by kernel_rfl
theorem k20 : ((Rows.topGrassRow.ifacesOut == Tryz.f5.resultTypes.toList.any (Tryz.prog.ifacesRec ·))) = true := by kernel_rfl
theorem k21 : ((Rows.topGrassRow.loopsOut == Tryz.f5.resultTypes.toList.any (Tryz.prog.loopsFrom ·))) = true := by kernel_rfl
theorem k22 : ((Rows.topGrassRow.plainKeys == Tryz.prog.plainKeys)) = true := by kernel_rfl
theorem k23 : (Rows.topGrassRow.shortTexts.isNone) = true := by kernel_rfl
theorem k24 : (Tryz.prog.stopsHeard) = true := by kernel_rfl
theorem k25 : (Tryz.prog.mayEnter) = true := by kernel_rfl
theorem k26 : ((Rows.topGrassRow.lifted == Tryz.prog.liftsFinal)) = true := by kernel_rfl
theorem k27 : ((Tryz.prog.make == some Rows.topGrassRow.make)) = true := by kernel_rfl
theorem k28 : ((Rows.topGrassRow.kinds == (if Rows.topGrassRow.domain.isEmpty then [] else Tryz.f5.params.toList.map fun t => match Tryz.prog.underlying t with | some (.int k) => some k | _ => none))) = true := by kernel_rfl
theorem k29 : ((Rows.topGrassRow.pinned == Rows.topGrassRow.pinnedBy)) = true := by kernel_rfl
theorem k30 : ((Rows.topGrassRow.veiled == (Tryz.f5.params.toList ++ Rows.topGrassSpec.plain.varTypes Tryz.prog ++ Tryz.f5.resultTypes.toList).any (Tryz.prog.veiledRec ·))) = true := by kernel_rfl
theorem k31 : (Rows.topGrassRow.veiledFits Tryz.prog Tryz.f5.params.toList (Tryz.f5.params.toList ++ Rows.topGrassSpec.plain.varTypes Tryz.prog ++ Tryz.f5.resultTypes.toList)) = true := by kernel_rfl
theorem closed : joinedFacts Tryz.prog 5 Tryz.f5 Rows.topGrassSpec Rows.topGrassRow = true := by
  unfold joinedFacts
  refine Bool.and_eq_true_iff.2 ⟨?_, k31⟩
  refine Bool.and_eq_true_iff.2 ⟨?_, k30⟩
  refine Bool.and_eq_true_iff.2 ⟨?_, k29⟩
  refine Bool.and_eq_true_iff.2 ⟨?_, k28⟩
  refine Bool.and_eq_true_iff.2 ⟨?_, k27⟩
  refine Bool.and_eq_true_iff.2 ⟨?_, k26⟩
  refine Bool.and_eq_true_iff.2 ⟨?_, k25⟩
  refine Bool.and_eq_true_iff.2 ⟨?_, k24⟩
  refine Bool.and_eq_true_iff.2 ⟨?_, k23⟩
  refine Bool.and_eq_true_iff.2 ⟨?_, k22⟩
  refine Bool.and_eq_true_iff.2 ⟨?_, k21⟩
  refine Bool.and_eq_true_iff.2 ⟨?_, k20⟩
  refine Bool.and_eq_true_iff.2 ⟨?_, k19⟩
  refine Bool.and_eq_true_iff.2 ⟨?_, k18⟩
  refine Bool.and_eq_true_iff.2 ⟨?_, k17⟩
  refine Bool.and_eq_true_iff.2 ⟨?_, k16⟩
  refine Bool.and_eq_true_iff.2 ⟨?_, k15⟩
  refine Bool.and_eq_true_iff.2 ⟨?_, k14⟩
  refine Bool.and_eq_true_iff.2 ⟨?_, k13⟩
  refine Bool.and_eq_true_iff.2 ⟨?_, k12⟩
  refine Bool.and_eq_true_iff.2 ⟨?_, k11⟩
  refine Bool.and_eq_true_iff.2 ⟨?_, k10⟩
  refine Bool.and_eq_true_iff.2 ⟨?_, k9⟩
  refine Bool.and_eq_true_iff.2 ⟨?_, k8⟩
  refine Bool.and_eq_true_iff.2 ⟨?_, k7⟩
  refine Bool.and_eq_true_iff.2 ⟨?_, k6⟩
  refine Bool.and_eq_true_iff.2 ⟨?_, k5⟩
  refine Bool.and_eq_true_iff.2 ⟨?_, k4⟩
  refine Bool.and_eq_true_iff.2 ⟨?_, k3⟩
  refine Bool.and_eq_true_iff.2 ⟨?_, k2⟩
  refine Bool.and_eq_true_iff.2 ⟨?_, k1⟩
  exact k0
theorem instF : Tryz.f5.isInstance Tryz.pinned.checked.prog Rows.topGrassRow.origin Rows.topGrassRow.targs := of_decide_eq_true (by kernel_rfl)
theorem wrapF : Tryz.f5.isWrapper Tryz.pinned.checked.prog Rows.topGrassRow.wrapper Rows.topGrassRow.mainSum := by unfold Func.isWrapper; first | (rw [if_pos (by decide +kernel)]; kernel_rfl) | (rw [if_neg (by decide +kernel)]; exact ⟨rfl, rfl⟩)
theorem nameF : Tryz.pinned.checked.prog.funcNamed Rows.topGrassRow.func = some 5 := by kernel_rfl
theorem wfF : Rows.topGrassRow.wfByText (OpenSpec.ofChange Rows.topGrassSpec) = true := by kernel_rfl
theorem mainF : Tryz.pinned.checked.prog.mainIs = some (Rows.topGrassCard.stood.harness.1, Rows.topGrassCard.stood.harness.2.toList) := by kernel_rfl
theorem looksF : false = Tryz.pinned.checked.prog.looks [] := by kernel_rfl
theorem goesF : false = Rows.topGrassRow.goesBy Tryz.pinned.checked.prog := by kernel_rfl
theorem standF : ([22, 5].all fun u => !Tryz.prog.wantsStandIn u) = true := by kernel_rfl
end Go.Proofs.YtfmkmhhghmdakaaGreatDoor.topGrass
