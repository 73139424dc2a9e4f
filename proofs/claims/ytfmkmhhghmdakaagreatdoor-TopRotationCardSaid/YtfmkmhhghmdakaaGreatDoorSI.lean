import Derived.Test.YtfmkmhhghmdakaaGreatDoorRows
import Derived.Test.YtfmkmhhghmdakaaGreatDoorCards
import Derived.SevenTiedAt
import Derived.JoinedOf
import Derived.KernelRfl
namespace Go.Proofs.YtfmkmhhghmdakaaGreatDoor.topRotation
open Go
set_option maxRecDepth 100000
theorem k0 : (Rows.topRotationRow.wf (OpenSpec.ofChange Rows.topRotationSpec)) = true := by kernel_rfl
theorem k1 : (laidOutB Tryz.prog) = true := by kernel_rfl
theorem k2 : (mapsRowed Tryz.prog) = true := by kernel_rfl
theorem k3 : (Tryz.f6.params.all (Tryz.prog.readableRec ·)) = true := by kernel_rfl
theorem k4 : (namedTie Tryz.prog Rows.topRotationRow.named Rows.topRotationSpec.vars) = true := by kernel_rfl
theorem k5 : ((Rows.topRotationRow.stops == [])) = true := by kernel_rfl
theorem k6 : ((Tryz.prog.stops == [])) = true := by kernel_rfl
theorem k7 : ((Rows.topRotationRow.knobs == [])) = true := by kernel_rfl
theorem k8 : ((Tryz.prog.stopKnobs == [])) = true := by kernel_rfl
theorem k9 : ((Rows.topRotationRow.inPlace == Tryz.prog.inPlace 6)) = true := by kernel_rfl
theorem k10 : ((Rows.topRotationRow.unfollowed == Tryz.prog.unfollowed 6)) = true := by kernel_rfl
theorem k11 : ((Rows.topRotationRow.recurses == Tryz.prog.recurses 6)) = true := by kernel_rfl
theorem k12 : ((Rows.topRotationRow.named == Tryz.prog.varsNamed 6)) = true := by kernel_rfl
theorem k13 : ((Rows.topRotationRow.maps == (Tryz.f6.params.toList ++ Rows.topRotationSpec.plain.varTypes Tryz.prog).any (Tryz.prog.mapsRec ·))) = true := by kernel_rfl
theorem k14 : ((Rows.topRotationRow.ifaces == (Tryz.f6.params.toList ++ Rows.topRotationSpec.plain.varTypes Tryz.prog).any (Tryz.prog.ifacesRec ·))) = true := by kernel_rfl
theorem k15 : ((Rows.topRotationRow.mapsOut == Tryz.prog.mapsAmong Tryz.f6.resultTypes.toList)) = true := by kernel_rfl
theorem k16 : ((Rows.topRotationRow.loops == (Tryz.f6.params.toList ++ Rows.topRotationSpec.plain.varTypes Tryz.prog).any (Tryz.prog.loopsFrom ·))) = true := by kernel_rfl
theorem k17 : ((Rows.topRotationRow.wideKeys == (Tryz.f6.params.toList ++ Rows.topRotationSpec.plain.varTypes Tryz.prog ++ Tryz.f6.resultTypes.toList).any (Tryz.prog.wideKeysFrom ·))) = true := by kernel_rfl
theorem k18 : (Rows.topRotationSpec.vars.all (Tryz.prog.varReadable ·)) = true := by kernel_rfl
theorem k19 : (Tryz.f6.resultTypes.all (fun t => Tryz.prog.readableRec t && decide (t < Tryz.prog.types.size))) = true := by kernel_rfl
theorem k20 : ((Rows.topRotationRow.ifacesOut == Tryz.f6.resultTypes.toList.any (Tryz.prog.ifacesRec ·))) = true := by kernel_rfl
theorem k21 : ((Rows.topRotationRow.loopsOut == Tryz.f6.resultTypes.toList.any (Tryz.prog.loopsFrom ·))) = true := by kernel_rfl
theorem k22 : ((Rows.topRotationRow.plainKeys == Tryz.prog.plainKeys)) = true := by kernel_rfl
theorem k23 : (Rows.topRotationRow.shortTexts.isNone) = true := by kernel_rfl
theorem k24 : (Tryz.prog.stopsHeard) = true := by kernel_rfl
theorem k25 : (Tryz.prog.mayEnter) = true := by kernel_rfl
theorem k26 : ((Rows.topRotationRow.lifted == Tryz.prog.liftsFinal)) = true := by kernel_rfl
theorem k27 : ((Tryz.prog.make == some Rows.topRotationRow.make)) = true := by kernel_rfl
theorem k28 : ((Rows.topRotationRow.kinds == (if Rows.topRotationRow.domain.isEmpty then [] else Tryz.f6.params.toList.map fun t => match Tryz.prog.underlying t with | some (.int k) => some k | _ => none))) = true := by kernel_rfl
theorem k29 : ((Rows.topRotationRow.pinned == Rows.topRotationRow.pinnedBy)) = true := by kernel_rfl
theorem k30 : ((Rows.topRotationRow.veiled == (Tryz.f6.params.toList ++ Rows.topRotationSpec.plain.varTypes Tryz.prog ++ Tryz.f6.resultTypes.toList).any (Tryz.prog.veiledRec ·))) = true := by kernel_rfl
theorem k31 : (Rows.topRotationRow.veiledFits Tryz.prog Tryz.f6.params.toList (Tryz.f6.params.toList ++ Rows.topRotationSpec.plain.varTypes Tryz.prog ++ Tryz.f6.resultTypes.toList)) = true := by kernel_rfl
theorem closed : joinedFacts Tryz.prog 6 Tryz.f6 Rows.topRotationSpec Rows.topRotationRow = true := by
  unfold joinedFacts
  refine Bool.and_eq_true_iff.2 ⟨?_, k31⟩
  refine Bool.and_eq_true_iff.2 ⟨?_, k30⟩
  refine Bool.and_eq_true_iff.2 ⟨?_, k29⟩
  refine Bool.and_eq_true_iff.2 ⟨?_, k28⟩
  refine Bool.and_eq_true_iff.2 ⟨?_, k27⟩
  refine Bool.and_eq_true_iff.2 ⟨?_, k26⟩
  refine Bool.and_eq_true_iff.2 ⟨?_, k25⟩
  refine Bool.and_eq_true_iff.2 ⟨?_, k24⟩
  refine Bool.and_eq_true_iff.2 ⟨?_, k23⟩
  refine Bool.and_eq_true_iff.2 ⟨?_, k22⟩
  refine Bool.and_eq_true_iff.2 ⟨?_, k21⟩
  refine Bool.and_eq_true_iff.2 ⟨?_, k20⟩
  refine Bool.and_eq_true_iff.2 ⟨?_, k19⟩
  refine Bool.and_eq_true_iff.2 ⟨?_, k18⟩
  refine Bool.and_eq_true_iff.2 ⟨?_, k17⟩
  refine Bool.and_eq_true_iff.2 ⟨?_, k16⟩
  refine Bool.and_eq_true_iff.2 ⟨?_, k15⟩
  refine Bool.and_eq_true_iff.2 ⟨?_, k14⟩
  refine Bool.and_eq_true_iff.2 ⟨?_, k13⟩
  refine Bool.and_eq_true_iff.2 ⟨?_, k12⟩
  refine Bool.and_eq_true_iff.2 ⟨?_, k11⟩
  refine Bool.and_eq_true_iff.2 ⟨?_, k10⟩
  refine Bool.and_eq_true_iff.2 ⟨?_, k9⟩
  refine Bool.and_eq_true_iff.2 ⟨?_, k8⟩
  refine Bool.and_eq_true_iff.2 ⟨?_, k7⟩
  refine Bool.and_eq_true_iff.2 ⟨?_, k6⟩
  refine Bool.and_eq_true_iff.2 ⟨?_, k5⟩
  refine Bool.and_eq_true_iff.2 ⟨?_, k4⟩
  refine Bool.and_eq_true_iff.2 ⟨?_, k3⟩
  refine Bool.and_eq_true_iff.2 ⟨?_, k2⟩
  refine Bool.and_eq_true_iff.2 ⟨?_, k1⟩
  exact k0
theorem instF : Tryz.f6.isInstance Tryz.pinned.checked.prog Rows.topRotationRow.origin Rows.topRotationRow.targs := of_decide_eq_true (by kernel_rfl)
theorem wrapF : Tryz.f6.isWrapper Tryz.pinned.checked.prog Rows.topRotationRow.wrapper Rows.topRotationRow.mainSum := by unfold Func.isWrapper; first | (rw [if_pos (by decide +kernel)]; kernel_rfl) | (rw [if_neg (by decide +kernel)]; exact ⟨rfl, rfl⟩)
theorem nameF : Tryz.pinned.checked.prog.funcNamed Rows.topRotationRow.func = some 6 := by kernel_rfl
theorem wfF : Rows.topRotationRow.wfByText (OpenSpec.ofChange Rows.topRotationSpec) = true := by kernel_rfl
theorem mainF : Tryz.pinned.checked.prog.mainIs = some (Rows.topRotationCard.stood.harness.1, Rows.topRotationCard.stood.harness.2.toList) := by kernel_rfl
theorem looksF : false = Tryz.pinned.checked.prog.looks [] := by kernel_rfl
theorem goesF : false = Rows.topRotationRow.goesBy Tryz.pinned.checked.prog := by kernel_rfl
theorem standF : ([22, 5].all fun u => !Tryz.prog.wantsStandIn u) = true := by kernel_rfl
end Go.Proofs.YtfmkmhhghmdakaaGreatDoor.topRotation
