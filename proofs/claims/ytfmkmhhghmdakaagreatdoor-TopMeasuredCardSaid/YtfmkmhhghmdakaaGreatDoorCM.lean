/- The closed facts of landaidtop.TopMeasured's row. -/
import Derived.Test.YtfmkmhhghmdakaaGreatDoorRows
import Derived.Test.YtfmkmhhghmdakaaGreatDoorCards
import Derived.SevenTiedAt
import Derived.JoinedOf
import Derived.KernelRfl
namespace Go.Proofs.YtfmkmhhghmdakaaGreatDoor.topMeasured
open Go
set_option maxRecDepth 100000
theorem k0 : (Rows.topMeasuredRow.wf (OpenSpec.ofChange Rows.topMeasuredSpec)) = true := by kernel_rfl
theorem k1 : (laidOutB Tryz.prog) = true := by kernel_rfl
theorem k2 : (mapsRowed Tryz.prog) = true := by kernel_rfl
theorem k3 : (Tryz.f3.params.all (Tryz.prog.readableRec ·)) = true := by kernel_rfl
theorem k4 : (namedTie Tryz.prog Rows.topMeasuredRow.named Rows.topMeasuredSpec.vars) = true := by kernel_rfl
theorem k5 : ((Rows.topMeasuredRow.stops == [])) = true := by kernel_rfl
theorem k6 : ((Tryz.prog.stops == [])) = true := by kernel_rfl
theorem k7 : ((Rows.topMeasuredRow.knobs == [])) = true := by kernel_rfl
theorem k8 : ((Tryz.prog.stopKnobs == [])) = true := by kernel_rfl
theorem k9 : ((Rows.topMeasuredRow.inPlace == Tryz.prog.inPlace 3)) = true := by kernel_rfl
theorem k10 : ((Rows.topMeasuredRow.unfollowed == Tryz.prog.unfollowed 3)) = true := by kernel_rfl
theorem k11 : ((Rows.topMeasuredRow.recurses == Tryz.prog.recurses 3)) = true := by kernel_rfl
theorem k12 : ((Rows.topMeasuredRow.named == Tryz.prog.varsNamed 3)) = true := by kernel_rfl
theorem k13 : ((Rows.topMeasuredRow.maps == (Tryz.f3.params.toList ++ Rows.topMeasuredSpec.plain.varTypes Tryz.prog).any (Tryz.prog.mapsRec ·))) = true := by kernel_rfl
theorem k14 : ((Rows.topMeasuredRow.ifaces == (Tryz.f3.params.toList ++ Rows.topMeasuredSpec.plain.varTypes Tryz.prog).any (Tryz.prog.ifacesRec ·))) = true := by kernel_rfl
theorem k15 : ((Rows.topMeasuredRow.mapsOut == Tryz.prog.mapsAmong Tryz.f3.resultTypes.toList)) = true := by kernel_rfl
theorem k16 : ((Rows.topMeasuredRow.loops == (Tryz.f3.params.toList ++ Rows.topMeasuredSpec.plain.varTypes Tryz.prog).any (Tryz.prog.loopsFrom ·))) = true := by kernel_rfl
theorem k17 : ((Rows.topMeasuredRow.wideKeys == (Tryz.f3.params.toList ++ Rows.topMeasuredSpec.plain.varTypes Tryz.prog ++ Tryz.f3.resultTypes.toList).any (Tryz.prog.wideKeysFrom ·))) = true := by kernel_rfl
theorem k18 : (Rows.topMeasuredSpec.vars.all (Tryz.prog.varReadable ·)) = true := by kernel_rfl
theorem k19 : (Tryz.f3.resultTypes.all (fun t => Tryz.prog.readableRec t && decide (t < Tryz.prog.types.size))) = true := by kernel_rfl
theorem k20 : ((Rows.topMeasuredRow.ifacesOut == Tryz.f3.resultTypes.toList.any (Tryz.prog.ifacesRec ·))) = true := by kernel_rfl
theorem k21 : ((Rows.topMeasuredRow.loopsOut == Tryz.f3.resultTypes.toList.any (Tryz.prog.loopsFrom ·))) = true := by kernel_rfl
theorem k22 : ((Rows.topMeasuredRow.plainKeys == Tryz.prog.plainKeys)) = true := by kernel_rfl
theorem k23 : (Rows.topMeasuredRow.shortTexts.isNone) = true := by kernel_rfl
theorem k24 : (Tryz.prog.stopsHeard) = true := by kernel_rfl
theorem k25 : (Tryz.prog.mayEnter) = true := by kernel_rfl
theorem k26 : ((Rows.topMeasuredRow.lifted == Tryz.prog.liftsFinal)) = true := by kernel_rfl
theorem k27 : ((Tryz.prog.make == some Rows.topMeasuredRow.make)) = true := by kernel_rfl
theorem k28 : ((Rows.topMeasuredRow.kinds == (if Rows.topMeasuredRow.domain.isEmpty then [] else Tryz.f3.params.toList.map fun t => match Tryz.prog.underlying t with | some (.int k) => some k | _ => none))) = true := by kernel_rfl
theorem k29 : ((Rows.topMeasuredRow.pinned == Rows.topMeasuredRow.pinnedBy)) = true := by kernel_rfl
theorem k30 : ((Rows.topMeasuredRow.veiled == (Tryz.f3.params.toList ++ Rows.topMeasuredSpec.plain.varTypes Tryz.prog ++ Tryz.f3.resultTypes.toList).any (Tryz.prog.veiledRec ·))) = true := by kernel_rfl
theorem k31 : (Rows.topMeasuredRow.veiledFits Tryz.prog Tryz.f3.params.toList (Tryz.f3.params.toList ++ Rows.topMeasuredSpec.plain.varTypes Tryz.prog ++ Tryz.f3.resultTypes.toList)) = true := by kernel_rfl
theorem closed : joinedFacts Tryz.prog 3 Tryz.f3 Rows.topMeasuredSpec Rows.topMeasuredRow = true := by
  unfold joinedFacts
  refine Bool.and_eq_true_iff.2 ⟨?_, k31⟩
  refine Bool.and_eq_true_iff.2 ⟨?_, k30⟩
  refine Bool.and_eq_true_iff.2 ⟨?_, k29⟩
  refine Bool.and_eq_true_iff.2 ⟨?_, k28⟩
  refine Bool.and_eq_true_iff.2 ⟨?_, k27⟩
  refine Bool.and_eq_true_iff.2 ⟨?_, k26⟩
  refine Bool.and_eq_true_iff.2 ⟨?_, k25⟩
  refine Bool.and_eq_true_iff.2 ⟨?_, k24⟩
  refine Bool.and_eq_true_iff.2 ⟨?_, k23⟩
  refine Bool.and_eq_true_iff.2 ⟨?_, k22⟩
  refine Bool.and_eq_true_iff.2 ⟨?_, k21⟩
  refine Bool.and_eq_true_iff.2 ⟨?_, k20⟩
  refine Bool.and_eq_true_iff.2 ⟨?_, k19⟩
  refine Bool.and_eq_true_iff.2 ⟨?_, k18⟩
  refine Bool.and_eq_true_iff.2 ⟨?_, k17⟩
  refine Bool.and_eq_true_iff.2 ⟨?_, k16⟩
  refine Bool.and_eq_true_iff.2 ⟨?_, k15⟩
  refine Bool.and_eq_true_iff.2 ⟨?_, k14⟩
  refine Bool.and_eq_true_iff.2 ⟨?_, k13⟩
  refine Bool.and_eq_true_iff.2 ⟨?_, k12⟩
  refine Bool.and_eq_true_iff.2 ⟨?_, k11⟩
  refine Bool.and_eq_true_iff.2 ⟨?_, k10⟩
  refine Bool.and_eq_true_iff.2 ⟨?_, k9⟩
  refine Bool.and_eq_true_iff.2 ⟨?_, k8⟩
  refine Bool.and_eq_true_iff.2 ⟨?_, k7⟩
  refine Bool.and_eq_true_iff.2 ⟨?_, k6⟩
  refine Bool.and_eq_true_iff.2 ⟨?_, k5⟩
  refine Bool.and_eq_true_iff.2 ⟨?_, k4⟩
  refine Bool.and_eq_true_iff.2 ⟨?_, k3⟩
  refine Bool.and_eq_true_iff.2 ⟨?_, k2⟩
  refine Bool.and_eq_true_iff.2 ⟨?_, k1⟩
  exact k0
theorem instF : Tryz.f3.isInstance Tryz.pinned.checked.prog Rows.topMeasuredRow.origin Rows.topMeasuredRow.targs := of_decide_eq_true (by kernel_rfl)
theorem wrapF : Tryz.f3.isWrapper Tryz.pinned.checked.prog Rows.topMeasuredRow.wrapper Rows.topMeasuredRow.mainSum := by unfold Func.isWrapper; first | (rw [if_pos (by decide +kernel)]; kernel_rfl) | (rw [if_neg (by decide +kernel)]; exact ⟨rfl, rfl⟩)
theorem nameF : Tryz.pinned.checked.prog.funcNamed Rows.topMeasuredRow.func = some 3 := by kernel_rfl
end Go.Proofs.YtfmkmhhghmdakaaGreatDoor.topMeasured
