/- TopRotation: the tied card: what the listed variables hold is what the program's text lays (the tie is given). -/
import Derived.Test.YtfmkmhhghmdakaaGreatDoorLawRotp
import Derived.Test.YtfmkmhhghmdakaaGreatDoorRO
import Derived.Test.YtfmkmhhghmdakaaGreatDoorTie
import Derived.Test.YtfmkmhhghmdakaaGreatDoorCards
import Derived.SevenTiedAt
namespace Go.Proofs.YtfmkmhhghmdakaaGreatDoor.topRotation
open Go
set_option maxRecDepth 100000
/-- The statement. -/
theorem proved : Rows.TopRotationCardSaid :=
  Claim7.holds_tied_plain_at .later [] [.data, .pinned] true Rows.topRotationCard.stood.harness false over (fun _ h => by cases h) wfF (fun _ h => by cases h) topRotation_row_tie rfl ⟨rfl, rfl⟩ mainF rfl
    (fun f fn hf hfn => by
      obtain rfl : f = 6 := (Option.some.inj (nameF.symm.trans hf)).symm
      obtain rfl : fn = Tryz.f6 := (Option.some.inj (Tryz.func6.symm.trans hfn)).symm
      exact ⟨looksF, fun j t ht => by
        rw [Tryz.params6] at ht
        have hm : t ∈ [22, 5] := by simpa using Array.mem_of_getElem? ht
        exact (show Tryz.prog.wantsStandIn t = false by simpa using List.all_eq_true.1 standF t hm)⟩)
    goesF
#print axioms proved
end Go.Proofs.YtfmkmhhghmdakaaGreatDoor.topRotation
