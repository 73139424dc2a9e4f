/- Contract: Seed (draw). -/
import Derived.Test.YtjmbdfoegnfpnaaDV
import Derived.Test.YtjmbdfoegnfpnaaD9
namespace Go.Proofs.Ytjmbdfoegnfpnaa
open Go.RowKit
set_option linter.unusedVariables false
set_option linter.unusedSimpArgs false

/-- Who has not revealed, of the first. -/
def silentP (rv : List Bool) (k : Nat) : List Int := ((List.range k).filter fun i => !rv.getD i true).map Int.ofNat
def seedP (d : Dr) : Int × List Int × Int := if usableD d 3 = 0 then (mixI (d.sx.foldl x64 0), silentP d.rv d.sx.length, 0) else (0, [], usableD d 3)
theorem silent_succ (rv : List Bool) (k : Nat) (h : k < rv.length) : silentP rv (k + 1) = if rv[k] then silentP rv k else silentP rv k ++ [(k : Int)] := by
  unfold silentP
  rw [List.range_succ, List.filter_append, List.map_append]
  have e : rv.getD k true = rv[k] := by simp [List.getD_eq_getElem?_getD, h]
  rw [List.filter_cons, e, List.filter_nil]
  cases hk : rv[k]
  · rfl
  · simp
theorem silent_len (rv : List Bool) (k : Nat) : (silentP rv k).length ≤ k := by
  unfold silentP
  rw [List.length_map]
  exact Nat.le_trans (List.length_filter_le _ _) (by simp)
theorem fold_succ (l : List Int) (k : Nat) (h : k < l.length) : (l.take (k + 1)).foldl x64 0 = x64 ((l.take k).foldl x64 0) l[k] := by
  rw [List.take_succ_eq_append_getElem h, List.foldl_append]; rfl
def SeedPost (w : World) (x : Int × List Int × Int) (e : Ending) (w' : World) : Prop :=
  ∃ v, e = .returned (.tuple #[.int .u64 x.1, v, .int .i64 x.2.2]) ∧ w'.ownsRow w.heap.size 3 1 v x.2.1.length (x.2.1.map (.int .i64)) ∧ Below w.heap.size w w'

end Go.Proofs.Ytjmbdfoegnfpnaa
