/- Contract: Same (the reference of draw). -/
import Derived.Test.YtjmbdfoegnfpnaaD5
namespace Go.Proofs.Ytjmbdfoegnfpnaa
open Go.RowKit
set_option linter.unusedVariables false
set_option linter.unusedSimpArgs false

theorem take_eq_step {α : Type} {l k : List α} {i : Nat} (hl : i < l.length) (hk : i < k.length) (h : l.take i = k.take i) (e : l[i] = k[i]) : l.take (i + 1) = k.take (i + 1) := by
  rw [List.take_succ_eq_append_getElem hl, List.take_succ_eq_append_getElem hk, h, e]
theorem Dr.eq_iff (a b : Dr) : a = b ↔ a.st = b.st ∧ a.se = b.se ∧ a.sd = b.sd ∧ a.sx = b.sx ∧ a.rv = b.rv := by
  cases a; cases b; simp

end Go.Proofs.Ytjmbdfoegnfpnaa
