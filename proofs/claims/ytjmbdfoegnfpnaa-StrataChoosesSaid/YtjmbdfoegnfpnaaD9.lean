/- Contracts: next, Close, Finish (draw). -/
import Derived.Test.YtjmbdfoegnfpnaaD7
import Derived.Test.YtjmbdfoegnfpnaaD8
namespace Go.Proofs.Ytjmbdfoegnfpnaa
open Go.RowKit
set_option linter.unusedVariables false
set_option linter.unusedSimpArgs false

/-- A draw in the state behind one, and the error. -/
def nextD (d : Dr) (s : Int) : Dr × Int := if usableD d s = 0 then ({ d with st := d.st + 1 }, 0) else (d, usableD d s)
/-- Whether a party may not hand in. -/
def noSeal (d : Dr) (k : Int) : Bool := decide (k < 0) || decide ((d.sd.length : Int) ≤ k) || d.sd.getD k.toNat true
def commitD (d : Dr) (k s : Int) : Dr × Int := if usableD d 1 = 0 then (if noSeal d k then (d, 63) else ({ d with se := d.se.set k.toNat s, sd := d.sd.set k.toNat true }, 0)) else (d, usableD d 1)
def noShow (d : Dr) (k : Int) : Bool := decide (k < 0) || decide ((d.sd.length : Int) ≤ k) || !d.sd.getD k.toNat false || d.rv.getD k.toNat true
def revealD (d : Dr) (k a b : Int) : Dr × Int := if usableD d 2 = 0 then (if noShow d k then (d, 63) else if sealI k a b = d.se.getD k.toNat 0 then ({ d with sx := d.sx.set k.toNat a, rv := d.rv.set k.toNat true }, 0) else (d, 62)) else (d, usableD d 2)
theorem usable_lens {d : Dr} {s : Int} (h : usableD d s = 0) : d.st = s ∧ 1 ≤ d.se.length ∧ d.sd.length = d.se.length ∧ d.sx.length = d.se.length ∧ d.rv.length = d.se.length ∧ 1 ≤ d.st ∧ d.st ≤ 3 := by
  unfold usableD at h
  by_cases hc : checkD d = 0
  · rw [if_pos hc] at h
    have hs : d.st = s := by
      by_cases hs : d.st = s
      · exact hs
      · rw [if_neg hs] at h; cases h
    unfold checkD at hc
    split at hc
    · rename_i hf
      simp [formD] at hf
      exact ⟨hs, by omega, by omega, by omega, by omega, by omega, by omega⟩
    · cases hc
  · rw [if_neg hc] at h
    exact absurd h hc

end Go.Proofs.Ytjmbdfoegnfpnaa
