/- Contracts: usable, clone (draw). -/
import Derived.Test.YtjmbdfoegnfpnaaD2
namespace Go.Proofs.Ytjmbdfoegnfpnaa
open Go.RowKit
set_option linter.unusedVariables false
set_option linter.unusedSimpArgs false

def usableD (d : Dr) (s : Int) : Int := if checkD d = 0 then (if d.st = s then 0 else 61) else checkD d
end Go.Proofs.Ytjmbdfoegnfpnaa
