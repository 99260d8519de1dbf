/- A sentinel error as a value. -/
import Derived.Test.YtnojejplckhifaaDoorMem
import Derived.Test.YtnojejplckhifaaDoorRows
namespace Go.Proofs.YtnojejplckhifaaDoor
open Go.RowKit
def eV (a : Addr) : Value := .iface 147 (.pointer (some a))
end Go.Proofs.YtnojejplckhifaaDoor
