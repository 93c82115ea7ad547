/- The premise on the library's table, and that it outlives a call. -/
import Derived.Test.YtpclhceafigibaaDoorPVarsx0
import Derived.Test.YtpclhceafigibaaDoorShelf
import Derived.Lib.AppendIntMem
namespace Go.Proofs.YtpclhceafigibaaDoor.PVars
open Go.RowKit
/-- The table of powers of ten lies as its initialiser laid it. -/
structure GWorld (w : World) : Prop where tab : Lib.TabIs Tryd.prog w "internal/strconv.uint64pow10" .u64 Lib.pow10Tab
theorem GWorld.below {w w' : World} (h : GWorld w) (hb : Below w.heap.size w w') : GWorld w' := ⟨Lib.tabBelow_of_tabIs h.tab w' hb⟩
end Go.Proofs.YtpclhceafigibaaDoor.PVars
