/- Whether all nodes are as the table says (all), the document's Valid and Open. -/
import Derived.Test.YtokmaehefenpmaaDoorPC8
import Derived.Test.YtokmaehefenpmaaDoorPC1
namespace Go.Proofs.YtokmaehefenpmaaDoor
open Go.RowKit Go.Proofs.YtokmaehefenpmaaDoor.Nm
set_option linter.unusedSimpArgs false
def validB (v : Bool) (t : Ty) : Bool := decide (t.nodes ≤ 40) && t.all (nodeB v)
end Go.Proofs.YtokmaehefenpmaaDoor
