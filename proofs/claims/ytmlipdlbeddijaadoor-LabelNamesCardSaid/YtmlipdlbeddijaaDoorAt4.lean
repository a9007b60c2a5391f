/-
  WHAT IS KNOWN, as a call; small things.
-/
import Derived.Test.YtmlipdlbeddijaaDoorAt3
import Derived.Test.YtmlipdlbeddijaaDoorAtL
set_option linter.unusedVariables false
set_option linter.unusedSimpArgs false
set_option maxRecDepth 100000
namespace Go.Aa.T
open Go.Aa Go.Proofs
theorem known' : lim cfg (.fn 13) [] Heap.nil = some (.ret (.bool true), (Classical.choose known_ret13)) := Classical.choose_spec known_ret13
theorem known4' : lim cfg (.fn 38) [] Heap.nil = some (.ret (.bool true), (Classical.choose known_ret38)) := Classical.choose_spec known_ret38
end Go.Aa.T
