/- Shards: entries, lists, the search. -/
import Derived.Test.YtijajfldpaadnaaSp
namespace Go.Proofs.Ytijajfldpaadnaa.Ab
set_option linter.unusedVariables false
set_option linter.unusedSimpArgs false
open Go.RowKit

def fnV (f : Nat) : AV := .c (.i (.sc (.func (.func f) #[] #[])))
end Go.Proofs.Ytijajfldpaadnaa.Ab
