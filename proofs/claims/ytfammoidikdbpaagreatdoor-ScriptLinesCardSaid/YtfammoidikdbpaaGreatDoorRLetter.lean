/- Contract of aquref1.letter. No statement of the seat is proved here. -/
import Derived.Test.YtfammoidikdbpaaGreatDoorRLetter1
import Derived.Test.YtfammoidikdbpaaGreatDoorRLetter2
set_option linter.unusedVariables false
namespace Go.Proofs.YtfammoidikdbpaaGreatDoor
open Go.RowKit Go.Aq Go.Aq.Wd
end Go.Proofs.YtfammoidikdbpaaGreatDoor
