/-
  The contract of pack.Put: at each size; a size that is none; a number that is too long.
-/
import Derived.Test.YtboadalojimdlaaPutWalk1
import Derived.Test.YtboadalojimdlaaPutWalk2
import Derived.Test.YtboadalojimdlaaPutWalk4
import Derived.Test.YtboadalojimdlaaPutWalk8
namespace Go.Proofs.Ytboadalojimdlaa
open Go.RowKit Go.Shelf

end Go.Proofs.Ytboadalojimdlaa
