/-
  The contract of pack.Put: at each size; a size that is none; a number that is too long.
-/
import Derived.Test.YtmmmakfmpopniaaPutWalk1
import Derived.Test.YtmmmakfmpopniaaPutWalk2
import Derived.Test.YtmmmakfmpopniaaPutWalk4
import Derived.Test.YtmmmakfmpopniaaPutWalk8
namespace Go.Proofs.Ytmmmakfmpopniaa
open Go.RowKit Go.Shelf

end Go.Proofs.Ytmmmakfmpopniaa
