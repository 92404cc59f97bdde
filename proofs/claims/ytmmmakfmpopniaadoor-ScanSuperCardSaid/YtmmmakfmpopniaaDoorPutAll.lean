/-
  The contract of pack.Put: at each size; a size that is none; a number that is too long.
-/
import Derived.Test.YtmmmakfmpopniaaDoorPutWalk1
import Derived.Test.YtmmmakfmpopniaaDoorPutWalk2
import Derived.Test.YtmmmakfmpopniaaDoorPutWalk4
import Derived.Test.YtmmmakfmpopniaaDoorPutWalk8
namespace Go.Proofs.YtmmmakfmpopniaaDoor
open Go.RowKit Go.Shelf

end Go.Proofs.YtmmmakfmpopniaaDoor
