/-
  needle.Put: the bytes of a needle.
-/
import Derived.Test.YtmmmakfmpopniaaDoorNdl
import Derived.Deep.RegionHeld3
namespace Go.Proofs.YtmmmakfmpopniaaDoor
open Go.RowKit

end Go.Proofs.YtmmmakfmpopniaaDoor
