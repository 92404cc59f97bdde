/-
  needle.Put: the bytes of a needle.
-/
import Derived.Test.YtmmmakfmpopniaaNdl
import Derived.Deep.RegionHeld3
namespace Go.Proofs.Ytmmmakfmpopniaa
open Go.RowKit

end Go.Proofs.Ytmmmakfmpopniaa
