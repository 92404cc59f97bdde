/-
  needle.Put: the bytes of a needle.
-/
import Derived.Test.YtboadalojimdlaaNdl
import Derived.Deep.RegionHeld3
namespace Go.Proofs.Ytboadalojimdlaa
open Go.RowKit

end Go.Proofs.Ytboadalojimdlaa
