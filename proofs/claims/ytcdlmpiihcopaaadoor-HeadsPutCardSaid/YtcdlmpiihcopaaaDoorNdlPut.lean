/-
  needle.Put: the bytes of a needle.
-/
import Derived.Test.YtcdlmpiihcopaaaDoorNdl
import Derived.Deep.RegionHeld3
namespace Go.Proofs.YtcdlmpiihcopaaaDoor
open Go.RowKit

end Go.Proofs.YtcdlmpiihcopaaaDoor
