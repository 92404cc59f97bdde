/-
  The walks of pack.Put, size 2 (written by genput.py).
-/
import Derived.Test.YtmmmakfmpopniaaDoorPutLoop
import Derived.Deep.RegionLaw
namespace Go.Proofs.YtmmmakfmpopniaaDoor
open Go.RowKit Go.Shelf

attribute [local go_sem] Oper.semAt_some
attribute [local go_sem ↓] Go.wp_at_zero Go.wp_at_succ app_rule

end Go.Proofs.YtmmmakfmpopniaaDoor
