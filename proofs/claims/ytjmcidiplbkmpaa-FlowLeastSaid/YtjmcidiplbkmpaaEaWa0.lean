/- Constants that are arrays. -/
import Derived.Test.YtjmcidiplbkmpaaEaPu
namespace Go.TF
open Go Go.Abs
end Go.TF
