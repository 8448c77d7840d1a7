/- Constants that are arrays. -/
import Derived.Test.YtjmcidiplbkmpaaRa2Pu
namespace Go.TF
open Go Go.Abs
end Go.TF
