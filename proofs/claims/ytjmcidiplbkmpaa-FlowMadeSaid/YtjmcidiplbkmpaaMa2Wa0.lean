/- Constants that are arrays. -/
import Derived.Test.YtjmcidiplbkmpaaMa2Pu
namespace Go.TF
open Go Go.Abs
end Go.TF
