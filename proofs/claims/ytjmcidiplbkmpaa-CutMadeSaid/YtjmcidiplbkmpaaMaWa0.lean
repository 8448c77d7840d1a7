/- Constants that are arrays. -/
import Derived.Test.YtjmcidiplbkmpaaMaPu
namespace Go.TF
open Go Go.Abs
end Go.TF
