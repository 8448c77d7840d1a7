/- Constants that are arrays. -/
import Derived.Test.YtjmcidiplbkmpaaNaPu
namespace Go.TF
open Go Go.Abs
end Go.TF
