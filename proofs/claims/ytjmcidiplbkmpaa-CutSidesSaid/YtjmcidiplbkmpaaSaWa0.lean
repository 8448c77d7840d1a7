/- Constants that are arrays. -/
import Derived.Test.YtjmcidiplbkmpaaSaPu
namespace Go.TF
open Go Go.Abs
end Go.TF
