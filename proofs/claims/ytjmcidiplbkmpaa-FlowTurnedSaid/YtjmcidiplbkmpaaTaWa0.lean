/- Constants that are arrays. -/
import Derived.Test.YtjmcidiplbkmpaaTaPu
namespace Go.TF
open Go Go.Abs
end Go.TF
