/- Constants that are arrays. -/
import Derived.Test.YtjmcidiplbkmpaaFaPu
namespace Go.TF
open Go Go.Abs
end Go.TF
