/- Constants that are arrays. -/
import Derived.Test.YtjmcidiplbkmpaaRaPu
namespace Go.TF
open Go Go.Abs
end Go.TF
