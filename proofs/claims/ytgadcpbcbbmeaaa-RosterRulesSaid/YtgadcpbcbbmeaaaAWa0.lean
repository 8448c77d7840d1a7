/- Constants that are arrays. -/
import Derived.Test.YtgadcpbcbbmeaaaAPu
namespace Go.TF
open Go Go.Abs
end Go.TF
