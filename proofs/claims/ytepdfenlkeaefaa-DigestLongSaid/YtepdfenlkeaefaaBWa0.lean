/- Constants that are arrays. -/
import Derived.Test.YtepdfenlkeaefaaBPu
namespace Go.TF
open Go Go.Abs
end Go.TF
