/- Constants that are arrays. -/
import Derived.Test.YtepdfenlkeaefaaEPu
namespace Go.TF
open Go Go.Abs
end Go.TF
