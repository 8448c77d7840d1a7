/- Constants that are arrays. -/
import Derived.Test.YtepdfenlkeaefaaFPu
namespace Go.TF
open Go Go.Abs
end Go.TF
