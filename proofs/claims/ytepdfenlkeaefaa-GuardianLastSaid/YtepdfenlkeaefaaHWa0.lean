/- Constants that are arrays. -/
import Derived.Test.YtepdfenlkeaefaaHPu
namespace Go.TF
open Go Go.Abs
end Go.TF
