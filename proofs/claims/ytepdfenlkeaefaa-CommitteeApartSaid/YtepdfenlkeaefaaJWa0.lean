/- Constants that are arrays. -/
import Derived.Test.YtepdfenlkeaefaaJPu
namespace Go.TF
open Go Go.Abs
end Go.TF
