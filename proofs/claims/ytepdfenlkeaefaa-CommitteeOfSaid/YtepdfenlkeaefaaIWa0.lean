/- Constants that are arrays. -/
import Derived.Test.YtepdfenlkeaefaaIPu
namespace Go.TF
open Go Go.Abs
end Go.TF
