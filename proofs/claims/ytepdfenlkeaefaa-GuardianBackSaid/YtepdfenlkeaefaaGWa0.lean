/- Constants that are arrays. -/
import Derived.Test.YtepdfenlkeaefaaGPu
namespace Go.TF
open Go Go.Abs
end Go.TF
