/- Constants that are arrays. -/
import Derived.Test.YtepdfenlkeaefaaDPu
namespace Go.TF
open Go Go.Abs
end Go.TF
