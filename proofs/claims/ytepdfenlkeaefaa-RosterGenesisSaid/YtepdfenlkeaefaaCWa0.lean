/- Constants that are arrays. -/
import Derived.Test.YtepdfenlkeaefaaCPu
namespace Go.TF
open Go Go.Abs
end Go.TF
