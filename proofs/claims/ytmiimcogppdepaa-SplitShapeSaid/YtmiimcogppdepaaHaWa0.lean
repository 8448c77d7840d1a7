/- Constants that are arrays. -/
import Derived.Test.YtmiimcogppdepaaHaPu
namespace Go.TF
open Go Go.Abs
end Go.TF
