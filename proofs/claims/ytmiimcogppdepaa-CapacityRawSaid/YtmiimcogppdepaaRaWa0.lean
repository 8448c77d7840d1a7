/- Constants that are arrays. -/
import Derived.Test.YtmiimcogppdepaaRaPu
namespace Go.TF
open Go Go.Abs
end Go.TF
