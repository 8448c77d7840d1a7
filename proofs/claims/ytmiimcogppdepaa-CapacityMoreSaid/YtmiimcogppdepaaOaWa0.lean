/- Constants that are arrays. -/
import Derived.Test.YtmiimcogppdepaaOaPu
namespace Go.TF
open Go Go.Abs
end Go.TF
