/- Constants that are arrays. -/
import Derived.Test.YtmiimcogppdepaaBaPu
namespace Go.TF
open Go Go.Abs
end Go.TF
