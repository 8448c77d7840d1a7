/- Constants that are arrays. -/
import Derived.Test.YtmiimcogppdepaaMaPu
namespace Go.TF
open Go Go.Abs
end Go.TF
