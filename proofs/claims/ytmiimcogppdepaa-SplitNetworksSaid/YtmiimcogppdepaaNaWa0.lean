/- Constants that are arrays. -/
import Derived.Test.YtmiimcogppdepaaNaPu
namespace Go.TF
open Go Go.Abs
end Go.TF
