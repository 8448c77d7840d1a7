/- Constants that are arrays. -/
import Derived.Test.YteclncnknklkfaaGaPu
namespace Go.TF
open Go Go.Abs
end Go.TF
