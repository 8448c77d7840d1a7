/- Constants that are arrays. -/
import Derived.Test.YteclncnknklkfaaBaPu
namespace Go.TF
open Go Go.Abs
end Go.TF
