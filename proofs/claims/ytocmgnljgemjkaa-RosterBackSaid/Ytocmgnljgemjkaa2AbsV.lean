/- The layer, under the name that these texts use. -/
import Derived.Test.YtocmgnljgemjkaaAbsV
