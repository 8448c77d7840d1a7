/- What every value keeps to, under the name that these texts use. -/
import Derived.Test.YtocmgnljgemjkaaBrF
