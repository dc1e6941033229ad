/- The walk of BitsWrites and how a put is read, together. -/
import Derived.Test.YtjmgffiplkkgpaaBWrites
import Derived.Test.YtjmgffiplkkgpaaDec1
