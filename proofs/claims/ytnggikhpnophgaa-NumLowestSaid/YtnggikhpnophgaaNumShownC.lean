/- All that a printed law of layer 1 needs. -/
import Derived.Test.YtnggikhpnophgaaNumShownB
import Derived.Test.YtnggikhpnophgaaNumGiven
