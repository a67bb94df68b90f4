/- All that a printed law of layer 1 needs. -/
import Derived.Test.YtoodfkbciodapaaNumShownB
import Derived.Test.YtoodfkbciodapaaNumGiven
