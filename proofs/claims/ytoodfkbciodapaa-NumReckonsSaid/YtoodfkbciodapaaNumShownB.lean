/- All that a printed law of layer 1 with Plus and Minus needs. -/
import Derived.Test.YtoodfkbciodapaaNumShown
import Derived.Test.YtoodfkbciodapaaNumGivenB
