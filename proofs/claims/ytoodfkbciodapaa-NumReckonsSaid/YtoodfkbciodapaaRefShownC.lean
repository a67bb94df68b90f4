/- ashlarlaw01.shown, num's functions and ashlarref01.cut, for the printed texts; with sums, products and quotients of rats. -/
import Derived.Test.YtoodfkbciodapaaNumShownC
import Derived.Test.YtoodfkbciodapaaRefGiven
