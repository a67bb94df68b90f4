/- ashlarlaw01.shown, num's functions and ashlarref01.cut, for the printed texts. -/
import Derived.Test.YtnggikhpnophgaaNumShown
import Derived.Test.YtnggikhpnophgaaRefGiven
