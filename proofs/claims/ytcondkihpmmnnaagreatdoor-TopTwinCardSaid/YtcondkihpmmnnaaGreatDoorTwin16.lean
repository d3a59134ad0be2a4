/- Lemmas, part 16 of 50. No condition. -/
import Derived.Test.YtcondkihpmmnnaaGreatDoorTwin13
import Derived.Test.YtcondkihpmmnnaaGreatDoorTwin14
set_option maxRecDepth 100000
set_option maxHeartbeats 16000000
