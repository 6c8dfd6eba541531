/- -/
import Derived.Test.YtfopoijikdmiaaaGreatDoorRegJ
import Derived.Test.YtfopoijikdmiaaaGreatDoorJ2
import Derived.Laws.BitsAllLaws
import Derived.Lib.EndianBits
set_option maxHeartbeats 8000000
set_option maxRecDepth 20000
namespace Go.Proofs.YtfopoijikdmiaaaGreatDoor
end Go.Proofs.YtfopoijikdmiaaaGreatDoor
