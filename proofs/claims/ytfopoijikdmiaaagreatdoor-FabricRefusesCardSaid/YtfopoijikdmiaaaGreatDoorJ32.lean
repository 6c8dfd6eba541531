/- Texts of this proof, merged: Edw, EdwG, EdwL, Fer. -/
import Derived.Test.YtfopoijikdmiaaaGreatDoorPlainJ
set_option maxHeartbeats 8000000
set_option maxRecDepth 20000
namespace Go.Proofs.YtfopoijikdmiaaaGreatDoor
section
set_option maxRecDepth 20000
end
section
set_option maxRecDepth 20000
end
section
set_option maxRecDepth 20000
end
section
set_option maxRecDepth 20000
end
end Go.Proofs.YtfopoijikdmiaaaGreatDoor
