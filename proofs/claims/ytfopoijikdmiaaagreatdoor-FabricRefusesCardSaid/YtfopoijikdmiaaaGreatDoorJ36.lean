/- Texts of this proof, merged: CurZ, CurC, GrE, CurG, GrM, CurJ, EdwK. -/
import Derived.Test.YtfopoijikdmiaaaGreatDoorJ33
import Derived.Test.YtfopoijikdmiaaaGreatDoorJ3
import Derived.Test.YtfopoijikdmiaaaGreatDoorJ26
import Derived.Test.YtfopoijikdmiaaaGreatDoorJ32
set_option maxHeartbeats 8000000
set_option maxRecDepth 20000
namespace Go.Proofs.YtfopoijikdmiaaaGreatDoor
section
set_option maxRecDepth 20000
end
section
set_option maxRecDepth 20000
end
section
set_option maxRecDepth 20000
end
section
set_option maxRecDepth 20000
end
section
set_option maxRecDepth 20000
end
section
set_option maxRecDepth 20000
end
section
set_option maxRecDepth 20000
end
end Go.Proofs.YtfopoijikdmiaaaGreatDoor
