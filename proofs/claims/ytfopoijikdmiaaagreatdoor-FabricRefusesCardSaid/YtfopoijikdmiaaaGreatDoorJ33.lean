/- Texts of this proof, merged: Cur, CurT, CurI, CurK, CurO, CurM, CurS, CurH, CurP, CurQ, CurV, CurE, CurF. -/
import Derived.Test.YtfopoijikdmiaaaGreatDoorJ2
import Derived.Test.YtfopoijikdmiaaaGreatDoorBytJ
import Derived.Deep.RegionHeld3
import Derived.WalkKit
import Derived.Test.YtfopoijikdmiaaaGreatDoorRegJ
import Derived.Test.YtfopoijikdmiaaaGreatDoorJ32
set_option maxHeartbeats 8000000
set_option maxRecDepth 20000
namespace Go.Proofs.YtfopoijikdmiaaaGreatDoor
section
set_option maxRecDepth 20000
end
section
set_option maxRecDepth 20000
end
section
set_option maxRecDepth 20000
end
section
set_option maxRecDepth 20000
end
section
set_option maxRecDepth 20000
end
section
set_option maxRecDepth 20000
end
section
set_option maxRecDepth 20000
end
section
set_option maxRecDepth 20000
end
section
set_option maxRecDepth 20000
end
section
set_option maxRecDepth 20000
end
section
set_option maxRecDepth 20000
end
section
set_option maxRecDepth 20000
end
section
set_option maxRecDepth 20000
end
end Go.Proofs.YtfopoijikdmiaaaGreatDoor
