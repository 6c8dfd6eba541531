/- Texts of this proof, merged: Cha, Sha, ChaD, ChaE, ChaS, Pol, Aead, AeadL, ChaM, PolO, PolA, PolT, PolR, PolS, AeadT, AeadS, AeadO. -/
import Derived.Test.YtfopoijikdmiaaaGreatDoorJ2
import Derived.Test.YtfopoijikdmiaaaGreatDoorBytJ
import Derived.Lib.Hide
import Derived.Test.YtfopoijikdmiaaaGreatDoorRegJ
import Derived.Laws.Externs
import Derived.Laws.Bits64b
import Derived.WalkSpells
import Derived.WalkLawsBesides
set_option maxHeartbeats 8000000
set_option maxRecDepth 20000
namespace Go.Proofs.YtfopoijikdmiaaaGreatDoor
section
set_option maxRecDepth 20000
end
section
set_option maxRecDepth 20000
end
section
set_option maxRecDepth 20000
end
section
set_option maxRecDepth 20000
end
section
set_option maxRecDepth 20000
end
section
set_option maxRecDepth 20000
end
section
set_option maxRecDepth 20000
end
section
set_option maxRecDepth 20000
end
section
set_option maxRecDepth 20000
end
section
set_option maxRecDepth 20000
end
section
set_option maxRecDepth 20000
end
section
set_option maxRecDepth 20000
end
section
set_option maxRecDepth 20000
end
section
set_option maxRecDepth 20000
end
section
set_option maxRecDepth 20000
end
section
set_option maxRecDepth 20000
end
section
set_option maxRecDepth 20000
end
end Go.Proofs.YtfopoijikdmiaaaGreatDoor
