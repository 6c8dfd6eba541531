/- Texts of this proof, merged: ShaW, ShaM, ShaK, ShaR, ShaQ, ShaC, ShaF, ShaS, Mac, MacS, MacK, MacL, Noi, NoiT, NoiC, NoiB, NoiM, NoiS, NoiL, NoiO, NoiG, NoiP, NoiQ, NoiR, NoiF. -/
import Derived.Test.YtfopoijikdmiaaaGreatDoorJ31
import Derived.Test.YtfopoijikdmiaaaGreatDoorJ26
import Derived.Laws.IdiomCopy
import Derived.Laws.BitsLemmas
import Derived.Conc.WgArith
import Derived.Test.YtfopoijikdmiaaaGreatDoorJ33
set_option maxHeartbeats 8000000
set_option maxRecDepth 20000
namespace Go.Proofs.YtfopoijikdmiaaaGreatDoor
section
set_option maxRecDepth 20000
end
section
set_option maxRecDepth 20000
end
section
set_option maxRecDepth 20000
end
section
set_option maxRecDepth 20000
end
section
set_option maxRecDepth 20000
end
section
set_option maxRecDepth 20000
end
section
set_option maxRecDepth 20000
end
section
set_option maxRecDepth 20000
end
section
set_option maxRecDepth 20000
end
section
set_option maxRecDepth 20000
end
section
set_option maxRecDepth 20000
end
section
set_option maxRecDepth 20000
end
section
set_option maxRecDepth 20000
end
section
set_option maxRecDepth 20000
end
section
set_option maxRecDepth 20000
end
section
set_option maxRecDepth 20000
end
section
set_option maxRecDepth 20000
end
section
set_option maxRecDepth 20000
end
section
set_option maxRecDepth 20000
end
section
set_option maxRecDepth 20000
end
section
set_option maxRecDepth 20000
end
section
set_option maxRecDepth 20000
end
section
set_option maxRecDepth 20000
end
section
set_option maxRecDepth 20000
end
section
set_option maxRecDepth 20000
end
end Go.Proofs.YtfopoijikdmiaaaGreatDoor
