/- The walk of the document's skip. Conditions: the text's size is bounded;the place lies in it. -/
import Derived.Test.YtlhmkfcbldghfaaGreatDoorTkB
namespace Go.Proofs.YtlhmkfcbldghfaaGreatDoor
set_option linter.all false
open Go.Lib (hid)
set_option maxRecDepth 1000000
set_option maxHeartbeats 16000000
open Go.RowKit
namespace Tk
end Tk
end Go.Proofs.YtlhmkfcbldghfaaGreatDoor
