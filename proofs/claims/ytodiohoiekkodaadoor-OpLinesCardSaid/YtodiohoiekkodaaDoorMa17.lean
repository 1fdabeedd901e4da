/- OpLines, whatever the operation. -/
import Derived.Test.YtodiohoiekkodaaDoorMa16
section
set_option linter.unusedVariables false
namespace Go.Proofs.YtodiohoiekkodaaDoor.Op
open Go.RowKit Go.Proofs.YtodiohoiekkodaaDoor.Bd Go.Proofs.YtodiohoiekkodaaDoor.Sp Go.Proofs.YtodiohoiekkodaaDoor.Rf
theorem lines_any (k sub : Int) (t p : ByteArray) (keep : Bool) (w : World) (hG : Glob w) : Calls Tryd.prog 3 #[opV k sub t p keep] w fun e w' => e = .returned (.bool true) ∧ Below w.heap.size w w' := by
  rcases dec_cases ((t.size : Int) > 300) with h | h
  · exact lines_long1 k sub t p keep w hG h
  rcases dec_cases ((p.size : Int) > 300) with h2 | h2
  · exact lines_long2 k sub t p keep w hG h h2
  cases hp : plainOK k sub t p keep with
  | false => exact lines_bad k sub t p keep w hG h h2 hp
  | true => exact lines_good k sub t p keep w hG h h2 hp
end Go.Proofs.YtodiohoiekkodaaDoor.Op
end
