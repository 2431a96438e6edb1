/- Lent lists stay over calls. -/
import Derived.Test.YtnlpobkmjhajcaaDoorTrk
import Derived.Test.YtnlpobkmjhajcaaDoorLentE
namespace Go.Proofs.YtnlpobkmjhajcaaDoor
open Go.RowKit
instance monoLentM {g n : Nat} {l : List Int} : Mono (fun w => LentM w g n l) := ⟨⟨fun hb h => h.up hb⟩⟩
end Go.Proofs.YtnlpobkmjhajcaaDoor
