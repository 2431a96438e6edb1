/- Facts of patches that stay over calls. Lent lists stay over calls. -/
import Derived.Test.YtocfkmdoalhjmaaDoorTrk
import Derived.Test.YtocfkmdoalhjmaaDoorPatA
import Derived.Test.YtocfkmdoalhjmaaDoorLentE
namespace Go.Proofs.YtocfkmdoalhjmaaDoor
open Go.RowKit
set_option linter.unusedVariables false
instance monoSent {R : Nat → Addr} : Mono (fun w => Sent w R) := ⟨⟨fun hb h => h.up hb⟩⟩
instance monoEnv {R : Nat → Addr} : Mono (fun w => Env w R) := ⟨⟨fun hb h => h.up hb⟩⟩
instance monoRK {k : IntKind} {a : Option Addr} {n : Nat} {l : List Int} : Mono (fun w => RK k w a n l) := ⟨⟨fun hb h => h.up hb⟩⟩
instance monoOwI {B : Nat} {a : Option Addr} {n c : Nat} {l : List Int} : Mono (fun w => OwI w B a n c l) := ⟨⟨fun hb h => h.up hb⟩⟩
instance monoSlI {a : Option Addr} {n c : Nat} {l : List Int} : Mono (fun w => SlI w a n c l) := ⟨⟨fun hb h => h.up hb⟩⟩
instance monoEC {R : Nat → Addr} {v : Value} {f : ErrD} : Mono (fun w => EC R w v f) := ⟨⟨fun hb h => h.up hb⟩⟩
instance monoWC {v : Value} {f : ErrD} : Mono (fun w => WC w v f) := ⟨⟨fun hb h => h.up hb⟩⟩
end Go.Proofs.YtocfkmdoalhjmaaDoor
namespace Go.Proofs.YtocfkmdoalhjmaaDoor
open Go.RowKit
instance monoLentM {g n : Nat} {l : List Int} : Mono (fun w => LentM w g n l) := ⟨⟨fun hb h => h.up hb⟩⟩
end Go.Proofs.YtocfkmdoalhjmaaDoor
