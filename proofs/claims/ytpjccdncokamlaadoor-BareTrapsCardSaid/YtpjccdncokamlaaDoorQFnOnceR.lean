/- Contracts that the proofs use. -/
import Derived.Test.YtpjccdncokamlaaDoorQFnOnce
set_option linter.unusedVariables false
set_option linter.unusedSimpArgs false
namespace Go.Proofs.YtpjccdncokamlaaDoor
open Go.RowKit Go.Sy Go.Fac
section
variable {ea : Ear} {has : Int → Prop} {gl : List (Nat × SVal)}
end
end Go.Proofs.YtpjccdncokamlaaDoor

