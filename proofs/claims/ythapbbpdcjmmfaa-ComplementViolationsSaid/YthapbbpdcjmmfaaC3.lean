/-
  ComplementViolations answers true for every input. No condition beyond the statement's own.
-/
import Derived.Test.YthapbbpdcjmmfaaF24
import Derived.Test.YthapbbpdcjmmfaaR4
namespace Go.Proofs.Ythapbbpdcjmmfaa
theorem complementViolations_holds : Rows.ComplementViolationsSaid := complementViolations.over lawViolations
end Go.Proofs.Ythapbbpdcjmmfaa
