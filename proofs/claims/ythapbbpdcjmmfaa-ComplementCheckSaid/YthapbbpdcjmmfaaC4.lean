/-
  ComplementCheck answers true for every input. No condition beyond the statement's own.
-/
import Derived.Test.YthapbbpdcjmmfaaF24
import Derived.Test.YthapbbpdcjmmfaaR5
namespace Go.Proofs.Ythapbbpdcjmmfaa
theorem complementCheck_holds : Rows.ComplementCheckSaid := complementCheck.over lawCheck
end Go.Proofs.Ythapbbpdcjmmfaa
