/-
  ComplementRepair answers true for every input. No condition beyond the statement's own.
-/
import Derived.Test.YthapbbpdcjmmfaaF23
import Derived.Test.YthapbbpdcjmmfaaR3
namespace Go.Proofs.Ythapbbpdcjmmfaa
theorem complementRepair_holds : Rows.ComplementRepairSaid := complementRepair.over lawRepair
end Go.Proofs.Ythapbbpdcjmmfaa
