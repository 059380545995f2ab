/-
  ComplementOf answers true for every case. No condition beyond the statement's own.
-/
import Derived.Test.YthapbbpdcjmmfaaF21
namespace Go.Proofs.Ythapbbpdcjmmfaa
theorem complementOf_holds : Rows.ComplementOfSaid := complementOf.over lawOf
end Go.Proofs.Ythapbbpdcjmmfaa
