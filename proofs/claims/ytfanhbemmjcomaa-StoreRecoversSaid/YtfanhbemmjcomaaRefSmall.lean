/- The reference's small helpers: Short, Ints, Few, Around, SameBytes, SameInts. -/
import Derived.Test.YtfanhbemmjcomaaHashBytes
import Derived.BigQuiet
import Derived.Deep.QuietTactic
namespace Go.Proofs.Ytfanhbemmjcomaa
open Go.RowKit
set_option linter.unusedVariables false









end Go.Proofs.Ytfanhbemmjcomaa
