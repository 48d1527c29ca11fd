/-
  image.Check and indelibleref22.Check: the error of an image.
-/
import Derived.Test.YtaafmgkjfmngjaaDoorImB
namespace Go.Proofs.YtaafmgkjfmngjaaDoor
open Go.RowKit
set_option linter.unusedVariables false
set_option linter.unusedSimpArgs false

set_option maxRecDepth 100000
end Go.Proofs.YtaafmgkjfmngjaaDoor
