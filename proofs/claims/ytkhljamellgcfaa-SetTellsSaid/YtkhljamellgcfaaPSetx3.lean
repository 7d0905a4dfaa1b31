-- written by a program of this session (hprint.py), over the kit's printer
import Derived.Test.YtkhljamellgcfaaPSetx0
import Derived.Test.YtkhljamellgcfaaPSetx1
import Derived.Test.YtkhljamellgcfaaPSetx2
namespace Go.Proofs.Ytkhljamellgcfaa.PSet
open Go.RowKit Go.Proofs.YtkhljamellgcfaaW.PrintWords Go.Proofs.YtkhljamellgcfaaW.PrintLast Go.Proofs.YtkhljamellgcfaaW.PrintMore
attribute [local go_sem] max2_int min2_int max_two min_two max_three min_three max_four min_four   -- for this text's walks alone
set_option linter.unusedVariables false
set_option linter.unusedSimpArgs false

/-! ### stolonlaw06_SetLaws: function 6 -/
end Go.Proofs.Ytkhljamellgcfaa.PSet
