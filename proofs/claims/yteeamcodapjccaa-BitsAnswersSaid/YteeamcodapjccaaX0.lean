-- by xprint.py, a program of this session, out of the kit's printer
import Derived.Test.YteeamcodapjccaaPBitsAnswersx
import Derived.Test.YteeamcodapjccaaBg
namespace Go.Proofs.Yteeamcodapjccaa.X
open Go.RowKit Go.Proofs.YteeamcodapjccaaW.PrintWords Go.Proofs.YteeamcodapjccaaW.PrintLast Go.Proofs.YteeamcodapjccaaW.PrintMore
open Go.Proofs.Yteeamcodapjccaa.PBitsAnswers
attribute [local go_sem] max2_int min2_int max_two min_two max_three min_three max_four min_four   -- for this text's walks alone
set_option linter.unusedVariables false
set_option linter.unusedSimpArgs false



-- the values' own types

end Go.Proofs.Yteeamcodapjccaa.X
