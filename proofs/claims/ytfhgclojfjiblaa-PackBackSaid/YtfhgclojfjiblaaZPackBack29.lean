/- Written by a program of this session over the kit's print: functions and their contracts. -/
import Derived.Test.YtfhgclojfjiblaaZPackBack27
import Derived.Test.YtfhgclojfjiblaaZPackBack28
namespace Go.Proofs.Ytfhgclojfjiblaa.QB
open Go.RowKit Go.Proofs.YtfhgclojfjiblaaW.PrintWords Go.Proofs.YtfhgclojfjiblaaW.PrintLast Go.Proofs.YtfhgclojfjiblaaW.PrintMore
attribute [local go_sem] max2_int min2_int max_two min_two max_three min_three max_four min_four   -- for this text's walks alone
set_option linter.unusedVariables false
set_option linter.unusedSimpArgs false

end Go.Proofs.Ytfhgclojfjiblaa.QB
