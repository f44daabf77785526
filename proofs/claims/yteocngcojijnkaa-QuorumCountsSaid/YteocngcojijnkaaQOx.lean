/- Written by a program of this session over the kit's print: functions and their contracts. -/
import Derived.Test.YteocngcojijnkaaQOx0
import Derived.Test.YteocngcojijnkaaQOx1
namespace Go.Proofs.Yteocngcojijnkaa.QO
open Go.RowKit Go.Proofs.YteocngcojijnkaaW.PrintWords Go.Proofs.YteocngcojijnkaaW.PrintLast Go.Proofs.YteocngcojijnkaaW.PrintMore
attribute [local go_sem] max2_int min2_int max_two min_two max_three min_three max_four min_four   -- for this text's walks alone
set_option linter.unusedVariables false
set_option linter.unusedSimpArgs false

end Go.Proofs.Yteocngcojijnkaa.QO
