-- by a program of this session
import Derived.Test.YthheakfgmombdaaQSimplexChecksx0
import Derived.Test.YthheakfgmombdaaQSimplexChecksx1
import Derived.Test.YthheakfgmombdaaQSimplexChecksx2
import Derived.Test.YthheakfgmombdaaQSimplexChecksx3
namespace Go.Proofs.Ythheakfgmombdaa.QSimplexChecks
open Go.RowKit Go.Proofs.YthheakfgmombdaaX.PrintWords Go.Proofs.YthheakfgmombdaaX.PrintLast Go.Proofs.YthheakfgmombdaaX.PrintMore
attribute [local go_sem] max2_int min2_int max_two min_two max_three min_three max_four min_four   -- for this text's walks alone
set_option linter.unusedVariables false
set_option linter.unusedSimpArgs false

end Go.Proofs.Ythheakfgmombdaa.QSimplexChecks
