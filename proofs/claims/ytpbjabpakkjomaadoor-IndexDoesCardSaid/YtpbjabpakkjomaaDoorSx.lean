-- Written by this session's own program (a scratch print with stubs for what the kit's print does not take).
import Derived.Test.YtpbjabpakkjomaaDoorSx0
import Derived.Test.YtpbjabpakkjomaaDoorSx1
import Derived.Test.YtpbjabpakkjomaaDoorSx2
import Derived.Test.YtpbjabpakkjomaaDoorSx3
import Derived.Test.YtpbjabpakkjomaaDoorSx4
import Derived.Test.YtpbjabpakkjomaaDoorSx5
import Derived.Test.YtpbjabpakkjomaaDoorSx6
import Derived.Test.YtpbjabpakkjomaaDoorSx7
namespace Go.Proofs.YtpbjabpakkjomaaDoor.S
open Go.RowKit Go.Proofs.YtpbjabpakkjomaaDoorW.PrintWords Go.Proofs.YtpbjabpakkjomaaDoorW.PrintLast Go.Proofs.YtpbjabpakkjomaaDoorW.PrintMore
set_option linter.unusedVariables false
set_option linter.unusedSimpArgs false

end Go.Proofs.YtpbjabpakkjomaaDoor.S
