import Derived.Test.YtjpfhldklbgdcaaVInv
import Derived.Test.YtjpfhldklbgdcaaVFootNe
namespace Go.Proofs.YtjpfhldklbgdcaaW.PrintWords
open Go.RowKit
end Go.Proofs.YtjpfhldklbgdcaaW.PrintWords
namespace Go.Proofs.YtjpfhldklbgdcaaW.PrintLast
section
variable {ops:Array Oper} {a:Act} {o og:Oper} {g:Nat} {t:Tmp} {u:Bool}
end
end Go.Proofs.YtjpfhldklbgdcaaW.PrintLast
