/- Addresses: the library's contracts, laid at this program. -/
import Derived.Shelf.Lay
import Derived.Shelf.Strings.Split
import Derived.Shelf.Strings.Cut
import Derived.Shelf.Strings.OnBuilder
import Derived.Shelf.Strconv.Itoa3
import Derived.Shelf.Strconv.AtoiAll
import Derived.Shelf.Pu.ParseUintPublic10
import Derived.Ground.NamesProg
import Derived.Ground.MpProg
import Derived.Test.YtdkgekmjkindmaaDoorRows1
namespace Go.Proofs
open Go.Shelf Go.RowKit Go.Lib
shelf_lay Lays.n143 Nm 143 at Tryd as Tryd.adIndex
shelf_lay Lays.n146 Nm 146 at Tryd as Tryd.adSplit
shelf_lay Lays.n145 Nm 145 at Tryd as Tryd.adCut
shelf_lay Lays.n156 Nm 156 at Tryd as Tryd.adJoin
shelf_lay LaysM.n171 Nm 171 at Tryd as Tryd.adItoa
shelf_lay LaysC.n172 Nm 172 at Tryd as Tryd.adAtoi
shelf_lay LaysPu.n14 Mp 14 at Tryd as Tryd.adPu
end Go.Proofs
