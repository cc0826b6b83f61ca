/-
  The shelf's contracts of internal/stringslite.Index and strings.Repeat at this seat. (Conditions: none.)
-/
import Derived.Test.YtfddpaljmihinaaGreatDoorRows
import Derived.Shelf.Lay
import Derived.Shelf.Strings.Search2
import Derived.Shelf.Strings.Repeat
import Derived.Ground.NamesProg
import Derived.KernelRfl
namespace Go.Proofs
open Go.Shelf Go.RowKit

shelf_lay Lays.n219 Nm 219 at Tryz as Tryz.evLays219
shelf_lay Lays.n105 Nm 105 at Tryz as Tryz.evLays105
theorem Tryz.evExtra : Builder.Extra Tryz.prog Tryz.evLays105_ren where
  sizeBuilder := by kernel_rfl
  liesBuilder := by kernel_rfl
  t5 := Tryz.evLays105.t5
  a5 := Tryz.evLays105.a5
  z5 := Tryz.evLays105.z5
  v5 := Tryz.evLays105.v5
  infoByte := by kernel_rfl
  cellsByte := by kernel_rfl
  sizeByte := by kernel_rfl
  neB5 := by decide
end Go.Proofs
