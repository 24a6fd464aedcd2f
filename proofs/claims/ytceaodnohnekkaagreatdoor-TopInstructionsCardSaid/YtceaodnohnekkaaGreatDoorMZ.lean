/- Short names for lemmas of the library. -/
import Derived.Below
import Derived.Lib.Hide
import Derived.Lib.Walk
import Derived.WalkKit
namespace Go.Proofs.YtceaodnohnekkaaGreatDoor
open Go.RowKit
abbrev zz := @Lib.hid
abbrev zy := @And.intro
abbrev zx := @Option.some.inj
abbrev zw := @Prod.mk.inj
abbrev zu := @Nat.le_refl
abbrev zt := @Nat.le_trans
abbrev zq := @Nat.lt_of_lt_of_le
abbrev zo := @Below.refl
abbrev zn := @List.mem_cons_self
abbrev zm := @List.mem_cons_of_mem
end Go.Proofs.YtceaodnohnekkaaGreatDoor
