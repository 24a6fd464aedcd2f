/- What table.with answers, part 0. -/
import Derived.Test.YtceaodnohnekkaaGreatDoorMK11
namespace Go.Proofs.YtceaodnohnekkaaGreatDoor.Ex
open Go.RowKit
theorem Sz:allM (eu dQ dA) ZL=true:=by kernel_rfl
theorem afg:allM (eu oQ mI) ZL=true:=by kernel_rfl
theorem ae8:allM (eu ku jw) ZL=true:=by kernel_rfl
theorem Su:allM (eu dQ dA) ZH=true:=by kernel_rfl
theorem afc:allM (eu oQ mI) ZH=true:=by kernel_rfl
theorem ae4:allM (eu ku jw) ZH=true:=by kernel_rfl
end Go.Proofs.YtceaodnohnekkaaGreatDoor.Ex
