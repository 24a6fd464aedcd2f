/- What table.with answers, part 1. -/
import Derived.Test.YtceaodnohnekkaaGreatDoorMK11
namespace Go.Proofs.YtceaodnohnekkaaGreatDoor.Ex
open Go.RowKit
theorem Sy:allM (eu dQ dA) ZK=true:=by kernel_rfl
theorem aff:allM (eu oQ mI) ZK=true:=by kernel_rfl
theorem ae7:allM (eu ku jw) ZK=true:=by kernel_rfl
theorem Sr:allM (eu dQ dA) ZG=true:=by kernel_rfl
theorem afb:allM (eu oQ mI) ZG=true:=by kernel_rfl
theorem ae3:allM (eu ku jw) ZG=true:=by kernel_rfl
end Go.Proofs.YtceaodnohnekkaaGreatDoor.Ex
