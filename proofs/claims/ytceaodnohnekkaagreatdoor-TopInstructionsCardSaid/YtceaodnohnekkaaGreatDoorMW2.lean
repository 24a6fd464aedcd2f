/- Parts of the proof of TopInstructions. -/
import Derived.Test.YtceaodnohnekkaaGreatDoorMK11
namespace Go.Proofs.YtceaodnohnekkaaGreatDoor.Ex
open Go.RowKit
theorem Sw:allM (eu dQ dA) ZJ=true:=by kernel_rfl
theorem afe:allM (eu oQ mI) ZJ=true:=by kernel_rfl
theorem ae6:allM (eu ku jw) ZJ=true:=by kernel_rfl
theorem Sq:allM (eu dQ dA) ZF=true:=by kernel_rfl
theorem afa:allM (eu oQ mI) ZF=true:=by kernel_rfl
theorem ae2:allM (eu ku jw) ZF=true:=by kernel_rfl
theorem Sv:allM (eu dQ dA) ZI=true:=by kernel_rfl
theorem afd:allM (eu oQ mI) ZI=true:=by kernel_rfl
theorem ae5:allM (eu ku jw) ZI=true:=by kernel_rfl
theorem Sn:allM (eu dQ dA) ZE=true:=by kernel_rfl
theorem ae9:allM (eu oQ mI) ZE=true:=by kernel_rfl
theorem ae1:allM (eu ku jw) ZE=true:=by kernel_rfl
end Go.Proofs.YtceaodnohnekkaaGreatDoor.Ex
