/- What lookup answers: a part of the opcodes. -/
import Derived.Test.YtceaodnohnekkaaGreatDoorMK3
namespace Go.Proofs.YtceaodnohnekkaaGreatDoor.Ex
theorem U2:((List.range' 128 32).all (fB dQ dA))=true:=by kernel_rfl
theorem U1:((List.range' 160 32).all (fB dQ dA))=true:=by kernel_rfl
theorem U0:((List.range' 192 32).all (fB dQ dA))=true:=by kernel_rfl
theorem UZ:((List.range' 224 32).all (fB dQ dA))=true:=by kernel_rfl
end Go.Proofs.YtceaodnohnekkaaGreatDoor.Ex
