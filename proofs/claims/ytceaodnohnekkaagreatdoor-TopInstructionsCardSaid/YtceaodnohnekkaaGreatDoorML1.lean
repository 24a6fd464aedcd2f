/- What lookup answers: a part of the opcodes. -/
import Derived.Test.YtceaodnohnekkaaGreatDoorMK3
namespace Go.Proofs.YtceaodnohnekkaaGreatDoor.Ex
theorem agJ:((List.range' 0 32).all (fB dQ dA))=true:=by kernel_rfl
theorem abz:((List.range' 32 32).all (fB dQ dA))=true:=by kernel_rfl
theorem aby:((List.range' 64 32).all (fB dQ dA))=true:=by kernel_rfl
theorem abx:((List.range' 96 32).all (fB dQ dA))=true:=by kernel_rfl
end Go.Proofs.YtceaodnohnekkaaGreatDoor.Ex
