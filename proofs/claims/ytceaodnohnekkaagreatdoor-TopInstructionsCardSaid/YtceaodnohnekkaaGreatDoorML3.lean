/- What lookup answers: a part of the opcodes. -/
import Derived.Test.YtceaodnohnekkaaGreatDoorMK3
namespace Go.Proofs.YtceaodnohnekkaaGreatDoor.Ex
theorem asT:((List.range' 0 128).all (fB oQ mI))=true:=by kernel_rfl
theorem agO:((List.range' 128 128).all (fB oQ mI))=true:=by kernel_rfl
theorem asS:((List.range' 0 32).all (fB ku jw))=true:=by kernel_rfl
theorem am8:((List.range' 32 32).all (fB ku jw))=true:=by kernel_rfl
theorem am7:((List.range' 64 32).all (fB ku jw))=true:=by kernel_rfl
end Go.Proofs.YtceaodnohnekkaaGreatDoor.Ex
