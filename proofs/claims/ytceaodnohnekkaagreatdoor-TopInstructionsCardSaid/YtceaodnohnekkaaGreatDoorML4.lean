/- What lookup answers: a part of the opcodes. -/
import Derived.Test.YtceaodnohnekkaaGreatDoorMK3
namespace Go.Proofs.YtceaodnohnekkaaGreatDoor.Ex
theorem am6:((List.range' 96 32).all (fB ku jw))=true:=by kernel_rfl
theorem agN:((List.range' 128 32).all (fB ku jw))=true:=by kernel_rfl
theorem agM:((List.range' 160 32).all (fB ku jw))=true:=by kernel_rfl
theorem agL:((List.range' 192 32).all (fB ku jw))=true:=by kernel_rfl
theorem agK:((List.range' 224 32).all (fB ku jw))=true:=by kernel_rfl
end Go.Proofs.YtceaodnohnekkaaGreatDoor.Ex
