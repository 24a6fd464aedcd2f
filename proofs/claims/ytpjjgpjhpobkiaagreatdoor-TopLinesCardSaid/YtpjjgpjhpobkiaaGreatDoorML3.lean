/- What lookup answers: a part of the opcodes. -/
import Derived.Test.YtpjjgpjhpobkiaaGreatDoorMX1
namespace Go.Proofs.YtpjjgpjhpobkiaaGreatDoor
namespace Ex
theorem ams:((List.range' 0 128).all (fT oW lL))=true:=by kernel_rfl
theorem aeb:((List.range' 128 128).all (fT oW lL))=true:=by kernel_rfl
theorem amr:((List.range' 0 32).all (fT kR jG))=true:=by kernel_rfl
theorem aiC:((List.range' 32 32).all (fT kR jG))=true:=by kernel_rfl
theorem aiB:((List.range' 64 32).all (fT kR jG))=true:=by kernel_rfl
end Ex
