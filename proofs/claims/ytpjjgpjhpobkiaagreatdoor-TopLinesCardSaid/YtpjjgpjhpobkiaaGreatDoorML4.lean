/- What lookup answers: a part of the opcodes. -/
import Derived.Test.YtpjjgpjhpobkiaaGreatDoorMX1
namespace Go.Proofs.YtpjjgpjhpobkiaaGreatDoor
namespace Ex
theorem aiA:((List.range' 96 32).all (fT kR jG))=true:=by kernel_rfl
theorem aea:((List.range' 128 32).all (fT kR jG))=true:=by kernel_rfl
theorem ad9:((List.range' 160 32).all (fT kR jG))=true:=by kernel_rfl
theorem ad8:((List.range' 192 32).all (fT kR jG))=true:=by kernel_rfl
theorem ad7:((List.range' 224 32).all (fT kR jG))=true:=by kernel_rfl
end Ex
