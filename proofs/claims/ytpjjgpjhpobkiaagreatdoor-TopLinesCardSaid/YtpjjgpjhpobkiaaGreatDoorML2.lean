/- What lookup answers: a part of the opcodes. -/
import Derived.Test.YtpjjgpjhpobkiaaGreatDoorMX1
namespace Go.Proofs.YtpjjgpjhpobkiaaGreatDoor
namespace Ex
theorem Vu:((List.range' 128 32).all (fT dN bY))=true:=by kernel_rfl
theorem Vt:((List.range' 160 32).all (fT dN bY))=true:=by kernel_rfl
theorem Vs:((List.range' 192 32).all (fT dN bY))=true:=by kernel_rfl
theorem Vq:((List.range' 224 32).all (fT dN bY))=true:=by kernel_rfl
end Ex
