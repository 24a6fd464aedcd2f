/- What lookup answers: a part of the opcodes. -/
import Derived.Test.YtpjjgpjhpobkiaaGreatDoorMX1
namespace Go.Proofs.YtpjjgpjhpobkiaaGreatDoor
namespace Ex
theorem ad6:((List.range' 0 32).all (fT dN bY))=true:=by kernel_rfl
theorem Zk:((List.range' 32 32).all (fT dN bY))=true:=by kernel_rfl
theorem Zj:((List.range' 64 32).all (fT dN bY))=true:=by kernel_rfl
theorem Zi:((List.range' 96 32).all (fT dN bY))=true:=by kernel_rfl
end Ex
