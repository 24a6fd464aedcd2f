/- Parts of the proof of TopLines. -/
import Derived.Test.YtpjjgpjhpobkiaaGreatDoorMK8
namespace Go.Proofs.YtpjjgpjhpobkiaaGreatDoor
namespace Ex
open Go.RowKit
theorem T9:allM (eU dN bY) YF=true:=by kernel_rfl
theorem acJ:allM (eU oW lL) YF=true:=by kernel_rfl
theorem acB:allM (eU kR jG) YF=true:=by kernel_rfl
theorem TV:allM (eU dN bY) YB=true:=by kernel_rfl
theorem acF:allM (eU oW lL) YB=true:=by kernel_rfl
theorem acx:allM (eU kR jG) YB=true:=by kernel_rfl
theorem TZ:allM (eU dN bY) YE=true:=by kernel_rfl
theorem acI:allM (eU oW lL) YE=true:=by kernel_rfl
theorem acA:allM (eU kR jG) YE=true:=by kernel_rfl
theorem TU:allM (eU dN bY) YA=true:=by kernel_rfl
theorem acE:allM (eU oW lL) YA=true:=by kernel_rfl
theorem acw:allM (eU kR jG) YA=true:=by kernel_rfl
end Ex
