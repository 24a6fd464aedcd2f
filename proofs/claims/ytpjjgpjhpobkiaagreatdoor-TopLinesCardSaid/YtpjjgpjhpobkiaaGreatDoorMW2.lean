/- Parts of the proof of TopLines. -/
import Derived.Test.YtpjjgpjhpobkiaaGreatDoorMK8
namespace Go.Proofs.YtpjjgpjhpobkiaaGreatDoor
namespace Ex
open Go.RowKit
theorem TY:allM (eU dN bY) YD=true:=by kernel_rfl
theorem acH:allM (eU oW lL) YD=true:=by kernel_rfl
theorem acz:allM (eU kR jG) YD=true:=by kernel_rfl
theorem TS:allM (eU dN bY) Yz=true:=by kernel_rfl
theorem acD:allM (eU oW lL) Yz=true:=by kernel_rfl
theorem acv:allM (eU kR jG) Yz=true:=by kernel_rfl
theorem TW:allM (eU dN bY) YC=true:=by kernel_rfl
theorem acG:allM (eU oW lL) YC=true:=by kernel_rfl
theorem acy:allM (eU kR jG) YC=true:=by kernel_rfl
theorem TR:allM (eU dN bY) Yy=true:=by kernel_rfl
theorem acC:allM (eU oW lL) Yy=true:=by kernel_rfl
theorem acu:allM (eU kR jG) Yy=true:=by kernel_rfl
end Ex
