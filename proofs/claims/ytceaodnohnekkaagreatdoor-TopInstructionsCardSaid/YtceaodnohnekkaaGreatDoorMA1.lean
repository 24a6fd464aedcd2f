/- What table.At answers: page 1. -/
import Derived.Test.YtceaodnohnekkaaGreatDoorMK3
import Derived.Test.YtceaodnohnekkaaGreatDoorMK7
namespace Go.Proofs.YtceaodnohnekkaaGreatDoor.Ex
open Go.RowKit
def Rk:List (Nat×Nat):=ax [297,313,297,297,297,297,305,297,297,313,297,297,297,297,305,297]
theorem aec:aN (aj ai) 104 1 0 aaT Rk=true:=by kernel_rfl
def Rj:List (Nat×Nat):=ax [297,313,297,297,297,297,305,297,297,313,297,297,297,297,305,297]
theorem aeb:aN (aj ai) 104 1 16 aaS Rj=true:=by kernel_rfl
def Ri:List (Nat×Nat):=ax [297,313,297,297,297,297,305,297,297,313,297,297,297,297,305,297]
theorem aea:aN (aj ai) 104 1 32 aaR Ri=true:=by kernel_rfl
def Rh:List (Nat×Nat):=ax [297,313,297,297,297,297,305,297,297,313,297,297,297,297,305,297]
theorem ad9:aN (aj ai) 104 1 48 aaQ Rh=true:=by kernel_rfl
def Rf:List (Nat×Nat):=ax [345,361,345,345,345,345,353,345,345,361,345,345,345,345,353,345]
theorem ad8:aN (aj ai) 104 1 64 aaP Rf=true:=by kernel_rfl
def Re:List (Nat×Nat):=ax [345,361,345,345,345,345,353,345,345,361,345,345,345,345,353,345]
theorem ad7:aN (aj ai) 104 1 80 aaO Re=true:=by kernel_rfl
def Rc:List (Nat×Nat):=ax [345,361,345,345,345,345,353,345,345,361,345,345,345,345,353,345]
theorem ad6:aN (aj ai) 104 1 96 aaN Rc=true:=by kernel_rfl
def Rb:List (Nat×Nat):=ax [345,361,345,345,345,345,353,345,345,361,345,345,345,345,353,345]
theorem ad5:aN (aj ai) 104 1 112 aaM Rb=true:=by kernel_rfl
def Ra:List (Nat×Nat):=ax [345,361,345,345,345,345,353,345,345,361,345,345,345,345,353,345]
theorem ad4:aN (aj ai) 104 1 128 aaL Ra=true:=by kernel_rfl
def Q9:List (Nat×Nat):=ax [345,361,345,345,345,345,353,345,345,361,345,345,345,345,353,345]
theorem ad3:aN (aj ai) 104 1 144 aaK Q9=true:=by kernel_rfl
def IE:List (Nat×Nat):=ax [345,361,345,345,345,345,353,345,345,361,345,345,345,345,353,345]
theorem WG:aN (aj ai) 104 1 160 MO IE=true:=by kernel_rfl
def IC:List (Nat×Nat):=ax [345,361,345,345,345,345,353,345,345,361,345,345,345,345,353,345]
theorem WE:aN (aj ai) 104 1 176 MN IC=true:=by kernel_rfl
def IB:List (Nat×Nat):=ax [345,361,345,345,345,345,353,345,345,361,345,345,345,345,353,345]
theorem WC:aN (aj ai) 104 1 192 MM IB=true:=by kernel_rfl
def IA:List (Nat×Nat):=ax [345,361,345,345,345,345,353,345,345,361,345,345,345,345,353,345]
theorem WB:aN (aj ai) 104 1 208 ML IA=true:=by kernel_rfl
def Iz:List (Nat×Nat):=ax [345,361,345,345,345,345,353,345,345,361,345,345,345,345,353,345]
theorem Wz:aN (aj ai) 104 1 224 MK Iz=true:=by kernel_rfl
def Iy:List (Nat×Nat):=ax [345,361,345,345,345,345,353,345,345,361,345,345,345,345,353,345]
theorem Wy:aN (aj ai) 104 1 240 MJ Iy=true:=by kernel_rfl
def aiu:List (List (Nat×Nat)):=[Rk,Rj,Ri,Rh,Rf,Re,Rc,Rb,Ra,Q9,IE,IC,IB,IA,Iz,Iy]
theorem aos:zg (aj ai) 104 1 0 od1 aiu:=zy aec (zy aeb (zy aea (zy ad9 (zy ad8 (zy ad7 (zy ad6 (zy ad5 (zy ad4 (zy ad3 (zy WG (zy WE (zy WC (zy WB (zy Wz (zy Wy (trivial))))))))))))))))
end Go.Proofs.YtceaodnohnekkaaGreatDoor.Ex
