/- What table.At answers: page 5. -/
import Derived.Test.YtceaodnohnekkaaGreatDoorMK3
import Derived.Test.YtceaodnohnekkaaGreatDoorMK7
namespace Go.Proofs.YtceaodnohnekkaaGreatDoor.Ex
open Go.RowKit
def QC:List (Nat×Nat):=ax (rn 6 337++[322]++rn 7 337++[322,337])
theorem adx:aN (aj ai) 104 5 0 aaf QC=true:=by kernel_rfl
def QB:List (Nat×Nat):=ax (rn 6 337++[322]++rn 7 337++[322,337])
theorem adw:aN (aj ai) 104 5 16 aae QB=true:=by kernel_rfl
def QA:List (Nat×Nat):=ax (rn 6 337++[322]++rn 7 337++[322,337])
theorem adv:aN (aj ai) 104 5 32 aad QA=true:=by kernel_rfl
def Qz:List (Nat×Nat):=ax (rn 6 337++[322]++rn 7 337++[322,337])
theorem adu:aN (aj ai) 104 5 48 aac Qz=true:=by kernel_rfl
def Qy:List (Nat×Nat):=ax (rn 16 370)
theorem adt:aN (aj ai) 104 5 64 aab Qy=true:=by kernel_rfl
def Qx:List (Nat×Nat):=ax (rn 16 370)
theorem ads:aN (aj ai) 104 5 80 aaa Qx=true:=by kernel_rfl
def Qw:List (Nat×Nat):=ax (rn 16 370)
theorem adr:aN (aj ai) 104 5 96 Z9 Qw=true:=by kernel_rfl
def Qv:List (Nat×Nat):=ax (rn 16 370)
theorem adq:aN (aj ai) 104 5 112 Z8 Qv=true:=by kernel_rfl
def Qu:List (Nat×Nat):=ax (rn 6 385++[370]++rn 7 385++[370,385])
theorem adp:aN (aj ai) 104 5 128 Z7 Qu=true:=by kernel_rfl
def Qt:List (Nat×Nat):=ax (rn 6 385++[370]++rn 7 385++[370,385])
theorem ado:aN (aj ai) 104 5 144 Z6 Qt=true:=by kernel_rfl
def Hw:List (Nat×Nat):=ax (rn 6 385++[370]++rn 7 385++[370,385])
theorem V6:aN (aj ai) 104 5 160 Mi Hw=true:=by kernel_rfl
def Hu:List (Nat×Nat):=ax (rn 6 385++[370]++rn 7 385++[370,385])
theorem V5:aN (aj ai) 104 5 176 Mh Hu=true:=by kernel_rfl
def Ht:List (Nat×Nat):=ax (rn 6 385++[370]++rn 7 385++[370,385])
theorem V4:aN (aj ai) 104 5 192 Mg Ht=true:=by kernel_rfl
def Hr:List (Nat×Nat):=ax (rn 6 385++[370]++rn 7 385++[370,385])
theorem V3:aN (aj ai) 104 5 208 Mf Hr=true:=by kernel_rfl
def Hq:List (Nat×Nat):=ax (rn 6 385++[370]++rn 7 385++[370,385])
theorem VZ:aN (aj ai) 104 5 224 Me Hq=true:=by kernel_rfl
def Ho:List (Nat×Nat):=ax (rn 6 385++[370]++rn 7 385++[370,385])
theorem VY:aN (aj ai) 104 5 240 Md Ho=true:=by kernel_rfl
def aiq:List (List (Nat×Nat)):=[QC,QB,QA,Qz,Qy,Qx,Qw,Qv,Qu,Qt,Hw,Hu,Ht,Hr,Hq,Ho]
theorem aoo:zg (aj ai) 104 5 0 od5 aiq:=zy adx (zy adw (zy adv (zy adu (zy adt (zy ads (zy adr (zy adq (zy adp (zy ado (zy V6 (zy V5 (zy V4 (zy V3 (zy VZ (zy VY (trivial))))))))))))))))
end Go.Proofs.YtceaodnohnekkaaGreatDoor.Ex
