/- What table.At answers: page 6. -/
import Derived.Test.YtceaodnohnekkaaGreatDoorMK3
import Derived.Test.YtceaodnohnekkaaGreatDoorMK7
namespace Go.Proofs.YtceaodnohnekkaaGreatDoor.Ex
open Go.RowKit
def Qs:List (Nat×Nat):=ax (rn 6 337++[322]++rn 7 337++[322,337])
theorem adn:aN (aj ai) 104 6 0 Z5 Qs=true:=by kernel_rfl
def Qr:List (Nat×Nat):=ax (rn 6 337++[322]++rn 7 337++[322,337])
theorem adm:aN (aj ai) 104 6 16 Z4 Qr=true:=by kernel_rfl
def Qq:List (Nat×Nat):=ax (rn 6 337++[322]++rn 7 337++[322,337])
theorem adl:aN (aj ai) 104 6 32 Z0 Qq=true:=by kernel_rfl
def Qp:List (Nat×Nat):=ax (rn 6 337++[322]++rn 7 337++[322,337])
theorem adk:aN (aj ai) 104 6 48 ZZ Qp=true:=by kernel_rfl
def Qo:List (Nat×Nat):=ax (rn 16 370)
theorem adj:aN (aj ai) 104 6 64 ZY Qo=true:=by kernel_rfl
def Qn:List (Nat×Nat):=ax (rn 16 370)
theorem adi:aN (aj ai) 104 6 80 ZX Qn=true:=by kernel_rfl
def Qm:List (Nat×Nat):=ax (rn 16 370)
theorem adh:aN (aj ai) 104 6 96 ZW Qm=true:=by kernel_rfl
def Ql:List (Nat×Nat):=ax (rn 16 370)
theorem adg:aN (aj ai) 104 6 112 ZV Ql=true:=by kernel_rfl
def Qk:List (Nat×Nat):=ax (rn 6 385++[370]++rn 7 385++[370,385])
theorem adf:aN (aj ai) 104 6 128 ZU Qk=true:=by kernel_rfl
def Qj:List (Nat×Nat):=ax (rn 6 385++[370]++rn 7 385++[370,385])
theorem ade:aN (aj ai) 104 6 144 ZT Qj=true:=by kernel_rfl
def Hm:List (Nat×Nat):=ax (rn 6 385++[370]++rn 7 385++[370,385])
theorem VX:aN (aj ai) 104 6 160 Mc Hm=true:=by kernel_rfl
def Hg:List (Nat×Nat):=ax (rn 6 385++[370]++rn 7 385++[370,385])
theorem VW:aN (aj ai) 104 6 176 Ma Hg=true:=by kernel_rfl
def Hf:List (Nat×Nat):=ax (rn 6 385++[370]++rn 7 385++[370,385])
theorem VV:aN (aj ai) 104 6 192 L9 Hf=true:=by kernel_rfl
def He:List (Nat×Nat):=ax (rn 6 385++[370]++rn 7 385++[370,385])
theorem VU:aN (aj ai) 104 6 208 L8 He=true:=by kernel_rfl
def Ha:List (Nat×Nat):=ax (rn 6 385++[370]++rn 7 385++[370,385])
theorem VT:aN (aj ai) 104 6 224 LZ Ha=true:=by kernel_rfl
def G9:List (Nat×Nat):=ax (rn 6 385++[370]++rn 7 385++[370,385])
theorem VS:aN (aj ai) 104 6 240 LY G9=true:=by kernel_rfl
def aip:List (List (Nat×Nat)):=[Qs,Qr,Qq,Qp,Qo,Qn,Qm,Ql,Qk,Qj,Hm,Hg,Hf,He,Ha,G9]
theorem aon:zg (aj ai) 104 6 0 od6 aip:=zy adn (zy adm (zy adl (zy adk (zy adj (zy adi (zy adh (zy adg (zy adf (zy ade (zy VX (zy VW (zy VV (zy VU (zy VT (zy VS (trivial))))))))))))))))
end Go.Proofs.YtceaodnohnekkaaGreatDoor.Ex
