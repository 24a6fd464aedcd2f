/- Parts of the proof of TopInstructions. -/
import Derived.Test.YtceaodnohnekkaaGreatDoorMK3
import Derived.Test.YtceaodnohnekkaaGreatDoorMK4
namespace Go.Proofs.YtceaodnohnekkaaGreatDoor.Ex
open Go.RowKit
def Qi:List (Nat×Nat):=rx [639,849,1105,784,785,785,913,703,913,785,1105,784,785,785,913,703]
theorem Za:av (aL S1) 21 0 0 aa3 Qi=true:=by kernel_rfl
def Qh:List (Nat×Nat):=rx [785,849,1105,784,785,785,913,703,785,785,1105,784,785,785,913,703]
theorem Y9:av (aL S1) 21 0 16 aa2 Qh=true:=by kernel_rfl
def Qg:List (Nat×Nat):=rx [913,849,1105,784,785,785,913,703,913,785,1105,784,785,785,913,703]
theorem Y8:av (aL S1) 21 0 32 aa1 Qg=true:=by kernel_rfl
def Qf:List (Nat×Nat):=rx [913,849,1105,784,785,785,913,703,913,785,1105,784,785,785,913,703]
theorem Y7:av (aL S1) 21 0 48 aa0 Qf=true:=by kernel_rfl
def Qe:List (Nat×Nat):=rx (rn 16 593)
theorem Y6:av (aL S1) 21 0 64 aaZ Qe=true:=by kernel_rfl
def Qd:List (Nat×Nat):=rx (rn 16 593)
theorem Y5:av (aL S1) 21 0 80 aaY Qd=true:=by kernel_rfl
def Qc:List (Nat×Nat):=rx (rn 16 593)
theorem Y4:av (aL S1) 21 0 96 aaX Qc=true:=by kernel_rfl
def Qb:List (Nat×Nat):=rx (rn 6 593++[319]++rn 9 593)
theorem Y3:av (aL S1) 21 0 112 aaW Qb=true:=by kernel_rfl
def Qa:List (Nat×Nat):=rx (rn 16 849)
theorem Y1:av (aL S1) 21 0 128 aaV Qa=true:=by kernel_rfl
def P9:List (Nat×Nat):=rx (rn 8 657++rn 8 849)
theorem Y0:av (aL S1) 21 0 144 aaU P9=true:=by kernel_rfl
def G8:List (Nat×Nat):=rx (rn 16 657)
theorem Ul:av (aL S1) 21 0 160 MV G8=true:=by kernel_rfl
def G7:List (Nat×Nat):=rx (rn 16 657)
theorem Uk:av (aL S1) 21 0 176 MU G7=true:=by kernel_rfl
def G6:List (Nat×Nat):=rx [657,657,785,2438,785,657,1041,657,657,1215,785,2495,785,657,1041,657]
theorem Uj:av (aL S1) 21 0 192 MS G6=true:=by kernel_rfl
def G5:List (Nat×Nat):=rx [657,657,785,2439,785,657,849,657,657,1215,785,2441,785,447,1041,657]
theorem Ui:av (aL S1) 21 0 208 MR G5=true:=by kernel_rfl
def GZ:List (Nat×Nat):=rx [657,657,785,2443,785,657,849,657,657,1165,785,2446,785,447,849,657]
theorem Uh:av (aL S1) 21 0 224 MQ GZ=true:=by kernel_rfl
def GY:List (Nat×Nat):=rx [657,657,785,2495,785,657,849,657,657,1168,785,2495,785,447,849,657]
theorem Ug:av (aL S1) 21 0 240 MP GY=true:=by kernel_rfl
def ain:List (List (Nat×Nat)):=[Qi,Qh,Qg,Qf,Qe,Qd,Qc,Qb,Qa,P9,G8,G7,G6,G5,GZ,GY]
theorem amt:ni (aL S1) 21 0 0 od0 ain:=zy Za (zy Y9 (zy Y8 (zy Y7 (zy Y6 (zy Y5 (zy Y4 (zy Y3 (zy Y1 (zy Y0 (zy Ul (zy Uk (zy Uj (zy Ui (zy Uh (zy Ug (trivial))))))))))))))))
def P8:List (Nat×Nat):=rx (rn 16 592)
theorem YZ:av (aL S1) 21 1 0 aaT P8=true:=by kernel_rfl
def P7:List (Nat×Nat):=rx (rn 16 592)
theorem YY:av (aL S1) 21 1 16 aaS P7=true:=by kernel_rfl
def P6:List (Nat×Nat):=rx (rn 16 592)
theorem YX:av (aL S1) 21 1 32 aaR P6=true:=by kernel_rfl
def P5:List (Nat×Nat):=rx (rn 16 592)
theorem YW:av (aL S1) 21 1 48 aaQ P5=true:=by kernel_rfl
def PZ:List (Nat×Nat):=rx (rn 16 657)
theorem YV:av (aL S1) 21 1 64 aaP PZ=true:=by kernel_rfl
def PY:List (Nat×Nat):=rx (rn 16 657)
theorem YU:av (aL S1) 21 1 80 aaO PY=true:=by kernel_rfl
def PX:List (Nat×Nat):=rx (rn 16 657)
theorem YT:av (aL S1) 21 1 96 aaN PX=true:=by kernel_rfl
def PW:List (Nat×Nat):=rx (rn 16 657)
theorem YS:av (aL S1) 21 1 112 aaM PW=true:=by kernel_rfl
def PV:List (Nat×Nat):=rx (rn 16 657)
theorem YR:av (aL S1) 21 1 128 aaL PV=true:=by kernel_rfl
def PU:List (Nat×Nat):=rx (rn 16 657)
theorem YQ:av (aL S1) 21 1 144 aaK PU=true:=by kernel_rfl
def GX:List (Nat×Nat):=rx (rn 16 657)
theorem Uf:av (aL S1) 21 1 160 MO GX=true:=by kernel_rfl
def GV:List (Nat×Nat):=rx (rn 16 657)
theorem Ue:av (aL S1) 21 1 176 MN GV=true:=by kernel_rfl
def GU:List (Nat×Nat):=rx (rn 16 657)
theorem Ud:av (aL S1) 21 1 192 MM GU=true:=by kernel_rfl
def GR:List (Nat×Nat):=rx (rn 16 657)
theorem Uc:av (aL S1) 21 1 208 ML GR=true:=by kernel_rfl
def GQ:List (Nat×Nat):=rx (rn 16 657)
theorem Ub:av (aL S1) 21 1 224 MK GQ=true:=by kernel_rfl
def GN:List (Nat×Nat):=rx (rn 16 657)
theorem Ua:av (aL S1) 21 1 240 MJ GN=true:=by kernel_rfl
def aim:List (List (Nat×Nat)):=[P8,P7,P6,P5,PZ,PY,PX,PW,PV,PU,GX,GV,GU,GR,GQ,GN]
theorem ams:ni (aL S1) 21 1 0 od1 aim:=zy YZ (zy YY (zy YX (zy YW (zy YV (zy YU (zy YT (zy YS (zy YR (zy YQ (zy Uf (zy Ue (zy Ud (zy Uc (zy Ub (zy Ua (trivial))))))))))))))))
def PT:List (Nat×Nat):=rx (rn 16 255)
theorem YP:av (aL S1) 21 2 0 aaJ PT=true:=by kernel_rfl
def PS:List (Nat×Nat):=rx (rn 16 255)
theorem YO:av (aL S1) 21 2 16 aaI PS=true:=by kernel_rfl
def PR:List (Nat×Nat):=rx (rn 16 255)
theorem YN:av (aL S1) 21 2 32 aaH PR=true:=by kernel_rfl
def PQ:List (Nat×Nat):=rx (rn 16 255)
theorem YM:av (aL S1) 21 2 48 aaG PQ=true:=by kernel_rfl
def PO:List (Nat×Nat):=rx [849,849,784,785,575,575,785,1992,849,849,784,785,575,575,785,1994]
theorem YL:av (aL S1) 21 2 64 aaF PO=true:=by kernel_rfl
def PN:List (Nat×Nat):=rx [849,849,784,785,575,575,785,1996,849,849,784,785,575,575,785,1999]
theorem YK:av (aL S1) 21 2 80 aaE PN=true:=by kernel_rfl
def PM:List (Nat×Nat):=rx [849,849,784,785,575,575,785,2047,849,849,784,785,575,575,785,2047]
theorem YJ:av (aL S1) 21 2 96 aaD PM=true:=by kernel_rfl
def PL:List (Nat×Nat):=rx [721,849,784,785,575,575,785,2047,849,849,784,785,575,575,785,2047]
theorem YI:av (aL S1) 21 2 112 aaC PL=true:=by kernel_rfl
def PK:List (Nat×Nat):=rx (rn 16 255)
theorem YH:av (aL S1) 21 2 128 aaB PK=true:=by kernel_rfl
def PI:List (Nat×Nat):=rx (rn 16 255)
theorem YG:av (aL S1) 21 2 144 aaA PI=true:=by kernel_rfl
def GM:List (Nat×Nat):=rx [639,639,639,639,255,255,255,255,639,639,639,639,255,255,255,255]
theorem T9:av (aL S1) 21 2 160 MI GM=true:=by kernel_rfl
def GL:List (Nat×Nat):=rx [639,639,639,639,255,255,255,255,639,639,639,639,255,255,255,255]
theorem TZ:av (aL S1) 21 2 176 MH GL=true:=by kernel_rfl
def GK:List (Nat×Nat):=rx (rn 16 255)
theorem TY:av (aL S1) 21 2 192 MG GK=true:=by kernel_rfl
def GJ:List (Nat×Nat):=rx (rn 16 255)
theorem TW:av (aL S1) 21 2 208 MF GJ=true:=by kernel_rfl
def GI:List (Nat×Nat):=rx (rn 16 255)
theorem TV:av (aL S1) 21 2 224 MC GI=true:=by kernel_rfl
def GH:List (Nat×Nat):=rx (rn 16 255)
theorem TU:av (aL S1) 21 2 240 MB GH=true:=by kernel_rfl
def ail:List (List (Nat×Nat)):=[PT,PS,PR,PQ,PO,PN,PM,PL,PK,PI,GM,GL,GK,GJ,GI,GH]
theorem amr:ni (aL S1) 21 2 0 od2 ail:=zy YP (zy YO (zy YN (zy YM (zy YL (zy YK (zy YJ (zy YI (zy YH (zy YG (zy T9 (zy TZ (zy TY (zy TW (zy TV (zy TU (trivial))))))))))))))))
def PH:List (Nat×Nat):=rx [959,1663,1919,1407,1407,1407,1727,1023,1727,1984,1919,1407,1407,1407,1727,1023]
theorem YF:av (aL S1) 21 3 0 aaz PH=true:=by kernel_rfl
def PG:List (Nat×Nat):=rx [1407,1663,1919,1407,1407,1407,1727,1023,1407,1984,1919,1407,1407,1407,1727,1023]
theorem YE:av (aL S1) 21 3 16 aay PG=true:=by kernel_rfl
def PE:List (Nat×Nat):=rx [1727,2048,2304,1794,1794,1794,2112,1023,1727,1921,2304,1794,1794,1794,2112,1023]
theorem YD:av (aL S1) 21 3 32 aax PE=true:=by kernel_rfl
def PD:List (Nat×Nat):=rx [1727,1663,1919,1407,1220,1220,1348,1023,1727,1984,1919,1407,1407,1407,1727,1023]
theorem YC:av (aL S1) 21 3 48 aaw PD=true:=by kernel_rfl
def Pz:List (Nat×Nat):=rx [1407,1407,1407,1407,1792,1792,1091,1407,1407,1407,1407,1407,1792,1792,1091,1407]
theorem YB:av (aL S1) 21 3 64 aav Pz=true:=by kernel_rfl
def Py:List (Nat×Nat):=rx [1407,1407,1407,1407,1792,1792,1091,1407,1407,1407,1407,1407,1792,1792,1091,1407]
theorem YA:av (aL S1) 21 3 80 aau Py=true:=by kernel_rfl
def Px:List (Nat×Nat):=rx [1792,1792,1792,1792,1729,1729,1091,1792,1792,1792,1792,1792,1729,1729,1091,1792]
theorem Yz:av (aL S1) 21 3 96 aat Px=true:=by kernel_rfl
def Pw:List (Nat×Nat):=rx (rn 6 1028++[639,1028,1407,1407,1407,1407,1792,1792,1091,1407])
theorem Yy:av (aL S1) 21 3 112 aas Pw=true:=by kernel_rfl
def Pv:List (Nat×Nat):=rx [1663,1663,1663,1663,2048,2048,1347,1663,1663,1663,1663,1663,2048,2048,1347,1663]
theorem Yx:av (aL S1) 21 3 128 aar Pv=true:=by kernel_rfl
def Pt:List (Nat×Nat):=rx [1279,1279,1279,1279,1666,1666,1092,1279,1663,1663,1663,1663,2048,2048,1347,1663]
theorem Yw:av (aL S1) 21 3 144 aaq Pt=true:=by kernel_rfl
def GG:List (Nat×Nat):=rx [1279,1279,1279,1279,1666,1666,1092,1279,1279,1279,1279,1279,1666,1666,1092,1279]
theorem TS:av (aL S1) 21 3 160 Mx GG=true:=by kernel_rfl
def GD:List (Nat×Nat):=rx [1279,1279,1279,1279,1666,1666,1092,1279,1279,1279,1279,1279,1666,1666,1092,1279]
theorem TR:av (aL S1) 21 3 176 Mw GD=true:=by kernel_rfl
def GA:List (Nat×Nat):=rx [1279,1279,1471,3007,1599,1279,1855,1279,1279,1535,1471,191,1599,1279,1855,1279]
theorem TQ:av (aL S1) 21 3 192 Mv GA=true:=by kernel_rfl
def Gz:List (Nat×Nat):=rx [1279,1279,1471,3263,1599,1279,1471,1279,1279,1535,1471,3263,1599,767,1855,1279]
theorem TP:av (aL S1) 21 3 208 Mt Gz=true:=by kernel_rfl
def Gy:List (Nat×Nat):=rx [1279,1666,1471,3648,1599,1666,1471,1279,1279,2178,1471,3711,1599,767,1471,1279]
theorem TN:av (aL S1) 21 3 224 Ms Gy=true:=by kernel_rfl
def Gx:List (Nat×Nat):=rx [1279,1279,1471,2815,1599,1279,1471,1279,1279,2368,1471,2815,1599,767,1471,1279]
theorem TM:av (aL S1) 21 3 240 Mr Gx=true:=by kernel_rfl
def aik:List (List (Nat×Nat)):=[PH,PG,PE,PD,Pz,Py,Px,Pw,Pv,Pt,GG,GD,GA,Gz,Gy,Gx]
theorem amq:ni (aL S1) 21 3 0 od3 aik:=zy YF (zy YE (zy YD (zy YC (zy YB (zy YA (zy Yz (zy Yy (zy Yx (zy Yw (zy TS (zy TR (zy TQ (zy TP (zy TN (zy TM (trivial))))))))))))))))
end Go.Proofs.YtceaodnohnekkaaGreatDoor.Ex
