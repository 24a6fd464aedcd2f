/- Parts of the proof of TopInstructions. -/
import Derived.Test.YtceaodnohnekkaaGreatDoorMK3
import Derived.Test.YtceaodnohnekkaaGreatDoorMK4
namespace Go.Proofs.YtceaodnohnekkaaGreatDoor.Ex
open Go.RowKit
def Ps:List (Nat×Nat):=rx [959,1663,1919,1407,1407,1407,1727,1023,1727,1984,1919,1407,1407,1407,1727,1023]
theorem Yv:av (aL S1) 21 4 0 aap Ps=true:=by kernel_rfl
def Pq:List (Nat×Nat):=rx [1407,1663,1919,1407,1407,1407,1727,1023,1407,1984,1919,1407,1407,1407,1727,1023]
theorem Yu:av (aL S1) 21 4 16 aao Pq=true:=by kernel_rfl
def Pp:List (Nat×Nat):=rx [1727,2048,2304,1794,1794,1794,2112,1023,1727,1921,2304,1794,1794,1794,2112,1023]
theorem Yt:av (aL S1) 21 4 32 aan Pp=true:=by kernel_rfl
def Po:List (Nat×Nat):=rx [1727,1663,1919,1407,1220,1220,1348,1023,1727,1984,1919,1407,1407,1407,1727,1023]
theorem Yr:av (aL S1) 21 4 48 aam Po=true:=by kernel_rfl
def Pn:List (Nat×Nat):=rx [1407,1407,1407,1407,1792,1792,1091,1407,1407,1407,1407,1407,1792,1792,1091,1407]
theorem Yq:av (aL S1) 21 4 64 aal Pn=true:=by kernel_rfl
def Pm:List (Nat×Nat):=rx [1407,1407,1407,1407,1792,1792,1091,1407,1407,1407,1407,1407,1792,1792,1091,1407]
theorem Yp:av (aL S1) 21 4 80 aak Pm=true:=by kernel_rfl
def Pk:List (Nat×Nat):=rx [1792,1792,1792,1792,1729,1729,1091,1792,1792,1792,1792,1792,1729,1729,1091,1792]
theorem Yo:av (aL S1) 21 4 96 aaj Pk=true:=by kernel_rfl
def Pj:List (Nat×Nat):=rx (rn 6 1028++[639,1028,1407,1407,1407,1407,1792,1792,1091,1407])
theorem Yn:av (aL S1) 21 4 112 aai Pj=true:=by kernel_rfl
def Ph:List (Nat×Nat):=rx [1663,1663,1663,1663,2048,2048,1347,1663,1663,1663,1663,1663,2048,2048,1347,1663]
theorem Ym:av (aL S1) 21 4 128 aah Ph=true:=by kernel_rfl
def Pg:List (Nat×Nat):=rx [1279,1279,1279,1279,1666,1666,1092,1279,1663,1663,1663,1663,2048,2048,1347,1663]
theorem Yl:av (aL S1) 21 4 144 aag Pg=true:=by kernel_rfl
def Gw:List (Nat×Nat):=rx [1279,1279,1279,1279,1666,1666,1092,1279,1279,1279,1279,1279,1666,1666,1092,1279]
theorem TL:av (aL S1) 21 4 160 Mq Gw=true:=by kernel_rfl
def Gv:List (Nat×Nat):=rx [1279,1279,1279,1279,1666,1666,1092,1279,1279,1279,1279,1279,1666,1666,1092,1279]
theorem TJ:av (aL S1) 21 4 176 Mo Gv=true:=by kernel_rfl
def Gu:List (Nat×Nat):=rx [1279,1279,1471,3007,1599,1279,1855,1279,1279,1535,1471,191,1599,1279,1855,1279]
theorem TI:av (aL S1) 21 4 192 Mm Gu=true:=by kernel_rfl
def Gt:List (Nat×Nat):=rx [1279,1279,1471,3263,1599,1279,1471,1279,1279,1535,1471,3263,1599,767,1855,1279]
theorem TH:av (aL S1) 21 4 208 Ml Gt=true:=by kernel_rfl
def Gs:List (Nat×Nat):=rx [1279,1666,1471,3648,1599,1666,1471,1279,1279,2178,1471,3711,1599,767,1471,1279]
theorem TG:av (aL S1) 21 4 224 Mk Gs=true:=by kernel_rfl
def Gq:List (Nat×Nat):=rx [1279,1279,1471,2815,1599,1279,1471,1279,1279,2368,1471,2815,1599,767,1471,1279]
theorem TF:av (aL S1) 21 4 240 Mj Gq=true:=by kernel_rfl
def aij:List (List (Nat×Nat)):=[Ps,Pq,Pp,Po,Pn,Pm,Pk,Pj,Ph,Pg,Gw,Gv,Gu,Gt,Gs,Gq]
theorem amo:ni (aL S1) 21 4 0 od4 aij:=zy Yv (zy Yu (zy Yt (zy Yr (zy Yq (zy Yp (zy Yo (zy Yn (zy Ym (zy Yl (zy TL (zy TJ (zy TI (zy TH (zy TG (zy TF (trivial))))))))))))))))
def Pf:List (Nat×Nat):=rx (rn 6 837++[656]++rn 7 837++[656,837])
theorem Yk:av (aL S1) 21 5 0 aaf Pf=true:=by kernel_rfl
def Pe:List (Nat×Nat):=rx (rn 6 837++[656]++rn 7 837++[656,837])
theorem Yj:av (aL S1) 21 5 16 aae Pe=true:=by kernel_rfl
def Pd:List (Nat×Nat):=rx (rn 6 837++[656]++rn 7 837++[656,837])
theorem Yi:av (aL S1) 21 5 32 aad Pd=true:=by kernel_rfl
def Pb:List (Nat×Nat):=rx (rn 6 837++[656]++rn 7 837++[656,837])
theorem Yh:av (aL S1) 21 5 48 aac Pb=true:=by kernel_rfl
def O9:List (Nat×Nat):=rx (rn 16 721)
theorem Yg:av (aL S1) 21 5 64 aab O9=true:=by kernel_rfl
def O8:List (Nat×Nat):=rx (rn 16 721)
theorem Yf:av (aL S1) 21 5 80 aaa O8=true:=by kernel_rfl
def O7:List (Nat×Nat):=rx (rn 16 721)
theorem Ye:av (aL S1) 21 5 96 Z9 O7=true:=by kernel_rfl
def O6:List (Nat×Nat):=rx (rn 16 721)
theorem Yd:av (aL S1) 21 5 112 Z8 O6=true:=by kernel_rfl
def O5:List (Nat×Nat):=rx (rn 6 901++[721]++rn 7 901++[721,901])
theorem Yc:av (aL S1) 21 5 128 Z7 O5=true:=by kernel_rfl
def O4:List (Nat×Nat):=rx (rn 6 901++[721]++rn 7 901++[721,901])
theorem Yb:av (aL S1) 21 5 144 Z6 O4=true:=by kernel_rfl
def Gp:List (Nat×Nat):=rx (rn 6 901++[721]++rn 7 901++[721,901])
theorem TE:av (aL S1) 21 5 160 Mi Gp=true:=by kernel_rfl
def Gn:List (Nat×Nat):=rx (rn 6 901++[721]++rn 7 901++[721,901])
theorem TD:av (aL S1) 21 5 176 Mh Gn=true:=by kernel_rfl
def Gm:List (Nat×Nat):=rx (rn 6 901++[721]++rn 7 901++[721,901])
theorem TC:av (aL S1) 21 5 192 Mg Gm=true:=by kernel_rfl
def Gl:List (Nat×Nat):=rx (rn 6 901++[721]++rn 7 901++[721,901])
theorem TB:av (aL S1) 21 5 208 Mf Gl=true:=by kernel_rfl
def Gj:List (Nat×Nat):=rx (rn 6 901++[721]++rn 7 901++[721,901])
theorem TA:av (aL S1) 21 5 224 Me Gj=true:=by kernel_rfl
def Gi:List (Nat×Nat):=rx (rn 6 901++[721]++rn 7 901++[721,901])
theorem Tz:av (aL S1) 21 5 240 Md Gi=true:=by kernel_rfl
def aii:List (List (Nat×Nat)):=[Pf,Pe,Pd,Pb,O9,O8,O7,O6,O5,O4,Gp,Gn,Gm,Gl,Gj,Gi]
theorem amn:ni (aL S1) 21 5 0 od5 aii:=zy Yk (zy Yj (zy Yi (zy Yh (zy Yg (zy Yf (zy Ye (zy Yd (zy Yc (zy Yb (zy TE (zy TD (zy TC (zy TB (zy TA (zy Tz (trivial))))))))))))))))
def O3:List (Nat×Nat):=rx (rn 6 837++[656]++rn 7 837++[656,837])
theorem Ya:av (aL S1) 21 6 0 Z5 O3=true:=by kernel_rfl
def O1:List (Nat×Nat):=rx (rn 6 837++[656]++rn 7 837++[656,837])
theorem X9:av (aL S1) 21 6 16 Z4 O1=true:=by kernel_rfl
def O0:List (Nat×Nat):=rx (rn 6 837++[656]++rn 7 837++[656,837])
theorem X8:av (aL S1) 21 6 32 Z0 O0=true:=by kernel_rfl
def OZ:List (Nat×Nat):=rx (rn 6 837++[656]++rn 7 837++[656,837])
theorem X7:av (aL S1) 21 6 48 ZZ OZ=true:=by kernel_rfl
def OY:List (Nat×Nat):=rx (rn 16 721)
theorem X6:av (aL S1) 21 6 64 ZY OY=true:=by kernel_rfl
def OX:List (Nat×Nat):=rx (rn 16 721)
theorem X5:av (aL S1) 21 6 80 ZX OX=true:=by kernel_rfl
def OW:List (Nat×Nat):=rx (rn 16 721)
theorem X4:av (aL S1) 21 6 96 ZW OW=true:=by kernel_rfl
def OV:List (Nat×Nat):=rx (rn 16 721)
theorem X3:av (aL S1) 21 6 112 ZV OV=true:=by kernel_rfl
def OU:List (Nat×Nat):=rx (rn 6 901++[721]++rn 7 901++[721,901])
theorem X0:av (aL S1) 21 6 128 ZU OU=true:=by kernel_rfl
def OT:List (Nat×Nat):=rx (rn 6 901++[721]++rn 7 901++[721,901])
theorem XZ:av (aL S1) 21 6 144 ZT OT=true:=by kernel_rfl
def Gh:List (Nat×Nat):=rx (rn 6 901++[721]++rn 7 901++[721,901])
theorem Ty:av (aL S1) 21 6 160 Mc Gh=true:=by kernel_rfl
def Gg:List (Nat×Nat):=rx (rn 6 901++[721]++rn 7 901++[721,901])
theorem Tx:av (aL S1) 21 6 176 Ma Gg=true:=by kernel_rfl
def Gf:List (Nat×Nat):=rx (rn 6 901++[721]++rn 7 901++[721,901])
theorem Tw:av (aL S1) 21 6 192 L9 Gf=true:=by kernel_rfl
def Gd:List (Nat×Nat):=rx (rn 6 901++[721]++rn 7 901++[721,901])
theorem Tv:av (aL S1) 21 6 208 L8 Gd=true:=by kernel_rfl
def Gc:List (Nat×Nat):=rx (rn 6 901++[721]++rn 7 901++[721,901])
theorem Tq:av (aL S1) 21 6 224 LZ Gc=true:=by kernel_rfl
def Gb:List (Nat×Nat):=rx (rn 6 901++[721]++rn 7 901++[721,901])
theorem Tp:av (aL S1) 21 6 240 LY Gb=true:=by kernel_rfl
def aih:List (List (Nat×Nat)):=[O3,O1,O0,OZ,OY,OX,OW,OV,OU,OT,Gh,Gg,Gf,Gd,Gc,Gb]
theorem amm:ni (aL S1) 21 6 0 od6 aih:=zy Ya (zy X9 (zy X8 (zy X7 (zy X6 (zy X5 (zy X4 (zy X3 (zy X0 (zy XZ (zy Ty (zy Tx (zy Tw (zy Tv (zy Tq (zy Tp (trivial))))))))))))))))
end Go.Proofs.YtceaodnohnekkaaGreatDoor.Ex
