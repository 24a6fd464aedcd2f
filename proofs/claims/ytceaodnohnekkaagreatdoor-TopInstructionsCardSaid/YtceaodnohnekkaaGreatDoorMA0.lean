/- Parts of the proof of TopInstructions. -/
import Derived.Test.YtceaodnohnekkaaGreatDoorMK3
import Derived.Test.YtceaodnohnekkaaGreatDoorMK7
namespace Go.Proofs.YtceaodnohnekkaaGreatDoor.Ex
open Go.RowKit
def Rv:List (Nat×Nat):=ax [119,345,433,297,297,297,345,119,409,441,433,297,313,313,361,119]
theorem aem:aN (aj ai) 104 0 0 aa3 Rv=true:=by kernel_rfl
def Ru:List (Nat×Nat):=ax [169,345,433,297,297,297,345,119,169,441,433,297,297,297,345,119]
theorem ael:aN (aj ai) 104 0 16 aa2 Ru=true:=by kernel_rfl
def Rt:List (Nat×Nat):=ax [217,345,297,297,297,297,345,119,217,441,297,297,297,297,345,119]
theorem aek:aN (aj ai) 104 0 32 aa1 Rt=true:=by kernel_rfl
def Rs:List (Nat×Nat):=ax [217,345,313,297,305,305,353,119,217,441,313,297,297,297,345,119]
theorem aej:aN (aj ai) 104 0 48 aa0 Rs=true:=by kernel_rfl
def Rq:List (Nat×Nat):=ax [473,489,473,473,473,473,481,473,489,505,489,489,489,489,497,489]
theorem aei:aN (aj ai) 104 0 64 aaZ Rq=true:=by kernel_rfl
def Rp:List (Nat×Nat):=ax [473,489,473,473,473,473,481,473,473,489,473,473,473,473,481,473]
theorem aeh:aN (aj ai) 104 0 80 aaY Rp=true:=by kernel_rfl
def Ro:List (Nat×Nat):=ax [473,489,473,473,473,473,481,473,473,489,473,473,473,473,481,473]
theorem aeg:aN (aj ai) 104 0 96 aaX Ro=true:=by kernel_rfl
def Rn:List (Nat×Nat):=ax [481,497,481,481,481,481,119,481,473,489,473,473,473,473,481,473]
theorem aef:aN (aj ai) 104 0 112 aaW Rn=true:=by kernel_rfl
def Rm:List (Nat×Nat):=ax [457,473,457,457,457,457,465,457,457,473,457,457,457,457,465,457]
theorem aee:aN (aj ai) 104 0 128 aaV Rm=true:=by kernel_rfl
def Rl:List (Nat×Nat):=ax [297,313,297,297,297,297,305,297,457,473,457,457,457,457,465,457]
theorem aed:aN (aj ai) 104 0 144 aaU Rl=true:=by kernel_rfl
def IM:List (Nat×Nat):=ax [297,313,297,297,297,297,305,297,297,313,297,297,297,297,305,297]
theorem WN:aN (aj ai) 104 0 160 MV IM=true:=by kernel_rfl
def IL:List (Nat×Nat):=ax [297,313,297,297,297,297,305,297,297,313,297,297,297,297,305,297]
theorem WM:aN (aj ai) 104 0 176 MU IL=true:=by kernel_rfl
def IK:List (Nat×Nat):=ax [169,297,217,169,217,297,329,169,169,119,217,79,217,169,329,169]
theorem WK:aN (aj ai) 104 0 192 MS IK=true:=by kernel_rfl
def IJ:List (Nat×Nat):=ax [169,297,217,313,217,297,169,169,169,119,217,313,217,79,329,169]
theorem WJ:aN (aj ai) 104 0 208 MR IJ=true:=by kernel_rfl
def II:List (Nat×Nat):=ax [169,297,217,417,217,297,169,169,169,273,217,409,217,79,169,169]
theorem WI:aN (aj ai) 104 0 224 MQ II=true:=by kernel_rfl
def IG:List (Nat×Nat):=ax [169,297,217,119,217,297,169,169,169,409,217,119,217,79,169,169]
theorem WH:aN (aj ai) 104 0 240 MP IG=true:=by kernel_rfl
def aiv:List (List (Nat×Nat)):=[Rv,Ru,Rt,Rs,Rq,Rp,Ro,Rn,Rm,Rl,IM,IL,IK,IJ,II,IG]
theorem aot:zg (aj ai) 104 0 0 od0 aiv:=zy aem (zy ael (zy aek (zy aej (zy aei (zy aeh (zy aeg (zy aef (zy aee (zy aed (zy WN (zy WM (zy WK (zy WJ (zy WI (zy WH (trivial))))))))))))))))
def Q8:List (Nat×Nat):=ax (rn 16 79)
theorem ad2:aN (aj ai) 104 2 0 aaJ Q8=true:=by kernel_rfl
def Q7:List (Nat×Nat):=ax (rn 16 79)
theorem ad1:aN (aj ai) 104 2 16 aaI Q7=true:=by kernel_rfl
def Q6:List (Nat×Nat):=ax (rn 16 79)
theorem adZ:aN (aj ai) 104 2 32 aaH Q6=true:=by kernel_rfl
def Q5:List (Nat×Nat):=ax (rn 16 79)
theorem adY:aN (aj ai) 104 2 48 aaG Q5=true:=by kernel_rfl
def Q4:List (Nat×Nat):=ax [465,465,441,329,119,119,161,441,481,481,441,329,119,119,161,441]
theorem adX:aN (aj ai) 104 2 64 aaF Q4=true:=by kernel_rfl
def Q3:List (Nat×Nat):=ax [465,465,441,329,119,119,161,441,465,465,441,329,119,119,161,441]
theorem adW:aN (aj ai) 104 2 80 aaE Q3=true:=by kernel_rfl
def Q0:List (Nat×Nat):=ax [465,465,441,297,119,119,161,119,465,465,441,297,119,119,161,119]
theorem adV:aN (aj ai) 104 2 96 aaD Q0=true:=by kernel_rfl
def QZ:List (Nat×Nat):=ax [289,329,441,329,119,119,161,79,465,465,441,329,119,119,161,79]
theorem adU:aN (aj ai) 104 2 112 aaC QZ=true:=by kernel_rfl
def QY:List (Nat×Nat):=ax (rn 16 79)
theorem adT:aN (aj ai) 104 2 128 aaB QY=true:=by kernel_rfl
def QX:List (Nat×Nat):=ax (rn 16 79)
theorem adS:aN (aj ai) 104 2 144 aaA QX=true:=by kernel_rfl
def Iw:List (Nat×Nat):=ax [119,119,119,119,79,79,79,79,119,119,119,119,79,79,79,79]
theorem Wx:aN (aj ai) 104 2 160 MI Iw=true:=by kernel_rfl
def Iu:List (Nat×Nat):=ax [119,119,119,119,79,79,79,79,119,119,119,119,79,79,79,79]
theorem Ww:aN (aj ai) 104 2 176 MH Iu=true:=by kernel_rfl
def Ir:List (Nat×Nat):=ax (rn 16 79)
theorem Wv:aN (aj ai) 104 2 192 MG Ir=true:=by kernel_rfl
def Iq:List (Nat×Nat):=ax (rn 16 79)
theorem Wu:aN (aj ai) 104 2 208 MF Iq=true:=by kernel_rfl
def Ip:List (Nat×Nat):=ax (rn 16 79)
theorem Wt:aN (aj ai) 104 2 224 MC Ip=true:=by kernel_rfl
def Io:List (Nat×Nat):=ax (rn 16 79)
theorem Wq:aN (aj ai) 104 2 240 MB Io=true:=by kernel_rfl
def ait:List (List (Nat×Nat)):=[Q8,Q7,Q6,Q5,Q4,Q3,Q0,QZ,QY,QX,Iw,Iu,Ir,Iq,Ip,Io]
theorem aor:zg (aj ai) 104 2 0 od2 ait:=zy ad2 (zy ad1 (zy adZ (zy adY (zy adX (zy adW (zy adV (zy adU (zy adT (zy adS (zy Wx (zy Ww (zy Wv (zy Wu (zy Wt (zy Wq (trivial))))))))))))))))
end Go.Proofs.YtceaodnohnekkaaGreatDoor.Ex
