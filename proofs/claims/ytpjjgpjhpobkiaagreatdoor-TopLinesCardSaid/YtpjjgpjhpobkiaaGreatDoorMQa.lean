/- Parts of the proof of TopLines. -/
import Derived.Test.YtpjjgpjhpobkiaaGreatDoorMK7
set_option maxHeartbeats 0
set_option maxRecDepth 100000
namespace Go.Proofs.YtpjjgpjhpobkiaaGreatDoor
namespace Ex
open Go.RowKit
def abx (b n:Nat)(bl:List (Nat×aF))(gl:List (Nat×List Value)):Option (AV×AW)→Bool
 |some (.map c,W)=>cond (Nat.beq c b) (cond (Nat.beq W.nx n) (cond (Q0 W.bl bl) (match W.az with|[]=>VN W.gl gl|_=>false) false) false) false
 |_=>false
theorem OA {b n:Nat}{bl:List (Nat×aF)}{gl:List (Nat×List Value)}{r:Option (AV×AW)}(h:abx b n bl gl r=true):r=some (.map b,⟨n,bl,[],gl⟩):=by
 unfold abx at h;split at h
 case h_2=>cases h
 case h_1 c W=>
 cases h1:Nat.beq c b with
 |false=>rw[h1] at h;cases h
 |true=>
 cases h2:Nat.beq W.nx n with
 |false=>rw[h1,h2] at h;cases h
 |true=>
 cases h3:Q0 W.bl bl with
 |false=>rw[h1,h2,h3] at h;cases h
 |true=>
 rw[h1,h2,h3] at h;simp only[cond_true] at h;obtain⟨nx,wbl,az,wgl⟩:=W;dsimp only at h h2 h3;split at h
 case h_2=>cases h
 case h_1=>
 rw[(beq_iff _ _).1 h1,(beq_iff _ _).1 h2,KL h3,rY h]
theorem Me:abx 0 2 RQ bE (dx SAt 94 [] ⟨0,[],[],bE⟩)=true:=by kernel_rfl
def ahs:BP
 |[]=>some (.map 0,⟨2,RQ,[],bE⟩)
 |_=>none
theorem ac9:ai Tryz.prog (eH bE 94 ahs):=M0 (aT fB KU) bE _ _ fun args v W h=>by
 unfold ahs at h;split at h
 case h_2=>cases h
 case h_1=>
 obtain⟨rfl,rfl⟩:=zm (zq h);exact⟨rfl,OA Me⟩
def SSet:aj:=qX (eH bE 94 ahs) SAt
theorem afD:ai Tryz.prog SSet:=bN ac9 KU
theorem adX:Ev (dx SAt) bE 182 ain=true:=by kernel_rfl
theorem adY:Ev (dx SAt) bE 182 aio=true:=by kernel_rfl
theorem ami:([ain,aio].all (Ev (dx SAt) bE 182))=true:=by
 simp only[List.all_cons,List.all_nil,adX,adY,Bool.and_self]
def SNm:aj:=qX (aad bE 182 [ain,aio]) SSet
theorem Fq:ai Tryz.prog SNm:=bN (J8 (aT fB KU) bE _ _ ami) afD
def cwS:{l:List gy // l=([dc 0x53554220414e4420584f52204f52204350,dc 0x4144442041444320534243,dc 0x424954205245532053455420494d20525354204f5554,dc 0x4a502043414c4c].map fun s=>[[76,68],[74,82]].map fun t=>([.str s,.str t],.bool false,1,[])).flatten}:=⟨_,by conv=>rhs;reduce⟩
theorem Ko:(cwS.1.all (di (dx SNm) bE 170))=true:=iM (k:=2) (n:=4) ⟨zt,zt,zt,zt,trivial⟩ zz
def onE (r:Nat)(s:List Nat):gy:=([.str s],.slice 0 0 0 1 none,1,[(0,.cells [.int .i64 (.ofNat 3),.int .i64 (.ofNat r),.int .i64 (.ofNat 0)] 174 (some 3))])
def onN (s:List Nat):gy:=([.str s],.bT,1,[])
def EO:List gy:=[onN [],onE 5 [73,88],onN [120],onN [88],onE 2 [72,76]]
theorem FV:(EO.all (di (dx SNm) bE 177))=true:=by kernel_rfl
def N7:List gy:=[([.str []],.tuple [.int .i64 (.ofNat 0),.bool false],1,[]),([.str [73,88]],.tuple [.int .i64 (.ofNat 5),.bool true],1,[])]
theorem NZ:(N7.all (di (dx SNm) bE 176))=true:=by kernel_rfl
def SWd:aj:=qX (eH bE 170 (iQ bE cwS.1)) (qX (eH bE 177 (iQ bE EO)) (qX (eH bE 176 (iQ bE N7)) SNm))
theorem Rc:ai Tryz.prog SWd:=bN (fu (aT fB Fq) bE _ _ Ko) (bN (fu (aT fB Fq) bE _ _ FV) (bN (fu (aT fB Fq) bE _ _ NZ) Fq))
def EP:List gy:=[
 ([.str [32,79,82,71,32,49,48,48,72]],.tuple [.agg [.str [],.str [79,82,71],.bT,.slice 0 0 0 1 none],.int .i64 (.ofNat 0)],2,[(0,.cells [.str [],.ptr 1 0] 68 (some 2)),(1,.cells [.int .i64 (.ofNat 1),.int .i64 (.ofNat 256),.str [],.bU,.bU] 403 none)]),
 ([.str [120,58,32,76,68,32,40,73,88,43,49,41,44,53]],.tuple [.agg [.str [120],.str [76,68],.slice 0 0 0 2 none,.bT],.int .i64 (.ofNat 0)],4,[(0,.cells [.int .i64 (.ofNat 3),.str [73,88],.ptr 1 0,.int .i64 (.ofNat 4),.str [],.ptr 2 0] 215 (some 3)),(1,.cells [.int .i64 (.ofNat 4),.int .i64 (.ofNat 0),.str [43],.ptr 3 0,.bU] 403 none),(2,.cells [.int .i64 (.ofNat 1),.int .i64 (.ofNat 5),.str [],.bU,.bU] 403 none),(3,.cells [.int .i64 (.ofNat 1),.int .i64 (.ofNat 1),.str [],.bU,.bU] 403 none)]),
 ([.str [32,74,82,32,120]],.tuple [.agg [.str [],.str [74,82],.slice 0 0 0 1 none,.bT],.int .i64 (.ofNat 0)],2,[(0,.cells [.int .i64 (.ofNat 4),.str [],.ptr 1 0] 215 (some 3)),(1,.cells [.int .i64 (.ofNat 2),.int .i64 (.ofNat 0),.str [120],.bU,.bU] 403 none)])]
theorem FW:(EP.all (di (dx SWd) bE 6))=true:=iM (k:=1) (n:=3) ⟨zt,zt,zt,trivial⟩ zz
def SLp:aj:=qX (eH bE 6 (iQ bE EP)) SWd
theorem Rh:ai Tryz.prog SLp:=bN (fu (aT fB Rc) bE _ _ FW) Rc
end Ex
