/- Parts of the proof of TopLines. -/
import Derived.Test.YtpjjgpjhpobkiaaGreatDoorMX1
set_option maxHeartbeats 0
set_option maxRecDepth 100000
namespace Go.Proofs.YtpjjgpjhpobkiaaGreatDoor
namespace Ex
open Go.RowKit
def opN (x:Fu):AV:=.agg [.int .i64 (.ofNat x.1),.int .i64 (.ofNat x.2.1),.int .i64 (.ofNat x.2.2)]
def afK:{l:List gy // l=(FD 32 (dc 0x284243292028432920284445292028484c2920285350292041204146204146272042204243204320442044452045204820484c2049204c2052205350)).map fun s=>([.str s],opN (Sm s),1,[])}:=⟨_,by conv=>rhs;reduce⟩
theorem NY:(afK.1.all (di (dx S1) bE 396))=true:=by kernel_rfl
def abF:aj:=qX (eH bE 396 (iQ bE afK.1)) S1
theorem OJ:ai Tryz.prog abF:=bN (fu (aT fB BO) bE _ _ NY) BO
def aik (n:Nat):List gy:=(List.range (FD 32 (dc n)).length).map fun i=>([.str (dc n),.int .i64 (.ofNat i)],opN (Sm ((FD 32 (dc n)).getD i [])),1,[])
def amg:{l:List gy // l=aik 0x422043204420452048204c2028484c292041++aik 0x424320444520484c205350++aik 0x424320444520484c204146}:=⟨_,by conv=>rhs;reduce⟩
theorem Km:(amg.1.all (di (dx abF) bE 428))=true:=by kernel_rfl
def Rf:aj:=qX (eH bE 428 (iQ bE amg.1)) abF
theorem II:ai Tryz.prog Rf:=bN (fu (aT fB OJ) bE _ _ Km) OJ
def psE (s:List Nat):gy:=match FD 32 s with
 |b::m::t=>let al:=Nat.beq ((t.getLastD []).headD 0) 42
  match t with
  |(c::x)::_=>cond (Nat.beq c 42) ([.str s],.agg [.str b,.str m,.bT,.bool al],1,[]) (let a:=FD 44 (c::x)
   ([.str s],.agg [.str b,.str m,.slice 0 0 0 a.length (some a.length),.bool al],1,[(0,.cells (a.map .str) 9 none)]))
  |_=>([.str s],.agg [.str b,.str m,.bT,.bool al],1,[])
 |_=>([],.bU,1,[])
def psS:{l:List gy // l=(bY++lL++jG).map psE}:=⟨_,by conv=>rhs;reduce⟩
theorem Kl:(psS.1.all (di (dx Rf) bE 352))=true:=iM (k:=13) (n:=10) ⟨zt,zt,zt,zt,zt,zt,zt,zt,zt,zt,trivial⟩ zz
def abJ:aj:=qX (eH bE 352 (iQ bE psS.1)) Rf
theorem WB:ai Tryz.prog abJ:=bN (fu (aT fB II) bE _ _ Kl) II
end Ex
