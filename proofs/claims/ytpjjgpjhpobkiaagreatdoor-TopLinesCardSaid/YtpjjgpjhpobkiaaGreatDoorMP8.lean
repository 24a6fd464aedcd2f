/- Parts of the proof of TopLines. -/
import Derived.Test.YtpjjgpjhpobkiaaGreatDoorMYb
import Derived.Test.YtpjjgpjhpobkiaaGreatDoorMP0
import Derived.Test.YtpjjgpjhpobkiaaGreatDoorMP1
import Derived.Test.YtpjjgpjhpobkiaaGreatDoorMP2
import Derived.Test.YtpjjgpjhpobkiaaGreatDoorMP3
import Derived.Test.YtpjjgpjhpobkiaaGreatDoorMP4
import Derived.Test.YtpjjgpjhpobkiaaGreatDoorMP5
import Derived.Test.YtpjjgpjhpobkiaaGreatDoorMP6
import Derived.Test.YtpjjgpjhpobkiaaGreatDoorMP7
set_option maxHeartbeats 0
namespace Go.Proofs.YtpjjgpjhpobkiaaGreatDoor
open Go.RowKit Ex
def arn:List Ri:=[1,2,3,4].map fun n=>([68,69,70,66],List.replicate n (6,0,false),n)
theorem ahR (ν:Nat→Int×Int):eX (ja (jA ν) 1 arn) 4:=⟨zt,zt,zt,zt,trivial⟩
theorem aec (ν:Nat→Int×Int):lT.all (jA ν)=true:=by
 refine iM (k:=8) (n:=120) (eX.of fun i hi=>?_) zz
 have h:∀{j},eX (fun i=>ja (jA ν) 8 lT (15 * j+i)) 15→i / 15=j→ja (jA ν) 8 lT i=true:=fun {j} h hj=>by
  have:=h.at (i:=i % 15) (Nat.mod_lt _ zx);have e:15 * j+i % 15=i:=zy;rwa [e] at this
 have hc:i / 15=0∨i / 15=1∨i / 15=2∨i / 15=3∨i / 15=4∨i / 15=5∨i / 15=6∨i / 15=7:=zy;rcases hc with e|e|e|e|e|e|e|e
 ·exact h (ah0 ν) e
 ·exact h (ahZ ν) e
 ·exact h (ahY ν) e
 ·exact h (ahX ν) e
 ·exact h (ahW ν) e
 ·exact h (ahV ν) e
 ·exact h (ahU ν) e
 ·exact h (ahT ν) e
theorem ajI (d:List UInt8):(daO d).map iD=List.replicate d.length (6,0,false):=by
 induction d with
 |nil=>rfl
 |cons b d ih=>
  show iD (6,0,(b.toNat:Int))::(daO d).map iD=_;rw[ih];rfl
theorem aes {r:Rj}(h:TK r)(ν:Nat→Int×Int):jA ν ((Ed r).1,(Ed r).2.map iD,r.2.1.length)=true:=by
 unfold Ed;obtain⟨hne,h4,⟨h1,h2,p,o,d,dv,nv,_,hd,hk,hal,e1,e2,hE,hs⟩|h⟩:=h
 ·rw[zW ⟨h1,h2⟩];dsimp only;rw[e1,e2,hs];exact zY.1 (aec ν) _ (Tg hd hk hal dv nv)
 ·rw[za (by rcases h with h|h<;>simp[h])]
  dsimp only;rw[ajI];refine zY.1 (iM (ahR ν) zx) _ ?_;have:r.2.1.length≠0:=fun e=>hne (wh.1 e)
  have hc:r.2.1.length=1∨r.2.1.length=2∨r.2.1.length=3∨r.2.1.length=4:=zy;refine zX.2 ⟨r.2.1.length,?_,rfl⟩;rcases hc with e|e|e|e<;>rw[e]<;>decide
