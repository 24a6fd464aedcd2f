/- Parts of the proof of TopLines. -/
import Derived.Test.YtpjjgpjhpobkiaaGreatDoorMA0
import Derived.Test.YtpjjgpjhpobkiaaGreatDoorMA1
import Derived.Test.YtpjjgpjhpobkiaaGreatDoorMA2
import Derived.Test.YtpjjgpjhpobkiaaGreatDoorMA3
import Derived.Test.YtpjjgpjhpobkiaaGreatDoorMA4
import Derived.Test.YtpjjgpjhpobkiaaGreatDoorMA5
namespace Go.Proofs.YtpjjgpjhpobkiaaGreatDoor
namespace Ex
open Go.RowKit
theorem abu:∀p,p < 7→eX (KA (atB (dx p9) 248 p) p) 16:=Yr ⟨aj8,aj7,aj6,aj5,aj4,aj0,ajZ⟩
def SAt:aj:=qX (eH bE 248 (afi bE Lj)) SCf
theorem KU:ai Tryz.prog SAt:=bN (ah7 (aT fB p8) abu) akf
theorem Q5 {p o:Nat}{d:bL}(hd:jd p o=some d)(hk:d.1=1)(w:World)(hG:eT w):
 Calls Tryz.prog 248 #[.int .i64 (p:Int),.int .u8 (o:Int)] w fun e w'=>∃A c,e= .returned (.tuple #[enV p o d A c,.int .i64 1])∧gF w.heap.size w' A c (lN d)∧Below w.heap.size w w':=by
 exact ac2 (aT fB p8) (uN abu hd) hk w hG
theorem Ff {p o:Nat}{d:bL}(hd:jd p o=some d)(w:World)(hG:eT w):
 Calls Tryz.prog 248 #[.int .i64 (p:Int),.int .u8 (o:Int)] w fun e w'=>∃(p' o':Int) (nm ex:ByteArray) (al:Bool) (A:Option Addr) (n c:Nat),e= .returned (.tuple #[.agg #[.int .i64 p',.int .u8 o',.string nm,.slice A n c,.string ex,.bool al],.int .i64 (d.1:Int)])∧Below w.heap.size w w':=by
 exact Ur (aT fB p8) (uN abu hd) w hG
end Ex
