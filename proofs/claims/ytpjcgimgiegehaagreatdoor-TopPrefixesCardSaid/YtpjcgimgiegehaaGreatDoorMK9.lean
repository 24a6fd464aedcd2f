/- What table.At and the reference's At answer, in any world. -/
import Derived.Test.YtpjcgimgiegehaaGreatDoorMK4
import Derived.Test.YtpjcgimgiegehaaGreatDoorMK8
import Derived.Test.YtpjcgimgiegehaaGreatDoorMK6
namespace Go.Proofs.YtpjcgimgiegehaaGreatDoor.Ex
open Go.RowKit

theorem at_any {p o : Nat} {d : OpD} (hd : opD p o = some d) (hk : d.1 = 1) (w : World) (hG : GlT w) :
    Calls Tryz.prog 4 #[.int .i64 (p : Int), .int .u8 (o : Int)] w fun e w' => ∃ A c, e = .returned (.tuple #[enV p o d A c, .int .i64 1]) ∧ RowAt w.heap.size w' A c (opVs d) ∧ Below w.heap.size w w' := by
  obtain ⟨x, _, hx⟩ := chk_all at_ok hd
  exact tbl_any (runS_ok hMix SLook_ok) hx hk w hG
theorem at_other {p o : Nat} {d : OpD} (hd : opD p o = some d) (w : World) (hG : GlT w) :
    Calls Tryz.prog 4 #[.int .i64 (p : Int), .int .u8 (o : Int)] w fun e w' => ∃ (p' o' : Int) (nm ex : ByteArray) (al : Bool) (A : Option Addr) (n c : Nat), e = .returned (.tuple #[.agg #[.int .i64 p', .int .u8 o', .string nm, .slice A n c, .string ex, .bool al], .int .i64 (d.1 : Int)]) ∧ Below w.heap.size w w' := by
  obtain ⟨x, _, hx⟩ := chk_all at_ok hd
  exact tbl_other (runS_ok hMix SLook_ok) hx w hG
theorem rt_any {p o : Nat} {d : OpD} (hd : opD p o = some d) (hk : d.1 = 1) (w : World) (hG : GlT w) :
    Calls Tryz.prog 7 #[.int .i64 (p : Int), .int .u8 (o : Int)] w fun e w' => ∃ A c, e = .returned (.tuple #[enV p o d A c, .int .i64 1]) ∧ Rd w' (fun _ => True) A (opVs d) ∧ Below w.heap.size w w' := by
  obtain ⟨x, _, hx⟩ := rchk_all rt_ok hd
  exact rtbl_any (runR_ok hMix S1_ok) hx hk w hG
end Go.Proofs.YtpjcgimgiegehaaGreatDoor.Ex
