/- Parts of the proof of TopPrefixes, in one text: ExQ1, ExQ2, ExQ3. -/
import Derived.Test.YtpjcgimgiegehaaGreatDoorMK4
import Derived.Test.YtpjcgimgiegehaaGreatDoorMK8
/- What instr.set answers. -/
namespace Go.Proofs.YtpjcgimgiegehaaGreatDoor.Ex
open Go.RowKit

/-- The answer is this map. -/
def ansMp (b n : Nat) (bl : List (Nat × ABlk)) (gl : List (Nat × List Value)) : Option (AV × AW) → Bool
  | some (.map c, W) => cond (Nat.beq c b) (cond (Nat.beq W.nx n) (cond (blEq W.bl bl) (match W.mods with | [] => glB W.gl gl | _ => false) false) false) false
  | _ => false
theorem ansMp_eq {b n : Nat} {bl : List (Nat × ABlk)} {gl : List (Nat × List Value)} {r : Option (AV × AW)} (h : ansMp b n bl gl r = true) : r = some (.map b, ⟨n, bl, [], gl⟩) := by
  unfold ansMp at h
  split at h
  case h_2 => cases h
  case h_1 c W =>
  cases h1 : Nat.beq c b with
  | false => rw [h1] at h; cases h
  | true =>
  cases h2 : Nat.beq W.nx n with
  | false => rw [h1, h2] at h; cases h
  | true =>
  cases h3 : blEq W.bl bl with
  | false => rw [h1, h2, h3] at h; cases h
  | true =>
  rw [h1, h2, h3] at h
  simp only [cond_true] at h
  obtain ⟨nx, wbl, mods, wgl⟩ := W
  dsimp only at h h2 h3
  split at h
  case h_2 => cases h
  case h_1 =>
  rw [(beq_iff _ _).1 h1, (beq_iff _ _).1 h2, blEq_eq h3, glB_eq h]
def setBl : List (Nat × ABlk) := match entsSet with
  | e :: _ => e.2.2.2
  | [] => []
theorem setBl_ok : ansMp 0 2 setBl glT (runS SAt 289 [] ⟨0, [], [], glT⟩) = true := by kernel_rfl
def setM : MemoW
  | [] => some (.map 0, ⟨2, setBl, [], glT⟩)
  | _ => none
theorem setM_ok : CallOk Tryz.prog (memoS glT 289 setM) := memoS_ok (runS_ok hMix SAt_ok) glT _ _ fun args v W h => by
  unfold setM at h
  split at h
  case h_2 => cases h
  case h_1 =>
  obtain ⟨rfl, rfl⟩ := Prod.mk.inj (Option.some.inj h)
  exact ⟨rfl, ansMp_eq setBl_ok⟩
def SSet : CallF := orS (memoS glT 289 setM) SAt
theorem SSet_ok : CallOk Tryz.prog SSet := orS_ok setM_ok SAt_ok
end Go.Proofs.YtpjcgimgiegehaaGreatDoor.Ex

/- What table.Named answers: LD. -/
namespace Go.Proofs.YtpjcgimgiegehaaGreatDoor.Ex
open Go.RowKit

theorem nmLd_ok : nentB (runS SAt) glT 370 nmLd = true := by kernel_rfl
end Go.Proofs.YtpjcgimgiegehaaGreatDoor.Ex

/- What table.Named answers: JR. -/
namespace Go.Proofs.YtpjcgimgiegehaaGreatDoor.Ex
open Go.RowKit

theorem nmJr_ok : nentB (runS SAt) glT 370 nmJr = true := by kernel_rfl
end Go.Proofs.YtpjcgimgiegehaaGreatDoor.Ex
