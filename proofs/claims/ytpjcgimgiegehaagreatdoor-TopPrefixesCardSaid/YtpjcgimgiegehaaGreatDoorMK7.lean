/- Parts of the proof of TopPrefixes, in one text: ExL5, ExSa. -/
import Derived.Test.YtpjcgimgiegehaaGreatDoorMK4
import Derived.Test.YtpjcgimgiegehaaGreatDoorML1
import Derived.Test.YtpjcgimgiegehaaGreatDoorML2
import Derived.Test.YtpjcgimgiegehaaGreatDoorML3
import Derived.Test.YtpjcgimgiegehaaGreatDoorML4
import Derived.Test.YtpjcgimgiegehaaGreatDoorMMp
/- What lookup answers, as a contract. -/
namespace Go.Proofs.YtpjcgimgiegehaaGreatDoor.Ex
open Go.RowKit

theorem chunk_at {p : List Nat} {rl : List (List Nat)} {a n op : Nat} (h : ((List.range' a n).all (chunkB p rl)) = true) (h1 : a ≤ op) (h2 : op < a + n) : runS S1 24 [.str p, .int .u8 (.ofNat op)] ⟨0, [], [], glT⟩ = some (lookR rl op, ⟨6, [], [], glT⟩) :=
  ansB_eq (List.all_eq_true.1 h op (List.mem_range'_1.2 ⟨h1, h2⟩))
theorem main_at (op : Nat) (h : op < 256) : runS S1 24 [.str ptMain, .int .u8 (.ofNat op)] ⟨0, [], [], glT⟩ = some (lookR rlMain op, ⟨6, [], [], glT⟩) := by
  rcases Nat.lt_or_ge op 32 with h0 | h0
  · exact chunk_at lkMain0 (by omega) (by omega)
  rcases Nat.lt_or_ge op 64 with h32 | h32
  · exact chunk_at lkMain32 (by omega) (by omega)
  rcases Nat.lt_or_ge op 96 with h64 | h64
  · exact chunk_at lkMain64 (by omega) (by omega)
  rcases Nat.lt_or_ge op 128 with h96 | h96
  · exact chunk_at lkMain96 (by omega) (by omega)
  rcases Nat.lt_or_ge op 160 with h128 | h128
  · exact chunk_at lkMain128 (by omega) (by omega)
  rcases Nat.lt_or_ge op 192 with h160 | h160
  · exact chunk_at lkMain160 (by omega) (by omega)
  rcases Nat.lt_or_ge op 224 with h192 | h192
  · exact chunk_at lkMain192 (by omega) (by omega)
  exact chunk_at lkMain224 (by omega) (by omega)
theorem cb_at (op : Nat) (h : op < 256) : runS S1 24 [.str ptCb, .int .u8 (.ofNat op)] ⟨0, [], [], glT⟩ = some (lookR rlCb op, ⟨6, [], [], glT⟩) := by
  rcases Nat.lt_or_ge op 128 with h0 | h0
  · exact chunk_at lkCb0 (by omega) (by omega)
  exact chunk_at lkCb128 (by omega) (by omega)
theorem ed_at (op : Nat) (h : op < 256) : runS S1 24 [.str ptEd, .int .u8 (.ofNat op)] ⟨0, [], [], glT⟩ = some (lookR rlEd op, ⟨6, [], [], glT⟩) := by
  rcases Nat.lt_or_ge op 32 with h0 | h0
  · exact chunk_at lkEd0 (by omega) (by omega)
  rcases Nat.lt_or_ge op 64 with h32 | h32
  · exact chunk_at lkEd32 (by omega) (by omega)
  rcases Nat.lt_or_ge op 96 with h64 | h64
  · exact chunk_at lkEd64 (by omega) (by omega)
  rcases Nat.lt_or_ge op 128 with h96 | h96
  · exact chunk_at lkEd96 (by omega) (by omega)
  rcases Nat.lt_or_ge op 160 with h128 | h128
  · exact chunk_at lkEd128 (by omega) (by omega)
  rcases Nat.lt_or_ge op 192 with h160 | h160
  · exact chunk_at lkEd160 (by omega) (by omega)
  rcases Nat.lt_or_ge op 224 with h192 | h192
  · exact chunk_at lkEd192 (by omega) (by omega)
  exact chunk_at lkEd224 (by omega) (by omega)
def lookM : MemoW
  | [.str l, .int .u8 (.ofNat op)] => cond (Nat.blt op 256) (cond (eqL l ptMain) (some (lookR rlMain op, ⟨6, [], [], glT⟩)) (cond (eqL l ptCb) (some (lookR rlCb op, ⟨6, [], [], glT⟩)) (cond (eqL l ptEd) (some (lookR rlEd op, ⟨6, [], [], glT⟩)) none))) none
  | _ => none
theorem lookM_ok : CallOk Tryz.prog (memoS glT 24 lookM) := memoS_ok (runS_ok hMix S1_ok) glT _ _ fun args v W h => by
  unfold lookM at h
  split at h
  case h_2 => cases h
  case h_1 l op =>
  cases hop : Nat.blt op 256 with
  | false => rw [hop] at h; cases h
  | true =>
  rw [hop] at h
  simp only [cond_true] at h
  have hop := blt_lt hop
  refine ⟨rfl, ?_⟩
  cases h1 : eqL l ptMain with
  | true =>
    rw [h1] at h
    obtain rfl := eqL_eq h1
    rw [main_at op hop]
    exact h
  | false =>
  cases h2 : eqL l ptCb with
  | true =>
    rw [h1, h2] at h
    obtain rfl := eqL_eq h2
    rw [cb_at op hop]
    exact h
  | false =>
  cases h3 : eqL l ptEd with
  | true =>
    rw [h1, h2, h3] at h
    obtain rfl := eqL_eq h3
    rw [ed_at op hop]
    exact h
  | false => rw [h1, h2, h3] at h; cases h
def SLook : CallF := orS (memoS glT 24 lookM) SParse
theorem SLook_ok : CallOk Tryz.prog SLook := orS_ok lookM_ok SParse_ok
end Go.Proofs.YtpjcgimgiegehaaGreatDoor.Ex

/- The contract of slices.ContainsFunc at the closure of table.Named, for the executor. -/
namespace Go.Proofs.YtpjcgimgiegehaaGreatDoor.Ex
open Go.RowKit

def strL : List AV → Option (List (List Nat))
  | [] => some []
  | .str l :: r => cond (Nat.ble l.length 1099511627776) ((strL r).map (l :: ·)) none
  | _ :: _ => none
def fitL (x : Nat) : List Nat → Bool
  | [] => false
  | l => fitN l x 0 8
def anyL (x : Nat) : List (List Nat) → Bool
  | [] => false
  | l :: r => cond (fitL x l) true (anyL x r)
theorem fitO_fitL (x : Nat) (l : List Nat) : fitO (bstr l) x = fitL x l := by
  unfold fitO
  have e1 : (bstr l).data.toList = l.map UInt8.ofNat := by simp [bstr]
  have e2 : fitS (l.map UInt8.ofNat) x = fitN l x 0 8 := by
    rw [fitN_eq]
    unfold fitS
    simp
  rw [e1, e2, bstr_size]
  cases l with
  | nil => rfl
  | cons c l => simp [fitL]
theorem strL_spec {ρ : Env} : ∀ {vs : List AV} {ls : List (List Nat)}, strL vs = some ls → cvs ρ vs = sls (ls.map bstr) ∧ ls.length = vs.length ∧ ∀ s, s ∈ ls.map bstr → s.size ≤ maxLen
  | [], ls, h => by
    obtain rfl := Option.some.inj h
    exact ⟨rfl, rfl, fun s hs => by cases hs⟩
  | v :: r, ls, h => by
    unfold strL at h
    split at h
    · rename_i e; cases e
    · rename_i l r' e
      obtain ⟨rfl, rfl⟩ := List.cons.inj e
      cases hb : Nat.ble l.length 1099511627776 with
      | false => rw [hb] at h; cases h
      | true =>
        rw [hb] at h
        have hb := Nat.le_of_ble_eq_true hb
        obtain ⟨m, hm, rfl⟩ := Option.map_eq_some_iff.1 h
        obtain ⟨h1, h2, h3⟩ := strL_spec (ρ := ρ) hm
        refine ⟨by simp only [cvs, cv, sls, List.map_cons] at h1 ⊢; rw [h1], by simp [h2], fun s hs => ?_⟩
        rw [List.map_cons] at hs
        rcases List.mem_cons.1 hs with rfl | hs
        · rw [bstr_size]; simp only [maxLen]; omega
        · exact h3 s hs
    · cases h
theorem anyL_eq (x : Nat) : ∀ ls : List (List Nat), (ls.map bstr).any (fitO · x) = anyL x ls
  | [] => rfl
  | l :: r => by
    rw [List.map_cons, List.any_cons, anyL_eq x r, fitO_fitL, show anyL x (l :: r) = cond (fitL x l) true (anyL x r) from rfl]
    cases fitL x l <;> rfl
def cfS : CallF := fun g args W => cond (Nat.beq g 380) (match args with
  | [s, .fn (.func g2) [] [.ptr b 0]] => cond (Nat.beq g2 411) (match aget b W.bl with
    | some (.cells [.int .i64 (.ofNat x)] _ none) => match readA W.bl 1 s with
      | some (m, vs) => match strL vs with
        | some ls => cond (Nat.blt x 256) (cond (Nat.ble m 140737488355328) (some (.bool (anyL x ls), W)) none) none
        | none => none
      | none => none
    | _ => none) none
  | _ => none) none
theorem cfS_ok : CallOk Tryz.prog cfS := fun g args W v W' h => by
  unfold cfS at h
  cases hg : Nat.beq g 380 with
  | false => rw [hg] at h; cases h
  | true =>
  rw [hg] at h
  obtain rfl := (beq_iff _ _).1 hg
  simp only [cond_true] at h
  split at h
  case h_2 => cases h
  case h_1 s g2 b =>
  cases hg2 : Nat.beq g2 411 with
  | false => rw [hg2] at h; cases h
  | true =>
  rw [hg2] at h
  obtain rfl := (beq_iff _ _).1 hg2
  simp only [cond_true] at h
  split at h
  case h_2 => cases h
  case h_1 x e hb =>
  split at h
  case h_2 => cases h
  case h_1 m vs hr =>
  split at h
  case h_2 => cases h
  case h_1 ls hls =>
  cases hx : Nat.blt x 256 with
  | false => rw [hx] at h; cases h
  | true =>
  cases hm : Nat.ble m 140737488355328 with
  | false => rw [hx, hm] at h; cases h
  | true =>
  rw [hx, hm] at h
  obtain ⟨rfl, rfl⟩ := Prod.mk.inj (Option.some.inj h)
  have hx := blt_lt hx
  have hm := Nat.le_of_ble_eq_true hm
  refine ⟨⟨_, Tryz.func380, by decide, by kernel_rfl⟩, fun _ hb => hb, fun w0 ρ w _ hW => ?_⟩
  obtain ⟨A, c, hsv, hlen, hrd, _⟩ := readA_rd (fun b k hb => ⟨(hW.ok b k hb).2.1, hW.rep b k hb⟩) hr
  obtain ⟨h1, h2, h3⟩ := strL_spec (ρ := ρ) hls
  rw [h1] at hrd
  have hbox : w.heap[ρ.blk b]? = some (.cells (cvs ρ [.int .i64 (.ofNat x)]).toArray e (0, 0)) := hW.rep b _ hb
  have hcell : w.cell? ⟨ρ.blk b, 0, none⟩ = some (.int .i64 (x : Int)) := by
    simp [World.cell?, hbox, cvs, cv]
  have hc := contf_any A (ls.map bstr) m c x (ρ.blk b) w (fun _ => True) (by rw [List.length_map, h2, hlen]; omega) (by omega) hx h3 hrd hcell
  have ea : (cvs ρ [s, .fn (.func 411) [] [.ptr b 0]]).toArray = #[.slice A m c, .func (.func 411) #[] #[.pointer (some ⟨ρ.blk b, 0, none⟩)]] := by
    simp only [cvs, cv, hsv]
  rw [ea]
  refine hc.mono ?_
  rintro e' w' ⟨rfl, rfl⟩
  exact ⟨ρ, by rw [anyL_eq]; rfl, Post.refl hW, trivial⟩
/-- The contracts on which the greater results lie. -/
def SCf : CallF := orS cfS SLook
theorem SCf_ok : CallOk Tryz.prog SCf := orS_ok cfS_ok SLook_ok
end Go.Proofs.YtpjcgimgiegehaaGreatDoor.Ex
