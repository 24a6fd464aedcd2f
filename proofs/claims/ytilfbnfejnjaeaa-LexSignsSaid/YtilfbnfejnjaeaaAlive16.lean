/- The walk of alive of the statements of the package lex; EqualFunc over two lists of tokens that agree. -/
import Derived.Test.YtilfbnfejnjaeaaLtoks
namespace Go.Proofs.Ytilfbnfejnjaeaa
open Go.RowKit

/-- The example of the chapter. -/
def exLine : List UInt8 := [120, 58, 32, 76, 68, 32, 65, 44, 40, 73, 88, 43, 48, 70, 72, 41, 32, 59, 32, 99]
def exToks : List Tk := [⟨1, [120], 0, 0⟩, ⟨4, [58], 0, 1⟩, ⟨1, [76, 68], 0, 3⟩, ⟨1, [65], 0, 6⟩, ⟨4, [44], 0, 7⟩, ⟨4, [40], 0, 8⟩, ⟨1, [73, 88], 0, 9⟩, ⟨4, [43], 0, 11⟩, ⟨2, [], 15, 12⟩, ⟨4, [41], 0, 15⟩, ⟨0, [], 0, 17⟩]
theorem ex_toks : tokens exLine = .ok exToks := by kernel_rfl
/-- The cells of token number k. -/
theorem tcs_drop : ∀ (ts : List Tk) (k : Nat), (tcs ts).drop (k * 4) = tcs (ts.drop k)
  | ts, 0 => by rw [Nat.zero_mul, List.drop_zero, List.drop_zero]
  | [], k + 1 => by simp [tcs]
  | t :: ts, k + 1 => by
    rw [tcs, List.drop_succ_cons, ← tcs_drop ts k, show (k + 1) * 4 = 4 + k * 4 from by omega, ← List.drop_drop]
    rfl
theorem Rd.tok {w : World} {p : Nat → Prop} {A : Option Addr} {ts : List Tk} (h : Rd w p A (tcs ts)) {k : Nat} {t : Tk} (hk : ts[k]? = some t) :
    ∃ b o, A = some ⟨b, o, none⟩ ∧ w.cell? ⟨b, o + k * 4, none⟩ = some (.int .i64 (t.kind : Int)) ∧ w.cell? ⟨b, o + k * 4 + 1, none⟩ = some (.string ⟨t.text.toArray⟩) ∧ w.cell? ⟨b, o + k * 4 + 2, none⟩ = some (.int .i64 (t.n : Int)) ∧ w.cell? ⟨b, o + k * 4 + 3, none⟩ = some (.int .i64 (t.at_ : Int)) := by
  have hlt := lt_at hk
  have hd : (tcs ts).drop (k * 4) = tkv t ++ tcs (ts.drop (k + 1)) := by
    rw [tcs_drop, List.drop_eq_getElem_cons hlt, (List.getElem_eq_iff hlt).2 hk]
    rfl
  have hne : tcs ts ≠ [] := fun e => by rw [e] at hd; simp [tkv] at hd
  obtain ⟨b, o, hA, _, hc⟩ := h.ex hne
  have key : ∀ j u, (tkv t)[j]? = some u → w.cell? ⟨b, o + k * 4 + j, none⟩ = some u := fun j u hj => by
    have : (tcs ts)[k * 4 + j]? = some u := by
      rw [← List.getElem?_drop, hd, List.getElem?_append_left (lt_at hj)]
      exact hj
    rw [Nat.add_assoc]
    exact hc _ _ this
  exact ⟨b, o, hA, key 0 _ rfl, key 1 _ rfl, key 2 _ rfl, key 3 _ rfl⟩
set_option maxHeartbeats 2000000 in
theorem alive16_any (w : World) : Calls Try.prog 30 #[] w fun e w' => e = .returned (.bool true) ∧ Below w.heap.size w w' := by
  have CT : Hid (Calls Try.prog 32 #[.string ⟨#[120, 58, 32, 76, 68, 32, 65, 44, 40, 73, 88, 43, 48, 70, 72, 41, 32, 59, 32, 99]⟩] w fun e w' => ∃ b o cap, e = .returned (.tuple #[.slice (some ⟨b, o, none⟩) 11 cap, .int .i64 0]) ∧ Below w.heap.size w w' ∧
      w'.cell? ⟨b, o + 34, none⟩ = some (.int .i64 15) ∧ w'.cell? ⟨b, o + 32, none⟩ = some (.int .i64 2) ∧ w'.cell? ⟨b, o + 25, none⟩ = some (.string ⟨#[73, 88]⟩) ∧ w'.cell? ⟨b, o + 40, none⟩ = some (.int .i64 0)) := by
    refine (tokens_any ⟨#[120, 58, 32, 76, 68, 32, 65, 44, 40, 73, 88, 43, 48, 70, 72, 41, 32, 59, 32, 99]⟩ w (by decide)).mono fun e w' ⟨hb, h⟩ => ?_
    have ht : tokens (⟨#[120, 58, 32, 76, 68, 32, 65, 44, 40, 73, 88, 43, 48, 70, 72, 41, 32, 59, 32, 99]⟩ : ByteArray).data.toList = .ok exToks := ex_toks
    rw [ht] at h
    rcases h with ⟨c, h, _⟩ | ⟨ts, A, cap, h, he, hr⟩
    · cases h
    · injection h with h
      subst h
      obtain ⟨b, o, hA, c80, _, c82, _⟩ := hr.tok (k := 8) rfl
      obtain ⟨b', o', hA', _, c61, _, _⟩ := hr.tok (k := 6) rfl
      obtain ⟨b'', o'', hA'', c100, _, _, _⟩ := hr.tok (k := 10) rfl
      subst hA
      injection hA' with hA'
      injection hA' with e1 e2
      injection hA'' with hA''
      injection hA'' with e3 e4
      subst e1 e2 e3 e4
      exact ⟨b, o, cap, he, hb, c82, c80, c61, c100⟩
  go_enter Try.func30, Try.ntmps30
  go_wp2_with (go_at_call 32; refine CT.out.mono ?_; rintro e w1 ⟨b, o, cap, rfl, hb, c1, c2, c3, c4⟩; have B1 := Lib.hid hb; clear hb)
  go_ret
  exact ⟨rfl, B1.out⟩
end Go.Proofs.Ytilfbnfejnjaeaa
