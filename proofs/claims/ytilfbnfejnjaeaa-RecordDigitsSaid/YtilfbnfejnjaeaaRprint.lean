/- The walks of Right, bytes and Print of the reference of the package record. -/
import Derived.Test.YtilfbnfejnjaeaaPrint
namespace Go.Proofs.Ytilfbnfejnjaeaa
open Go.RowKit

theorem rightB_iff (t a : Int) (n : Nat) : rightB t a n = true ↔ 0 ≤ t ∧ t ≤ 255 ∧ 0 ≤ a ∧ a ≤ 65535 ∧ (n : Int) ≤ 255 := by
  unfold rightB fits
  simp
  omega
theorem rightB_eq {t a : Int} {n : Nat} {b : Bool} (h : b = true ↔ 0 ≤ t ∧ t ≤ 255 ∧ 0 ≤ a ∧ a ≤ 65535 ∧ (n : Int) ≤ 255) : Ending.returned (.bool b) = .returned (.bool (rightB t a n)) :=
  ret_bool (Bool.eq_iff_iff.2 (h.trans (rightB_iff t a n).symm))
set_option maxHeartbeats 1000000 in
theorem rright_any (t a : Int) (A : Option Addr) (n c : Nat) (w : World) :
    Calls Try.prog 52 #[.agg #[.int .i64 t, .int .i64 a, .slice A n c]] w fun e w' => e = .returned (.bool (rightB t a n)) ∧ Below w.heap.size w w' := by
  go_enter Try.func52, Try.ntmps52
  go_wp2
  all_goals
    go_ret
    exact ⟨rightB_eq (by simp; omega), (Below.refl _ _).alloc (Nat.le_refl _) _⟩
set_option maxHeartbeats 1000000 in
theorem rhead_any (t a : Int) (A : Option Addr) (d : List UInt8) (c : Nat) (p : Nat → Prop) (w : World) (h : rightB t a d.length = true) (hd : Rd w p A (bs d)) :
    Calls Try.prog 53 #[.agg #[.int .i64 t, .int .i64 a, .slice A d.length c]] w fun e w' => ∃ A' c', e = .returned (.slice A' (4 + d.length) c') ∧ w'.ownsRow w.heap.size 5 1 (.slice A' (4 + d.length) c') (4 + d.length) (bs (headB d.length a t ++ d)) ∧ Below w.heap.size w w' := by
  obtain ⟨h1, h2, h3, h4, h5⟩ := (rightB_iff _ _ _).1 h
  have HD := Lib.hid hd
  obtain ⟨n, hnn⟩ : ∃ n, d.length = n := ⟨_, rfl⟩
  rw [hnn] at h5 ⊢
  have HN := Lib.hid hnn
  clear h hd hnn
  go_enter Try.func53, Try.ntmps53
  have HB := Lib.hid (((Below.refl w.heap.size w).alloc (Nat.le_refl _) (.cells #[.int .i64 t, .int .i64 a, .slice A n c] 29)).alloc (by simp) (.cells #[.int .u8 (n : Int), .int .u8 (a / 256), .int .u8 (a % 256), .int .u8 t] 5))
  have HO := Lib.hid (World.ownsRow_lit (base := w.heap.size) (e := 5) (size := 1) (w.alloc (.cells #[.int .i64 t, .int .i64 a, .slice A n c] 29)) #[.int .u8 (n : Int), .int .u8 (a / 256), .int .u8 (a % 256), .int .u8 t] 4 (by simp) (by decide) rfl)
  have hsz : ((w.alloc (.cells #[.int .i64 t, .int .i64 a, .slice A n c] 29)).alloc (.cells #[.int .u8 (n : Int), .int .u8 (a / 256), .int .u8 (a % 256), .int .u8 t] 5)).heap.size = w.heap.size + 2 := by simp
  rw [World.size_alloc] at HO
  have HE : Hid (([.int .u8 (n : Int), .int .u8 (a / 256), .int .u8 (a % 256), .int .u8 t] : List Value) = bs (headB n a t)) := by
    show _ = _
    simp only [headB, bs, List.map_cons, List.map_nil, lowB_val]
    rw [show (n : Int) % 256 = n from by omega, show a / 256 % 256 = a / 256 from by omega, show t % 256 = t from by omega]
  go_wp2_with (at_builtin; refine wpList_app el_bytes rfl (.tmp 18) (.tmp 20) rfl w.heap.size _ 4 _ p A n c (bs d) rfl rfl HO.out (by rw [bs_length, HN.out]; omega) (HD.out.keep fun i hi _ => HB.out.block i hi) (bs_one _) (by simp only [maxLen]; omega) (by omega) (by rw [hsz]; omega) ?_; intro v' w1 hown hg hat hz; obtain ⟨A', c', rfl, _⟩ := own_form hown; have HO1 := Lib.hid hown; have HB1 := Lib.hid (HB.out.grown hg (by rw [hsz]; omega) (fun q hq => by have : w.heap.size + 1 = q := Option.some.inj hq; omega)); clear hown hg hat hz)
  go_ret
  refine ⟨A', c', rfl, ?_, HB1.out⟩
  rw [bs_append, ← HE.out]
  exact HO1.out
end Go.Proofs.Ytilfbnfejnjaeaa
