/- The walk of take of the package record. -/
import Derived.Test.YtilfbnfejnjaeaaSum
namespace Go.Proofs.Ytilfbnfejnjaeaa
open Go.RowKit

/-- The number of bytes, the high one first. -/
def be (l : List UInt8) : Nat := l.foldl (fun a c => a * 256 + c.toNat) 0
theorem be_snoc (l : List UInt8) (c : UInt8) : be (l ++ [c]) = be l * 256 + c.toNat := by simp [be]
theorem or_low (x y : Int) (h0 : 0 ≤ x) (h1 : x ≤ 65535) (h2 : 0 ≤ y) (h3 : y ≤ 255) : bits .or .i64 (x * 256) y = x * 256 + y :=
  bits_join .i64 32 (by decide) (fun n a b => by rw [IntKind.wrap_i64]; omega) 8 (x * 256) y (by omega) (by omega) (by omega) h2 (by omega) (by omega)
theorem own_cap {w : World} {base n c : Nat} {e : TypeId} {size : Nat} {A : Option Addr} {xs : List Value} (h : w.ownsRow base e size (.slice A n c) n xs) : (c : Int) ≤ 9223372036854775807 := by
  rcases h.2 with ⟨hv, _⟩ | ⟨g, cap, cur, hv, _, _, _, hm, _⟩
  · injection hv with _ _ hv
    omega
  · injection hv with _ _ hv
    unfold maxLen at hm
    omega
theorem be_next {l : List UInt8} {j x : Nat} {y : UInt8} (h : x = be (l.take j)) (hy : l[j]? = some y) : Hid (x * 256 + y.toNat = be (l.take (j + 1))) := by
  show _ = _
  rw [take_at hy, be_snoc, h]
set_option maxHeartbeats 1000000 in
theorem take_any (g b o n c k : Nat) (l : List UInt8) (p : Nat → Prop) (W : World) (hk : k < c) (hkn : k ≤ n) (hk2 : (k : Int) ≤ 2) (hn : l.length = n) (hm : (c : Int) ≤ 9223372036854775807)
    (hg : W.cell? ⟨g, 0, none⟩ = some (.slice (some ⟨b, o, none⟩) n c)) (hf : W.frozen? ⟨g, 0, none⟩ = false) (h : Rd W p (some ⟨b, o, none⟩) (bs l)) :
    Calls Try.prog 44 #[.pointer (some ⟨g, 0, none⟩), .int .i64 (k : Int)] W fun e w' => e = .returned (.int .i64 (be (l.take k) : Int)) ∧ W.setCell ⟨g, 0, none⟩ (.slice (some ⟨b, o + k, none⟩) (n - k) (c - k)) = w' := by
  have HR := Lib.hid h
  have HN := Lib.hid hn
  clear h hn
  go_enter Try.func44, Try.ntmps44
  go_wp2
  go_loop [5, 15] (fun u v => ∃ j x : Nat, j ≤ k ∧ (j = 0 ∧ (x : Int) = 0 ∨ j = 1 ∧ (x : Int) ≤ 255 ∨ j = 2 ∧ (x : Int) ≤ 65535) ∧ v = .int .i64 j ∧ u = .int .i64 x ∧ Hid (x = be (l.take j))) (fun _ v => k - (intOf v).toNat)
  case atStart => exact ⟨0, 0, Nat.zero_le _, .inl ⟨rfl, rfl⟩, rfl, rfl, by rw [Hid, List.take_zero]; rfl⟩
  case round =>
    obtain ⟨j, x, hj, hx, rfl, rfl, hX⟩ := hrel
    by_cases hlt : j < k
    · obtain ⟨b', o', y, e, _, hc, hz⟩ := HR.out.byteAt (k := j) (by rw [HN.out]; omega)
      injection e with e
      injection e with e1 e2
      subst e1; subst e2
      have HZ := Lib.hid hz
      have h255 := byte_le y
      have hx2 : (x : Int) ≤ 255 := by omega
      have hor := or_low (x : Int) (y.toNat : Int) (by omega) (by omega) (by omega) h255
      have hj2 : j = 0 ∧ (x : Int) = 0 ∨ j = 1 ∧ (x : Int) ≤ 255 := by omega
      have HJ := Lib.hid hj2
      clear hz hx hj2
      go_wp2
      go_round
      case rel => exact ⟨j + 1, x * 256 + y.toNat, by omega, by have := HJ.out; omega, by go_num, by go_num, be_next hX.out HZ.out⟩
      case measure => simp [intOf]; omega
    · obtain rfl : j = k := by omega
      clear hx
      go_wp2
      go_ret
      exact ⟨ret_int (by rw [hX.out]), rfl⟩
end Go.Proofs.Ytilfbnfejnjaeaa
