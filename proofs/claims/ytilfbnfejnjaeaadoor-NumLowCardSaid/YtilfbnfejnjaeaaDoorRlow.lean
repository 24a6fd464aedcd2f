/- The walk of Low of the reference of the package num. -/
import Derived.Test.YtilfbnfejnjaeaaDoorHex
namespace Go.Proofs.YtilfbnfejnjaeaaDoor
open Go.RowKit

theorem i64_and255 (n : Int) : bits .and .i64 n 255 = n % 256 := by
  have h127 : (BitVec.ofInt 64 255).toNat = 2 ^ 8 - 1 := by decide
  have key : (BitVec.ofInt 64 n &&& BitVec.ofInt 64 255).toNat = (n % ((2 ^ 64 : Nat) : Int)).toNat % 2 ^ 8 := by
    rw [BitVec.toNat_and, BitVec.toNat_ofInt, h127, Nat.and_two_pow_sub_one_eq_mod]
  show IntKind.i64.wrap ((BitVec.ofInt 64 n &&& BitVec.ofInt 64 255).toNat : Nat) = n % 256
  rw [key, IntKind.wrap_i64]
  omega
set_option maxHeartbeats 400000 in
theorem rlow_any (A : Option Addr) (zs : List Int) (c : Nat) (w : World) (p : Nat → Prop) (hm : (zs.length : Int) ≤ 140737488355328) (h : Rd w p A (ils zs)) :
    Calls Tryd.prog 22 #[.slice A zs.length c] w fun e w' => ∃ v, e = .returned v ∧ w'.ownsRow w.heap.size 5 1 v zs.length (bs (zs.map lowB)) ∧ Below w.heap.size w w' := by
  have HR := Lib.hid h
  obtain ⟨n, hn⟩ : ∃ n, zs.length = n := ⟨_, rfl⟩
  rw [hn] at hm
  rw [hn]
  have HN := Lib.hid hn
  clear h hn
  go_enter Tryd.func22, Tryd.ntmps22
  go_wp2
  go_loopw [3, 4] (fun u v W => ∃ k : Nat, (k : Int) ≤ n ∧ v = .int .i64 k ∧ Hid (W.ownsRow w.heap.size 5 1 u k (bs ((zs.take k).map lowB))) ∧ Hid (Below w.heap.size w W)) (fun _ v _ => n - (intOf v).toNat)
  case atStart => exact ⟨0, by omega, rfl, World.ownsRow_nil _ _ _ _, Below.refl _ _⟩
  case round =>
    obtain ⟨k, hk, rfl, hO, hQ⟩ := hrel
    obtain ⟨A3, c3, rfl, _⟩ := own_form hO.out
    by_cases hlt : k < n
    · obtain ⟨b, o, z, rfl, hc0, hz⟩ := HR.out.intAt (k := k) (by rw [HN.out]; exact hlt)
      have hc := (hQ.out.cell (p := ⟨b, o + k, none⟩) (lt_of_cell hc0)).trans hc0
      have HZ := Lib.hid hz
      have hand := i64_and255 z
      clear hz hc0
      go_wp2_with (at_builtin; refine wpList_app el_bytes rfl (.tmp 11) (.tmp 18) rfl w.heap.size _ k _ (fun _ => True) _ 1 1 [.int .u8 _] rfl rfl (hO.out.alloc _) rfl (Rd.new _ _ _ trivial) (by intro u hu; simp at hu; subst hu; rfl) (by simp only [maxLen]; omega) (by omega) (by simp; have := hQ.out.size; omega) ?_; intro v2 w2 hown2 hg2 hat2 hz2; have HO := Lib.hid hown2; have HB := Lib.hid ((hQ.out.alloc hQ.out.size _).grown hg2 (by simp; have := hQ.out.size; omega) (fun q hq => (hO.out.lt q hq).1)); clear hown2 hg2 hat2 hz2)
      go_roundw
      case rel => exact ⟨k + 1, by omega, by go_num, by rw [low_snoc HZ.out]; exact own_snoc HO.out (lowB_val z).symm, HB.out⟩
      case measure => simp [intOf]; omega
    · obtain rfl : k = n := by omega
      have HE : Hid (wr.ownsRow w.heap.size 5 1 (.slice A3 k c3) k (bs (zs.map lowB))) := by
        have := hO.out
        rw [List.take_of_length_le (by rw [HN.out]; omega)] at this
        exact this
      go_wp2
      go_ret
      exact ⟨_, rfl, HE.out, hQ.out⟩
end Go.Proofs.YtilfbnfejnjaeaaDoor
