/- The walks of Low and Fits of the package num, and of Fits of its reference. -/
import Derived.Test.YtilfbnfejnjaeaaRbytes
namespace Go.Proofs.Ytilfbnfejnjaeaa
open Go.RowKit

/-- Integers as cells. -/
def ils (zs : List Int) : List Value := zs.map (Value.int .i64)
theorem Rd.intAt {w : World} {p : Nat → Prop} {A : Option Addr} {zs : List Int} (h : Rd w p A (ils zs)) {k : Nat} (hk : k < zs.length) :
    ∃ b o z, A = some ⟨b, o, none⟩ ∧ w.cell? ⟨b, o + k, none⟩ = some (.int .i64 z) ∧ zs[k]? = some z := by
  have hx : k < (ils zs).length := by simp [ils]; exact hk
  obtain ⟨b, o, h1, _, h3⟩ := h.ex (fun e => by rw [e] at hx; simp at hx)
  exact ⟨b, o, zs[k], h1, h3 k _ (by simp [ils, hk]), List.getElem?_eq_getElem hk⟩
/-- The low byte of a number. -/
def lowB (z : Int) : UInt8 := UInt8.ofNat (z % 256).toNat
theorem lowB_val (z : Int) : ((lowB z).toNat : Int) = z % 256 := by
  unfold lowB
  rw [UInt8.toNat_ofNat']
  omega
theorem low_snoc {zs : List Int} {k : Nat} {z : Int} (h : zs[k]? = some z) : (zs.take (k + 1)).map lowB = (zs.take k).map lowB ++ [lowB z] := by
  rw [take_at h, List.map_append]
  rfl
set_option maxHeartbeats 400000 in
theorem low_any (A : Option Addr) (zs : List Int) (c : Nat) (w : World) (p : Nat → Prop) (hm : (zs.length : Int) ≤ 140737488355328) (h : Rd w p A (ils zs)) :
    Calls Try.prog 48 #[.slice A zs.length c] w fun e w' => ∃ v, e = .returned v ∧ w'.ownsRow w.heap.size 5 1 v zs.length (bs (zs.map lowB)) ∧ Below w.heap.size w w' := by
  have HR := Lib.hid h
  obtain ⟨n, hn⟩ : ∃ n, zs.length = n := ⟨_, rfl⟩
  rw [hn] at hm
  rw [hn]
  have HN := Lib.hid hn
  clear h hn
  go_enter Try.func48, Try.ntmps48
  go_wp2
  go_loopw [3, 8] (fun u v W => ∃ k : Nat, (k : Int) ≤ n ∧ v = .int .i64 k ∧ Hid (W.ownsRow w.heap.size 5 1 u k (bs ((zs.take k).map lowB))) ∧ Hid (Below w.heap.size w W)) (fun _ v _ => n - (intOf v).toNat)
  case atStart => exact ⟨0, by omega, rfl, World.ownsRow_nil _ _ _ _, Below.refl _ _⟩
  case round =>
    obtain ⟨k, hk, rfl, hO, hQ⟩ := hrel
    obtain ⟨A3, c3, rfl, _⟩ := own_form hO.out
    by_cases hlt : k < n
    · obtain ⟨b, o, z, rfl, hc0, hz⟩ := HR.out.intAt (k := k) (by rw [HN.out]; exact hlt)
      have hc := (hQ.out.cell (p := ⟨b, o + k, none⟩) (lt_of_cell hc0)).trans hc0
      have HZ := Lib.hid hz
      clear hz hc0
      go_wp2_with (at_builtin; refine wpList_app el_bytes rfl (.tmp 12) (.tmp 15) rfl w.heap.size _ k _ (fun _ => True) _ 1 1 [.int .u8 _] rfl rfl (hO.out.alloc _) rfl (Rd.new _ _ _ trivial) (by intro u hu; simp at hu; subst hu; rfl) (by simp only [maxLen]; omega) (by omega) (by simp; have := hQ.out.size; omega) ?_; intro v2 w2 hown2 hg2 hat2 hz2; have HO := Lib.hid hown2; have HB := Lib.hid ((hQ.out.alloc hQ.out.size _).grown hg2 (by simp; have := hQ.out.size; omega) (fun q hq => (hO.out.lt q hq).1)); clear hown2 hg2 hat2 hz2)
      go_roundw
      case rel => exact ⟨k + 1, by omega, by go_num, by rw [low_snoc HZ.out]; exact own_snoc HO.out (lowB_val z).symm, HB.out⟩
      case measure => simp [intOf]; omega
    · obtain rfl : k = n := by omega
      have HE : Hid (wr.ownsRow w.heap.size 5 1 (.slice A3 k c3) k (bs (zs.map lowB))) := by
        have := hO.out
        rw [List.take_of_length_le (by rw [HN.out]; omega)] at this
        exact this
      go_wp2
      go_ret
      exact ⟨_, rfl, HE.out, hQ.out⟩

/-- All numbers are in a range. -/
def fits (lo hi : Int) (zs : List Int) : Bool := zs.all fun n => decide (lo ≤ n) && decide (n ≤ hi)
theorem fits_take {lo hi : Int} {zs : List Int} (h : fits lo hi zs = true) (k : Nat) : fits lo hi (zs.take k) = true := by
  unfold fits at *
  rw [List.all_eq_true] at *
  exact fun x hx => h x (List.mem_of_mem_take hx)
theorem fits_at {lo hi : Int} {zs : List Int} {k : Nat} {z : Int} (h : fits lo hi zs = true) (hz : zs[k]? = some z) : lo ≤ z ∧ z ≤ hi := by
  unfold fits at h
  rw [List.all_eq_true] at h
  simpa using h z (List.mem_of_getElem? hz)
theorem fits_no {lo hi : Int} {zs : List Int} {k : Nat} {z : Int} (hz : zs[k]? = some z) (h : ¬ (lo ≤ z ∧ z ≤ hi)) : fits lo hi zs = false := by
  cases hf : fits lo hi zs
  · rfl
  · exact absurd (fits_at hf hz) h
theorem fits_next {lo hi : Int} {zs : List Int} {k : Nat} {z : Int} (h : fits lo hi (zs.take k) = true) (hz : zs[k]? = some z) (h2 : lo ≤ z ∧ z ≤ hi) : fits lo hi (zs.take (k + 1)) = true := by
  rw [take_at hz]
  unfold fits at *
  rw [List.all_append, h]
  simpa using h2
set_option maxHeartbeats 400000 in
theorem fits_any (lo hi : Int) (A : Option Addr) (zs : List Int) (c : Nat) (w : World) (p : Nat → Prop) (hm : (zs.length : Int) ≤ 140737488355328) (h : Rd w p A (ils zs)) :
    Calls Try.prog 55 #[.int .i64 lo, .int .i64 hi, .slice A zs.length c] w fun e w' => e = .returned (.bool (fits lo hi zs)) ∧ w = w' := by
  have HR := Lib.hid h
  obtain ⟨n, hn⟩ : ∃ n, zs.length = n := ⟨_, rfl⟩
  rw [hn] at hm
  rw [hn]
  have HN := Lib.hid hn
  clear h hn
  go_enter Try.func55, Try.ntmps55
  go_wp2
  go_loop [11] (fun v => ∃ k : Nat, (k : Int) ≤ n ∧ v = .int .i64 k ∧ Hid (fits lo hi (zs.take k) = true)) (fun v => n - (intOf v).toNat)
  case atStart => exact ⟨0, by omega, rfl, rfl⟩
  case round =>
    obtain ⟨k, hk, rfl, hF⟩ := hrel
    by_cases hlt : k < n
    · obtain ⟨b, o, z, rfl, hc, hz⟩ := HR.out.intAt (k := k) (by rw [HN.out]; exact hlt)
      have HZ := Lib.hid hz
      clear hz
      rcases Int.lt_or_le z lo with h1 | h1
      · have HE := Lib.hid (fits_no HZ.out (lo := lo) (hi := hi) (by omega))
        go_wp2
        go_ret
        exact ⟨ret_bool HE.out.symm, rfl⟩
      · rcases Int.lt_or_le hi z with h2 | h2
        · have HE := Lib.hid (fits_no HZ.out (lo := lo) (hi := hi) (by omega))
          go_wp2
          go_ret
          exact ⟨ret_bool HE.out.symm, rfl⟩
        · go_wp2
          go_round
          case rel => exact ⟨k + 1, by omega, by go_num, fits_next hF.out HZ.out ⟨h1, h2⟩⟩
          case measure => simp [intOf]; omega
    · have HE : Hid (fits lo hi zs = true) := by
        have := hF.out
        rw [List.take_of_length_le (by rw [HN.out]; omega)] at this
        exact this
      go_wp2
      go_ret
      exact ⟨ret_bool HE.out.symm, rfl⟩
set_option maxHeartbeats 400000 in
theorem rfits_any (lo hi : Int) (A : Option Addr) (zs : List Int) (c : Nat) (w : World) (p : Nat → Prop) (hm : (zs.length : Int) ≤ 140737488355328) (h : Rd w p A (ils zs)) :
    Calls Try.prog 29 #[.int .i64 lo, .int .i64 hi, .slice A zs.length c] w fun e w' => e = .returned (.bool (fits lo hi zs)) ∧ w = w' := by
  have HR := Lib.hid h
  obtain ⟨n, hn⟩ : ∃ n, zs.length = n := ⟨_, rfl⟩
  rw [hn] at hm
  rw [hn]
  have HN := Lib.hid hn
  clear h hn
  go_enter Try.func29, Try.ntmps29
  go_wp2
  go_loop [7] (fun v => ∃ k : Nat, (k : Int) ≤ n ∧ v = .int .i64 k ∧ Hid (fits lo hi (zs.take k) = true)) (fun v => n - (intOf v).toNat)
  case atStart => exact ⟨0, by omega, rfl, rfl⟩
  case round =>
    obtain ⟨k, hk, rfl, hF⟩ := hrel
    by_cases hlt : k < n
    · obtain ⟨b, o, z, rfl, hc, hz⟩ := HR.out.intAt (k := k) (by rw [HN.out]; exact hlt)
      have HZ := Lib.hid hz
      clear hz
      rcases Int.lt_or_le z lo with h1 | h1
      · have HE := Lib.hid (fits_no HZ.out (lo := lo) (hi := hi) (by omega))
        go_wp2
        go_ret
        exact ⟨ret_bool HE.out.symm, rfl⟩
      · rcases Int.lt_or_le hi z with h2 | h2
        · have HE := Lib.hid (fits_no HZ.out (lo := lo) (hi := hi) (by omega))
          go_wp2
          go_ret
          exact ⟨ret_bool HE.out.symm, rfl⟩
        · go_wp2
          go_round
          case rel => exact ⟨k + 1, by omega, by go_num, fits_next hF.out HZ.out ⟨h1, h2⟩⟩
          case measure => simp [intOf]; omega
    · have HE : Hid (fits lo hi zs = true) := by
        have := hF.out
        rw [List.take_of_length_le (by rw [HN.out]; omega)] at this
        exact this
      go_wp2
      go_ret
      exact ⟨ret_bool HE.out.symm, rfl⟩
end Go.Proofs.Ytilfbnfejnjaeaa
