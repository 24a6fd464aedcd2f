/- The walk of Split of the reference. -/
import Derived.Test.YtilfbnfejnjaeaaSplit2
namespace Go.Proofs.Ytilfbnfejnjaeaa
open Go.RowKit Go.Shelf

theorem keepD {w w' : World} {p : Nat → Prop} (hb : Below w.heap.size w w') {xs : List Value} {R : List (Int × List UInt8)} (h : RecVals (fun u d => ∃ A c, u = .slice A d.length c ∧ Rd w p A (bs d)) xs R) : RecVals (fun u d => ∃ A c, u = .slice A d.length c ∧ Rd w' p A (bs d)) xs R :=
  h.mono fun _ _ ⟨A, c, e, hr⟩ => ⟨A, c, e, hr.after hb⟩

set_option maxRecDepth 100000 in
set_option maxHeartbeats 1000000 in
theorem rsplit_no (a sz : Int) (A : Option Addr) (n c : Nat) (w : World) (h : splitOk a sz n = false) :
    Calls Try.prog 27 #[.int .i64 a, .int .i64 sz, .slice A n c] w fun e w' => e = .returned (.slice none 0 0) ∧ w = w' := by
  by_cases h1 : 1 ≤ sz
  · by_cases h2 : sz ≤ 255
    · by_cases h3 : 0 ≤ a
      · by_cases h4 : a ≤ 65535
        · have h5 : (n : Int) > 65536 - a := by
            by_cases hx : (n : Int) > 65536 - a
            · exact hx
            · exfalso
              simp [splitOk, h1, h2, h3, h4] at h
              omega
          clear h
          go_enter Try.func27, Try.ntmps27
          go_wp2
          go_ret
          exact ⟨rfl, rfl⟩
        · have h5 : 65535 < a := by omega
          clear h h4
          go_enter Try.func27, Try.ntmps27
          go_wp2
          go_ret
          exact ⟨rfl, rfl⟩
      · have h4 : a < 0 := by omega
        clear h h3
        go_enter Try.func27, Try.ntmps27
        go_wp2
        go_ret
        exact ⟨rfl, rfl⟩
    · have h3 : 255 < sz := by omega
      clear h h2
      go_enter Try.func27, Try.ntmps27
      go_wp2
      go_ret
      exact ⟨rfl, rfl⟩
  · have h2 : sz < 1 := by omega
    clear h h1
    go_enter Try.func27, Try.ntmps27
    go_wp2
    go_ret
    exact ⟨rfl, rfl⟩

/-- The first j records. -/
def recsTo (a : Int) (sz : Nat) (l : List UInt8) (j : Nat) : List (Int × List UInt8) := (List.range j).map fun k => (a + ((k * sz : Nat) : Int), (l.drop (k * sz)).take sz)
theorem recsTo_succ (a : Int) (sz : Nat) (l : List UInt8) (j : Nat) : recsTo a sz l (j + 1) = recsTo a sz l j ++ [(a + ((j * sz : Nat) : Int), (l.drop (j * sz)).take sz)] := by simp [recsTo, List.range_succ]
theorem recsTo_length (a : Int) (sz : Nat) (l : List UInt8) (j : Nat) : (recsTo a sz l j).length = j := by simp [recsTo]

set_option maxRecDepth 100000 in
set_option maxHeartbeats 1000000 in
theorem rsplit_yes (a : Int) (sz : Nat) (A : Option Addr) (l : List UInt8) (c : Nat) (w : World) (p : Nat → Prop) (h1 : 1 ≤ (sz : Int)) (h2 : (sz : Int) ≤ 255) (ha0 : 0 ≤ a) (ha1 : a ≤ 65535) (hl : (l.length : Int) ≤ 65536 - a) (hc : l.length ≤ c) (h : Rd w p A (bs l)) :
    Calls Try.prog 27 #[.int .i64 a, .int .i64 (sz : Int), .slice A l.length c] w fun e w' => ∃ v xs, e = .returned v ∧ w'.ownsRow w.heap.size 29 3 v (recsOf a sz l).length xs ∧
      RecVals (fun u d => ∃ A c, u = .slice A d.length c ∧ Rd w' p A (bs d)) xs (recsOf a sz l) ∧ Below w.heap.size w w' := by
  have hdec : decide (65536 - a < (l.length : Int)) = false := by simp; omega
  have hA : ∃ b o, l.length = 0 ∨ A = some ⟨b, o, none⟩ := by
    by_cases hx : l = []
    · exact ⟨0, 0, .inl (by simp [hx])⟩
    · obtain ⟨b, o, e, _⟩ := h.ex (fun e => hx (by simpa [bs] using e))
      exact ⟨b, o, .inr e⟩
  obtain ⟨b, o, hA⟩ := hA
  have HH := Lib.hid (show (l.length = 0 ∨ A = some ⟨b, o, none⟩) ∧ Rd w p A (bs l) from ⟨hA, h⟩)
  clear hA h
  go_enter Try.func27, Try.ntmps27
  go_wp2
  go_loopw [7, 8] (fun u v wr => ∃ (k q : Nat) (xs : List Value), v = .int .i64 (q : Int) ∧ Hid (k ≤ nparts l.length sz ∧ k * sz = q ∧ wr.ownsRow w.heap.size 29 3 u k xs ∧ RecVals (fun u d => ∃ A c, u = .slice A d.length c ∧ Rd w p A (bs d)) xs (recsTo a sz l k) ∧ Below w.heap.size w wr))
    (fun _ v _ => l.length - (intOf v).toNat)
  case atStart => exact ⟨0, 0, [], rfl, Nat.zero_le _, by simp, World.ownsRow_nil _ _ _ _, RecVals.nil _, Below.refl _ _⟩
  case round =>
    obtain ⟨k, q, xs, rfl, H⟩ := hrel
    obtain ⟨hk, hq, hown, hvals, hb⟩ := H.out
    by_cases hlt : q < l.length
    · have hA' := HH.out.1.resolve_left (by omega)
      subst hA'
      obtain ⟨m, hm⟩ : ∃ m, pl l.length sz k = m := ⟨_, rfl⟩
      have hm' : min sz (l.length - q) = m := by rw [← hm, pl, hq]
      have hmin : min ((q : Int) + (sz : Int)) (l.length : Int) = ((q + m : Nat) : Int) := by omega
      have hm1 : q + m ≤ l.length := by omega
      have hkk : k ≤ q := by rw [← hq]; exact Nat.le_mul_of_pos_right _ (by omega)
      have hown1 := hown.alloc (.cells #[.int .i64 0, .int .i64 (a + (q : Int)), .slice (some ⟨b, o + q, none⟩) m (c - q)] 29)
      have hrd := Rd.new wr #[.int .i64 0, .int .i64 (a + (q : Int)), .slice (some ⟨b, o + q, none⟩) m (c - q)] 29 (p := fun _ => True) trivial
      have hsz := hb.size
      have HV : Hid (k + 1 ≤ nparts l.length sz ∧ (k + 1) * sz = q + sz ∧ RecVals (fun u d => ∃ A c, u = .slice A d.length c ∧ Rd w p A (bs d)) (xs ++ [.int .i64 0, .int .i64 (a + (q : Int)), .slice (some ⟨b, o + q, none⟩) m (c - q)]) (recsTo a sz l (k + 1))) := by
        refine ⟨(nparts_lt (by omega)).2 (by rw [hq]; exact hlt), by rw [Nat.succ_mul, hq], ?_⟩
        have hcl := chunk_len l sz k
        rw [hm] at hcl
        rw [recsTo_succ, ← hcl, hq]
        rw [hq] at hcl
        refine hvals.snoc ⟨_, _, rfl, ?_⟩
        have e : (⟨b, o, none⟩ : Addr).add q = ⟨b, o + q, none⟩ := by by_cases h0 : q = 0 <;> simp [Addr.add, h0]
        have := (HH.out.2.drop q).take sz
        rw [Option.map_some, e] at this
        simpa [bs] using this
      clear hk hq hm hm' hvals
      go_wp2_with (at_builtin; refine wpList_app el50 rfl (.tmp 37) (.tmp 51) rfl w.heap.size _ k xs (fun _ => True) (some ⟨wr.heap.size, 0, none⟩) 1 1 _ rfl rfl hown1 rfl hrd (by simp [Value.oneCell']) (by simp only [maxLen]; omega) (by omega) (by simp; omega) ?_; intro v' w1 hown2 hg1 hat1 hz1)
      refine ⟨⟨k + 1, q + sz, _, by simp, Lib.hid ⟨HV.out.1, HV.out.2.1, hown2, HV.out.2.2, ?_⟩⟩, by simp [intOf]; omega⟩
      exact (hb.alloc hsz _).grown hg1 (by simp; omega) fun j ej => (hown.lt j ej).1
    · have hkk : k = nparts l.length sz := by
        have := mt (nparts_lt (len := l.length) (k := k) (sz := sz) (by omega)).1 (by rw [hq]; exact hlt)
        omega
      clear hk hq
      go_wp2
      go_ret
      refine ⟨_, xs, rfl, ?_, ?_, hb⟩
      · have : (recsOf a sz l).length = k := by rw [hkk]; simp [recsOf]
        rw [this]
        exact hown
      · rw [hkk] at hvals
        exact hvals.mono fun _ _ ⟨A, c, e, hr⟩ => ⟨A, c, e, hr.after hb⟩
end Go.Proofs.Ytilfbnfejnjaeaa
