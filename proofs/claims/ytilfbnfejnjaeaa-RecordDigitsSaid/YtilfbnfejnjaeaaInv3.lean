/- Plain Lean: what a line of a record is parsed to. -/
import Derived.Test.YtilfbnfejnjaeaaRparse
import Derived.Test.YtilfbnfejnjaeaaRprint
import Derived.Test.YtilfbnfejnjaeaaLower
namespace Go.Proofs.Ytilfbnfejnjaeaa
open Go.RowKit

theorem hd_facts : ∀ d : Fin 16, hv (hd d.val) = d.val ∧ upc (hd d.val) = hd d.val ∧ upc (lowc (hd d.val)) = hd d.val := by decide +kernel
theorem hexS_two (c : UInt8) : hexS (c.toNat : Int) 2 = [hd (c.toNat / 16), hd (c.toNat % 16)] := by
  have := c.toNat_lt
  have e1 : ((c.toNat : Int) / (16 : Int) ^ 1 % 16).toNat = c.toNat / 16 := by omega
  have e2 : ((c.toNat : Int) / (16 : Int) ^ 0 % 16).toNat = c.toNat % 16 := by omega
  rw [hexS, hexS, hexS, e1, e2]
theorem hexes_cons (c : UInt8) (l : List UInt8) : hexes (c :: l) = hd (c.toNat / 16) :: hd (c.toNat % 16) :: hexes l := by
  have e : hexes (c :: l) = hexS (c.toNat : Int) 2 ++ hexes l := by simp [hexes]
  rw [e, hexS_two]
  rfl
theorem hd_of {d : Nat} (h : d < 16) : hv (hd d) = d ∧ upc (hd d) = hd d ∧ upc (lowc (hd d)) = hd d := hd_facts ⟨d, h⟩
theorem pairs_hexes : ∀ l : List UInt8, pairs (hexes l) = some l
  | [] => rfl
  | c :: l => by
    have := c.toNat_lt
    rw [hexes_cons, pairs_cons, (hd_of (d := c.toNat / 16) (by omega)).1, (hd_of (d := c.toNat % 16) (by omega)).1, if_pos ⟨by omega, by omega⟩, pairs_hexes l]
    rw [show c.toNat / 16 * 16 + c.toNat % 16 = c.toNat from by omega]
    simp
theorem upc_hexes : ∀ l : List UInt8, (hexes l).map upc = hexes l
  | [] => rfl
  | c :: l => by
    have := c.toNat_lt
    rw [hexes_cons, List.map_cons, List.map_cons, (hd_of (d := c.toNat / 16) (by omega)).2.1, (hd_of (d := c.toNat % 16) (by omega)).2.1, upc_hexes l]
theorem low_hexes : ∀ l : List UInt8, ((hexes l).map lowc).map upc = hexes l
  | [] => rfl
  | c :: l => by
    have := c.toNat_lt
    rw [hexes_cons, List.map_cons, List.map_cons, List.map_cons, List.map_cons, (hd_of (d := c.toNat / 16) (by omega)).2.2, (hd_of (d := c.toNat % 16) (by omega)).2.2, low_hexes l]
theorem ck_closed (X : List UInt8) : ck (X ++ [UInt8.ofNat (ck X)]) = 0 := by
  have := ck_lt X
  have e : (UInt8.ofNat (ck X)).toNat = ck X := by rw [UInt8.toNat_ofNat']; omega
  show (256 - tsum (X ++ [UInt8.ofNat (ck X)]) % 256) % 256 = 0
  rw [tsum_append, tsum_one, e]
  unfold ck
  omega
theorem lowB_nat {z : Int} (h0 : 0 ≤ z) (h1 : z ≤ 255) : (lowB z).toNat = z.toNat := by
  have := lowB_val z
  omega
/-- The bytes of a line of a record are parsed to it. -/
theorem rec_of {t a : Int} {d r : List UInt8} (h : rightB t a d.length = true) (hr : pairs (r.map upc) = some ((headB d.length a t ++ d) ++ [UInt8.ofNat (ck (headB d.length a t ++ d))])) :
    recOf (58 :: r) = (0, t.toNat, a.toNat, d) := by
  obtain ⟨h1, h2, h3, h4, h5⟩ := (rightB_iff _ _ _).1 h
  rw [recOf_some hr, ck_closed]
  have hl : ((headB d.length a t ++ d) ++ [UInt8.ofNat (ck (headB d.length a t ++ d))]).length = d.length + 5 := by
    simp [headB]
  rw [hl, if_neg (by omega)]
  obtain ⟨z, hz⟩ : ∃ z, UInt8.ofNat (ck (headB d.length a t ++ d)) = z := ⟨_, rfl⟩
  rw [hz]
  have e0 : ((headB d.length a t ++ d ++ [z]).headD 0).toNat = d.length := by
    show (lowB (d.length : Int)).toNat = _
    rw [lowB_nat (by omega) h5]
    omega
  rw [e0, if_neg (by omega), if_neg (by decide)]
  have e1 : be (((headB d.length a t ++ d ++ [z]).drop 3).take 1) = t.toNat := by
    show be [lowB t] = _
    simp [be, lowB_nat h1 h2]
  have e2 : be (((headB d.length a t ++ d ++ [z]).drop 1).take 2) = a.toNat := by
    show be [lowB (a / 256), lowB a] = _
    have := lowB_val (a / 256)
    have := lowB_val a
    simp only [be, List.foldl_cons, List.foldl_nil]
    omega
  have e3 : ((headB d.length a t ++ d ++ [z]).drop 4).take (d.length + 5 - 5) = d := by
    show (d ++ [z]).take _ = _
    rw [show d.length + 5 - 5 = d.length from by omega, List.take_left]
  rw [e1, e2, e3]
/-- Parse inverts Print. -/
theorem rec_line {t a : Int} {d : List UInt8} (h : rightB t a d.length = true) : recOf (lineOf (headB d.length a t ++ d)) = (0, t.toNat, a.toNat, d) :=
  rec_of h (by rw [upc_hexes, pairs_hexes])
theorem rec_low {t a : Int} {d : List UInt8} (h : rightB t a d.length = true) : recOf (58 :: ((lineOf (headB d.length a t ++ d)).drop 1).map lowc) = (0, t.toNat, a.toNat, d) :=
  rec_of h (by
    show pairs (((hexes _).map lowc).map upc) = _
    rw [low_hexes, pairs_hexes])
end Go.Proofs.Ytilfbnfejnjaeaa
