/- Strings and bytes: the laws of the conversions, in the form that the walks of this seat take. Over any program. -/
import Derived.Test.YtilfbnfejnjaeaaKit
import Derived.Laws.IdiomStrings
import Derived.Laws.BytesArg
import Derived.Shelf.Bytes.SlSmallAll
namespace Go.Proofs.Ytilfbnfejnjaeaa
open Go.RowKit

/-- The bytes l lie in block g from its first cell on, and may be written. -/
def Buf (w : World) (g : Nat) (l : List UInt8) : Prop := ∀ k (h : k < l.length), w.cell? ⟨g, k, none⟩ = some (.int .u8 (l[k].toNat : Int)) ∧ w.frozen? ⟨g, k, none⟩ = false
section
variable {w w' : World} {g : Nat} {l : List UInt8}
theorem Buf.keep (h : Buf w g l) (hb : w'.heap[g]? = w.heap[g]?) : Buf w' g l := fun k hk =>
  ⟨(World.cell?_of_block (w := w) (a := ⟨g, k, none⟩) hb).trans (h k hk).1, (World.frozen?_of_block (w := w) hb).trans (h k hk).2⟩
theorem Buf.drewN (h : Buf w g l) (n : Nat) : Buf (w.drewN n) g l := h.keep rfl
theorem Buf.set (h : Buf w g l) {k : Nat} (hk : k < l.length) (y : UInt8) : Buf (w.setCell ⟨g, k, none⟩ (.int .u8 (y.toNat : Int))) g (l.set k y) := fun j hj => by
  have hj2 : j < l.length := by simpa using hj
  refine ⟨?_, by rw [World.frozen?_setCell]; exact (h j hj2).2⟩
  by_cases e : k = j
  · subst e
    rw [List.getElem_set_self]
    exact World.cell?_setCell_same _ _ _ (h k hk).1
  · rw [List.getElem_set_ne e, World.cell?_setCell_other _ _ _ _ (fun e2 => e (by injection e2))]
    exact (h j hj2).1
theorem Buf.rd (h : Buf w g l) : Rd w (fun q => q = g) (some ⟨g, 0, none⟩) (bs l) := fun _ => by
  refine ⟨_, rfl, rfl, fun j u hu => ?_⟩
  obtain ⟨hj, hv⟩ := List.getElem?_eq_some_iff.1 hu
  rw [bs_get] at hv
  rw [Go.Addr.add_lit, ← hv, Nat.zero_add]
  exact (h j (by simpa [bs_length] using hj)).1
end

theorem buf_row (w : World) (e : TypeId) (s : ByteArray) :
    Buf (w.drew.alloc (.cells (bytesRow s (grownCap w s.size 0 e)) e ((bytesRow s (grownCap w s.size 0 e)).size, (bytesRow s (grownCap w s.size 0 e)).size + 1))) w.heap.size s.data.toList := fun k hk => by
  obtain ⟨C, hC⟩ : ∃ C, bytesRow s (grownCap w s.size 0 e) = C := ⟨_, rfl⟩
  rw [hC]
  have hb : (w.drew.alloc (.cells C e (C.size, C.size + 1))).heap[w.heap.size]? = some (.cells C e (C.size, C.size + 1)) := heap_alloc_new w.drew _
  have hk2 : k < s.data.size := by simpa using hk
  have hk3 : k < s.size := hk2
  have hlt : k < C.size := by
    have e2 : s.size = s.data.size := rfl
    rw [← hC]; simp [bytesRow]; omega
  refine ⟨?_, ?_⟩
  · unfold World.cell?
    simp only [hb]
    rw [← hC]
    simp [bytesRow, Array.getElem?_append, hk2, hk3]
  · unfold World.frozen?
    simp only [hb]
    simp
    omega

section
variable {P : Program} {w : World} {ops : Array Oper} {rest : List Oper} {o : Oper} {a : Act} {Q : Exit → Act → World → Prop}
/-- '[]byte(s)'. -/
theorem wpList_toBytes (hgd : o.guard = none) (src dst e : TypeId) (hs : P.underlying src = some .string) (hd : P.underlying dst = some (.slice e)) (he : P.underlying e = some (.int .u8))
    (x : Operand) (ho : o.op = .convert src dst x) (s : ByteArray) (hx : a.eval x = .string s)
    (h : ∀ cap w', s.size ≤ cap → Buf w' w.heap.size s.data.toList → Below w.heap.size w w' → w.heap.size < w'.heap.size → wpList P ops Q rest (a.put o.dst (.slice (some ⟨w.heap.size, 0, none⟩) s.size cap)) w') :
    wpList P ops Q (o :: rest) a w :=
  wpList_plain hgd fun _ hK => by
    unfold Oper.wp execOp
    simp only [ho, hx, run_bytes_of_string w src dst e s hs hd he, Sem.run_bind, Sem.run_pure, Result.andThen_ok]
    exact hK _ _ (h _ _ (grownCap_ge w s.size 0 e) (buf_row w e s) ((Below.refl _ _).drew.alloc (Nat.le_refl _) _) (by simp))
theorem run_ofBytes (src dst e : TypeId) (hs : P.underlying src = some (.slice e)) (hd : P.underlying dst = some .string) (he : P.underlying e = some (.int .u8)) (A : Option Addr) (cap : Nat) (l : List UInt8) (p : Nat → Prop) (hr : Rd w p A (bs l)) :
    (convert src dst (.slice A l.length cap)).run P w = .ok (.string ⟨l.toArray⟩) w := by
  by_cases hl : l = []
  · subst hl
    cases A with
    | none => simp [convert, run_underlying hs, run_underlying he, run_underlying hd, Conv.bytesToString]; rfl
    | some ad => exact run_convert_bytes_back w src dst e ad cap [] hs he hd (fun j hj => absurd hj (Nat.not_lt_zero _))
  · obtain ⟨ad, rfl, _, hc⟩ := hr (fun e => hl (List.eq_nil_of_length_eq_zero (by rw [← bs_length, e]; rfl)))
    refine run_convert_bytes_back w src dst e ad cap l hs he hd (fun j hj => ?_)
    have hj2 : j < (bs l).length := by rw [bs_length]; exact hj
    rw [hc j _ (List.getElem?_eq_getElem hj2), bs_get]
/-- 'string(b)'. -/
theorem wpList_ofBytes (hgd : o.guard = none) (src dst e : TypeId) (hs : P.underlying src = some (.slice e)) (hd : P.underlying dst = some .string) (he : P.underlying e = some (.int .u8))
    (x : Operand) (ho : o.op = .convert src dst x) (A : Option Addr) (cap : Nat) (l : List UInt8) (n : Nat) (p : Nat → Prop) (hx : a.eval x = .slice A n cap) (hn : n = l.length) (hr : Rd w p A (bs l))
    (h : wpList P ops Q rest (a.put o.dst (.string ⟨l.toArray⟩)) w) :
    wpList P ops Q (o :: rest) a w :=
  wpList_plain hgd fun _ hK => by
    subst hn
    unfold Oper.wp execOp
    simp only [ho, hx, run_ofBytes src dst e hs hd he A cap l p hr, Sem.run_bind, Sem.run_pure, Result.andThen_ok]
    exact hK _ _ h
end

theorem lt_of_blk {w : World} {b : Nat} {o : Obj} (h : w.heap[b]? = some o) : b < w.heap.size := by
  rcases Nat.lt_or_ge b w.heap.size with h' | h'
  · exact h'
  · simp [Array.getElem?_eq_none h'] at h
theorem own_ne {w : World} {B g n : Nat} {e t : TypeId} {size : Nat} {v : Value} {xs : List Value} {c : Array Value} {f : Nat × Nat} (h : w.ownsRow B e size v n xs) (hb : w.heap[g]? = some (.cells c t f)) (ht : t ≠ e) : some g ≠ v.ownBlock := fun e2 => by
  obtain ⟨_, hr⟩ := h
  rcases hr with ⟨hv, _⟩ | ⟨g', cap, cur, hv, _, hb2, _⟩
  · rw [hv] at e2; cases e2
  · rw [hv] at e2
    obtain rfl : g = g' := Option.some.inj e2
    rw [hb] at hb2
    injection hb2 with hb2
    injection hb2 with _ hb2
    exact ht hb2
theorem one_set {w : World} {b : Nat} {v u : Value} {t : TypeId} (h : w.heap[b]? = some (.cells #[v] t (0, 0))) : (w.setCell ⟨b, 0, none⟩ u).heap[b]? = some (.cells #[u] t (0, 0)) := by
  have hlt := lt_of_blk h
  have h' : w.heap[b] = .cells #[v] t (0, 0) := by simpa [Array.getElem?_eq_getElem hlt] using h
  show (w.heap.modify b _)[b]? = _
  rw [Array.getElem?_eq_getElem (by simpa using hlt), Array.getElem_modify_self, h']
  rfl
theorem str_len (s : ByteArray) : s.data.toList.length = s.size := by simp
/-- Byte k of a string. -/
theorem str_at (s : ByteArray) {k : Nat} (h : k < s.size) : ∃ c : UInt8, s[k] = c ∧ s.data.toList[k]? = some c := ⟨s[k], rfl, by
  rw [List.getElem?_eq_getElem (by rw [str_len]; exact h)]
  rfl⟩
theorem str_empty (s : ByteArray) : s.toList.isEmpty = decide (s.data.toList = []) := by
  rw [ByteArray.toList_eq]
  cases s.data.toList <;> simp
theorem take_at {α : Type} {l : List α} {k : Nat} {c : α} (h : l[k]? = some c) : l.take (k + 1) = l.take k ++ [c] := by
  rw [List.take_add_one, h]
  rfl
theorem lt_at {α : Type} {l : List α} {k : Nat} {c : α} (h : l[k]? = some c) : k < l.length := (List.getElem?_eq_some_iff.1 h).1
theorem byte_le (c : UInt8) : (c.toNat : Int) ≤ 255 := by have := c.toNat_lt; omega
end Go.Proofs.Ytilfbnfejnjaeaa
