/- Records in memory, as a slice; the parts of a list of bytes; one more record. -/
import Derived.Test.YtilfbnfejnjaeaaChunk
namespace Go.Proofs.Ytilfbnfejnjaeaa
open Go.RowKit Go.Shelf

theorem el48 : El Try.prog 48 25 (.agg #[.int .i64 0, .int .i64 0, .slice none 0 0]) 3 40 := ⟨Try.underlying48, by kernel_rfl, rfl, by decide⟩
theorem el50 : El Try.prog 50 29 (.agg #[.int .i64 0, .int .i64 0, .slice none 0 0]) 3 40 := ⟨Try.underlying50, by kernel_rfl, rfl, by decide⟩

theorem own_ne2 {w : World} {b1 b2 n1 n2 : Nat} {e1 e2 : TypeId} {s1 s2 : Nat} {v1 v2 : Value} {xs ys : List Value} (h1 : w.ownsRow b1 e1 s1 v1 n1 xs) (h2 : w.ownsRow b2 e2 s2 v2 n2 ys) (he : e1 ≠ e2) {g : Nat} (hg : v1.ownBlock = some g) : v2.ownBlock ≠ some g := by
  rcases h1.2 with ⟨rfl, _⟩ | ⟨g1, c1, cur1, rfl, _, hh1, _⟩
  · simp [Value.ownBlock] at hg
  · have e1' : g1 = g := Option.some.inj hg
    subst e1'
    exact fun e => own_ne h2 hh1 he e.symm
theorem own_row {w : World} {b1 b2 n1 n2 : Nat} {e1 e2 : TypeId} {s1 s2 : Nat} {v1 v2 : Value} {xs ys : List Value} (h1 : w.ownsRow b1 e1 s1 v1 n1 xs) (h2 : w.ownsRow b2 e2 s2 v2 n2 ys) (he : e1 ≠ e2) : v1.ownBlock = none ∨ v1.ownBlock ≠ v2.ownBlock := by
  cases hv : v1.ownBlock with
  | none => exact .inl rfl
  | some g => exact .inr fun e => own_ne2 h1 h2 he hv e.symm

/-- The values xs are the records R, of type 0, of whose data D is said. -/
def RecVals (D : Value → List UInt8 → Prop) (xs : List Value) (R : List (Int × List UInt8)) : Prop :=
  xs.length = R.length * 3 ∧ ∀ i (h : i < R.length), xs[i * 3]? = some (.int .i64 0) ∧ xs[i * 3 + 1]? = some (.int .i64 R[i].1) ∧ ∃ A c, xs[i * 3 + 2]? = some (.slice A R[i].2.length c) ∧ D (.slice A R[i].2.length c) R[i].2
section
variable {D D' : Value → List UInt8 → Prop} {xs : List Value} {R : List (Int × List UInt8)}
theorem RecVals.nil (D : Value → List UInt8 → Prop) : RecVals D [] [] := ⟨rfl, fun i h => absurd h (Nat.not_lt_zero _)⟩
theorem RecVals.mono (h : RecVals D xs R) (hD : ∀ v d, D v d → D' v d) : RecVals D' xs R :=
  ⟨h.1, fun i hi => let ⟨h1, h2, A, c, h3, h4⟩ := h.2 i hi; ⟨h1, h2, A, c, h3, hD _ _ h4⟩⟩
theorem RecVals.snoc (h : RecVals D xs R) {a : Int} {d : List UInt8} {A : Option Addr} {c : Nat} (hr : D (.slice A d.length c) d) : RecVals D (xs ++ [.int .i64 0, .int .i64 a, .slice A d.length c]) (R ++ [(a, d)]) := by
  refine ⟨by simp [h.1]; omega, fun i hi => ?_⟩
  rw [List.length_append, List.length_singleton] at hi
  by_cases hlt : i < R.length
  · obtain ⟨h1, h2, A', c', h3, h4⟩ := h.2 i hlt
    have e : (R ++ [(a, d)])[i] = R[i] := List.getElem_append_left hlt
    rw [List.getElem?_append_left (by rw [h.1]; omega), List.getElem?_append_left (by rw [h.1]; omega), List.getElem?_append_left (by rw [h.1]; omega), e]
    exact ⟨h1, h2, A', c', h3, h4⟩
  · obtain rfl : i = R.length := by omega
    have e : (R ++ [(a, d)])[R.length]'(by simp) = (a, d) := by simp
    rw [List.getElem?_append_right (by rw [h.1]; omega), List.getElem?_append_right (by rw [h.1]; omega), List.getElem?_append_right (by rw [h.1]; omega), h.1, e]
    simp only [Nat.sub_self, Nat.add_sub_cancel_left, List.getElem?_cons_zero, List.getElem?_cons_succ, true_and]
    exact ⟨A, c, rfl, hr⟩
end

/-- The parts of a list of bytes with their addresses. -/
def recsOf (a : Int) (sz : Nat) (l : List UInt8) : List (Int × List UInt8) := (List.range (nparts l.length sz)).map fun k => (a + ((k * sz : Nat) : Int), (l.drop (k * sz)).take sz)
/-- What the parts that have come make: the next address; the records. -/
def st (a : Int) (l : List UInt8) (sz : Nat) (pre : List (Pt l.length sz)) : Int × List (Int × List UInt8) :=
  pre.foldl (fun s x => (s.1 + ((min sz (l.length - x.1 * sz) : Nat) : Int), s.2 ++ [(s.1, (l.drop (x.1 * sz)).take sz)])) (a, [])
theorem st_snoc (a : Int) (l : List UInt8) (sz : Nat) (pre : List (Pt l.length sz)) (x : Pt l.length sz) :
    st a l sz (pre ++ [x]) = ((st a l sz pre).1 + ((min sz (l.length - x.1 * sz) : Nat) : Int), (st a l sz pre).2 ++ [((st a l sz pre).1, (l.drop (x.1 * sz)).take sz)]) := by
  simp [st]
theorem st_len (a : Int) (l : List UInt8) (sz : Nat) : ∀ (n : Nat) (pre : List (Pt l.length sz)), pre.length = n → (st a l sz pre).2.length = n ∧ a ≤ (st a l sz pre).1 ∧ (st a l sz pre).1 ≤ a + ((n * sz : Nat) : Int)
  | 0, pre, h => by
    have : pre = [] := List.eq_nil_of_length_eq_zero h
    subst this
    simp [st]
  | n + 1, pre, h => by
    have hne : pre ≠ [] := fun e => by rw [e] at h; simp at h
    have hd := List.dropLast_concat_getLast hne
    obtain ⟨h1, h2, h3⟩ := st_len a l sz n pre.dropLast (by simp [h])
    rw [← hd, st_snoc]
    refine ⟨by simp [h1], ?_, ?_⟩
    · show _ ≤ _ + _
      omega
    · show _ + _ ≤ _
      rw [Nat.succ_mul]
      have : min sz (l.length - (pre.getLast hne).1 * sz) ≤ sz := Nat.min_le_left _ _
      omega
theorem st_range (a : Int) (l : List UInt8) (sz : Nat) : ∀ (j : Nat) (ys : List (Pt l.length sz)), ys.map Subtype.val = List.range j →
    (st a l sz ys).1 = a + ((min (j * sz) l.length : Nat) : Int) ∧ (st a l sz ys).2 = (List.range j).map fun k => (a + ((k * sz : Nat) : Int), (l.drop (k * sz)).take sz)
  | 0, ys, h => by
    have : ys = [] := List.eq_nil_of_length_eq_zero (by have := congrArg List.length h; simpa using this)
    subst this
    simp [st]
  | j + 1, ys, h => by
    rw [List.range_succ] at h
    obtain ⟨ys', zs, rfl, h1, h2⟩ := List.map_eq_append_iff.1 h
    obtain ⟨x, rfl, hx⟩ : ∃ x, zs = [x] ∧ x.1 = j := by
      match zs, h2 with
      | [x], h2 => exact ⟨x, rfl, by simpa using h2⟩
    obtain ⟨i1, i2⟩ := st_range a l sz j ys' h1
    have hlt := x.2
    rw [hx] at hlt
    rw [st_snoc, hx, i1, i2, List.range_succ, List.map_append, Nat.succ_mul]
    refine ⟨?_, ?_⟩
    · show _ + _ = _
      omega
    · show _ ++ [(_, _)] = _ ++ [(_, _)]
      rw [Nat.min_eq_left (Nat.le_of_lt hlt)]
theorem st_all (a : Int) (l : List UInt8) (sz : Nat) (ys : List (Pt l.length sz)) (h : ys.map Subtype.val = List.range (nparts l.length sz)) : (st a l sz ys).2 = recsOf a sz l := (st_range a l sz _ ys h).2

/-- What holds between two rounds: the box of the slice, the box of the address, the records. -/
structure SI (n0 Bo Ba : Nat) (a : Int) (l : List UInt8) (sz : Nat) (v : Value) (xs : List Value) (pre : List (Pt l.length sz)) (W : World) : Prop where
  box : Boxed W Bo 48 v
  own : W.ownsRow n0 25 3 v (st a l sz pre).2.length xs
  vals : RecVals (fun u d => W.ownsRow n0 5 1 u d.length (bs d)) xs (st a l sz pre).2
  adr : Boxed W Ba 3 (.int .i64 (st a l sz pre).1)
theorem SI.kept {n0 Bo Ba : Nat} {a : Int} {l : List UInt8} {sz : Nat} {v : Value} {xs : List Value} {pre : List (Pt l.length sz)} {W W' : World} {row : Option Nat} (h : SI n0 Bo Ba a l sz v xs pre W) (hg : W.grownBy W' row)
    (hrow : ∀ r, row = some r → ∃ o : Obj, W.heap[r]? = some o ∧ o.isCells = false) : SI n0 Bo Ba a l sz v xs pre W' := by
  have key : ∀ {B : Nat} {cs : Array Value} {t : TypeId} {f : Nat × Nat}, W.heap[B]? = some (.cells cs t f) → some B ≠ row := fun hB e => by
    obtain ⟨o, ho, hc⟩ := hrow _ e.symm
    rw [hB] at ho; cases ho; cases hc
  have key2 : ∀ {e : TypeId} {size n : Nat} {u : Value} {ys : List Value}, W.ownsRow n0 e size u n ys → u.ownBlock = none ∨ u.ownBlock ≠ row := fun hr => by
    rcases hr.2 with ⟨rfl, _⟩ | ⟨g, cap, cur, rfl, _, hgb, _⟩
    · exact .inl rfl
    · exact .inr (key hgb)
  exact ⟨h.box.kept hg (key h.box), h.own.kept hg (key2 h.own), h.vals.mono fun u d hu => hu.kept hg (key2 hu), h.adr.kept hg (key h.adr)⟩
theorem SI.own_ex {n0 Bo Ba : Nat} {a : Int} {l : List UInt8} {sz : Nat} : Own (fun pre W => ∃ v xs, SI n0 Bo Ba a l sz v xs pre W) := fun _ _ _ _ ⟨v, xs, h⟩ hg hr => ⟨v, xs, h.kept hg hr⟩

/-- One round. -/
theorem SI.step {n0 Bo Ba : Nat} {a : Int} {l : List UInt8} {sz : Nat} {v v' v4 : Value} {xs : List Value} {pre : List (Pt l.length sz)} {x : Pt l.length sz} {W W1 w5 : World} {tmp : Obj} {A : Option Addr} {c k : Nat}
    (h : SI n0 Bo Ba a l sz v xs pre W) (hn0 : n0 ≤ W.heap.size) (hBo : Bo < n0) (hBa : Ba < n0) (hne : Bo ≠ Ba) (hk : (st a l sz pre).2.length = k)
    (hb1 : Below W.heap.size W W1) (e4 : v4 = .slice A ((l.drop (x.1 * sz)).take sz).length c) (hc : W1.ownsRow W.heap.size 5 1 v4 ((l.drop (x.1 * sz)).take sz).length (bs ((l.drop (x.1 * sz)).take sz)))
    (hown : w5.ownsRow n0 25 3 v' (k + 1) (xs ++ [.int .i64 0, .int .i64 (st a l sz pre).1, v4])) (hg : (W1.alloc tmp).grownBy w5 v.ownBlock) {z : Int} (hz : (st a l sz (pre ++ [x])).1 = z) :
    KeepsOthers W ((w5.setCell ⟨Bo, 0, none⟩ v').setCell ⟨Ba, 0, none⟩ (.int .i64 z)) ∧
      (∀ B, B < n0 → B ≠ Bo → B ≠ Ba → ((w5.setCell ⟨Bo, 0, none⟩ v').setCell ⟨Ba, 0, none⟩ (.int .i64 z)).heap[B]? = W.heap[B]?) ∧
      (∃ v xs, SI n0 Bo Ba a l sz v xs (pre ++ [x]) ((w5.setCell ⟨Bo, 0, none⟩ v').setCell ⟨Ba, 0, none⟩ (.int .i64 z))) ∧
      ∀ n, n ≤ Bo → n ≤ Ba → n ≤ n0 → Below n W ((w5.setCell ⟨Bo, 0, none⟩ v').setCell ⟨Ba, 0, none⟩ (.int .i64 z)) := by
  have hsz := hb1.size
  have hlow : ∀ i, i < W.heap.size → some i ≠ v.ownBlock → w5.heap[i]? = W.heap[i]? := fun i hi hne =>
    (hg.block i (by simp; omega) hne).trans ((Below.heap_alloc W1 tmp i (by omega)).trans (hb1.block i hi))
  have hv0 : ∀ i, i < n0 → some i ≠ v.ownBlock := fun i hi e => by have := (h.own.lt i e.symm).1; omega
  have hbox5 : Boxed w5 Bo 48 v := (hlow Bo h.box.lt (hv0 Bo hBo)).trans h.box
  have hadr5 : Boxed w5 Ba 3 (.int .i64 (st a l sz pre).1) := (hlow Ba h.adr.lt (hv0 Ba hBa)).trans h.adr
  have hown1 : (W1.alloc tmp).ownsRow n0 25 3 v (st a l sz pre).2.length xs := (own_over h.own hb1).alloc tmp
  have hd5 : ∀ {n : Nat} {u : Value} {ys : List Value}, (W1.alloc tmp).ownsRow n0 5 1 u n ys → w5.ownsRow n0 5 1 u n ys := fun hu => hu.kept hg (own_row hu hown1 (by decide))
  have hset : ∀ {e : TypeId} {size n : Nat} {u : Value} {ys : List Value}, w5.ownsRow n0 e size u n ys → ((w5.setCell ⟨Bo, 0, none⟩ v').setCell ⟨Ba, 0, none⟩ (.int .i64 z)).ownsRow n0 e size u n ys := fun {e} {size} {n} {u} {ys} hu => by
    have far : ∀ B, B < n0 → u.ownBlock = none ∨ u.ownBlock ≠ some B := fun B hB => .inr fun e => by have := (hu.lt B e).1; omega
    exact (hu.kept (grownBy_setCell' w5 Bo v') (far Bo hBo)).kept (grownBy_setCell' _ Ba _) (far Ba hBa)
  have hc0 : W1.ownsRow n0 5 1 v4 ((l.drop (x.1 * sz)).take sz).length (bs ((l.drop (x.1 * sz)).take sz)) := by
    refine ⟨hc.1, hc.2.imp id ?_⟩
    rintro ⟨g, cap, cur, p1, p2, p3⟩
    exact ⟨g, cap, cur, p1, by omega, p3⟩
  refine ⟨?_, ?_, ⟨v', xs ++ [.int .i64 0, .int .i64 (st a l sz pre).1, v4], ?_, ?_, ?_, ?_⟩, ?_⟩
  · refine ((((KeepsOthers.of_grownBy (grownBy_below hb1 none) (fun j o e _ => by cases e)).trans (KeepsOthers.alloc W1 tmp)).trans (KeepsOthers.of_grownBy hg fun j o ej hj => ?_)).trans (KeepsOthers.setCell _ _ _)).trans (KeepsOthers.setCell _ _ _)
    rcases hown1.2 with ⟨rfl, _⟩ | ⟨g, cap, cur, rfl, _, hgb, _⟩
    · simp [Value.ownBlock] at ej
    · obtain rfl : g = j := by simpa [Value.ownBlock] using ej
      rw [hgb] at hj; cases hj; rfl
  · intro B hB h1 h2
    exact (Below.heap_setCell _ _ _ B h2).trans ((Below.heap_setCell _ _ _ B h1).trans (hlow B (by omega) (hv0 B hB)))
  · exact (Below.heap_setCell _ _ _ Bo hne).trans (hbox5.set v')
  · rw [st_snoc]
    rw [← hk] at hown
    simpa using hset hown
  · rw [st_snoc]
    subst e4
    refine RecVals.snoc (h.vals.mono fun u d hu => hset (hd5 ((own_over hu hb1).alloc tmp))) ?_
    exact hset (hd5 (hc0.alloc tmp))
  · rw [hz]
    refine Boxed.set _ ((Below.heap_setCell _ _ _ Ba (Ne.symm hne)).trans hadr5)
  · intro n h1 h2 h3
    refine Below.setCell (Below.setCell ((((hb1.mono (by omega)).alloc (by omega) tmp)).grown hg (by simp; omega) fun j ej => ?_) ?_ _) ?_ _
    · have := (h.own.lt j ej).1; omega
    · exact h1
    · exact h2
end Go.Proofs.Ytilfbnfejnjaeaa
