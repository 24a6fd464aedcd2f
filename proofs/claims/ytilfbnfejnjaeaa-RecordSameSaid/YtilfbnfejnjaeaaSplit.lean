/- The walk of Split of the package record. -/
import Derived.Test.YtilfbnfejnjaeaaRecs
import Derived.Test.YtilfbnfejnjaeaaSmall
namespace Go.Proofs.Ytilfbnfejnjaeaa
open Go.RowKit Go.Shelf
attribute [local go_sem] Oper.semAt_some

/-- The append of records, not opened by the walk. -/
def AppHid (ats : Array TypeId) (ty : TypeId) (args : Array Value) : Sem Value := Builtin.append_ ats ty args
theorem append_hid (ats : Array TypeId) (ty : TypeId) (args : Array Value) : Builtin.append_ ats ty args = AppHid ats ty args := rfl
attribute [local go_sem ↓] append_hid

/-- Whether Split divides. -/
def splitOk (a sz : Int) (n : Nat) : Bool := decide (1 ≤ sz ∧ sz ≤ 255 ∧ 0 ≤ a ∧ a ≤ 65535 ∧ (n : Int) ≤ 65536 - a)
/-- The records that Split makes. -/
def splitR (a sz : Int) (l : List UInt8) : List (Int × List UInt8) := if splitOk a sz l.length then recsOf a sz.toNat l else []

/-- What Fits answers of one number. -/
abbrev FitsIs (lo hi z : Int) (x : Bool) : Prop := ∀ (W : World) (g : Nat), W.heap.size = g → Calls Try.prog 55 #[.int .i64 lo, .int .i64 hi, .slice (some ⟨g, 0, none⟩) 1 1] (W.alloc (.cells #[.int .i64 z] 3)) fun e w' => e = .returned (.bool x) ∧ W.alloc (.cells #[.int .i64 z] 3) = w'
theorem fitsOne (lo hi z : Int) (x : Bool) (h : (decide (lo ≤ z) && decide (z ≤ hi)) = x) : FitsIs lo hi z x := fun W g hg => by
  subst hg
  have := fits_any lo hi _ [z] 1 _ (fun _ => True) (by simp) (Rd.new W #[.int .i64 z] 3 trivial)
  simpa [fits, h] using this

set_option maxRecDepth 100000 in
set_option maxHeartbeats 1000000 in
theorem split_no (a sz : Int) (A : Option Addr) (n c : Nat) (w : World) (h : splitOk a sz n = false) :
    Calls Try.prog 26 #[.int .i64 a, .int .i64 sz, .slice A n c] w fun e w' => e = .returned (.slice none 0 0) ∧ Below w.heap.size w w' := by
  have hb : Hid (∀ o1 o2 o3 : Obj, Below w.heap.size w (((w.alloc o1).alloc o2).alloc o3) ∧ Below w.heap.size w ((w.alloc o1).alloc o2)) := fun o1 o2 o3 =>
    ⟨(((Below.refl _ _).alloc (Nat.le_refl _) _).alloc (by simp) _).alloc (by simp; omega) _, ((Below.refl _ _).alloc (Nat.le_refl _) _).alloc (by simp) _⟩
  by_cases h1 : 1 ≤ sz ∧ sz ≤ 255
  · have F1 := fitsOne 1 255 sz true (by simp [h1])
    by_cases h2 : 0 ≤ a ∧ a ≤ 65535
    · have F2 := fitsOne 0 65535 a true (by simp [h2])
      obtain ⟨ha0, ha1⟩ := h2
      have h3 : (n : Int) > 65536 - a := by
        by_cases hx : (n : Int) > 65536 - a
        · exact hx
        · exfalso
          simp [splitOk, h1, ha0, ha1] at h
          omega
      clear h h1
      go_enter Try.func26, Try.ntmps26
      go_wp2_with (first
        | (go_at_call 55; (with_reducible refine (F1 _ _ (by simp)).mono ?_); rintro e w1 ⟨rfl, rfl⟩)
        | (go_at_call 55; refine (F2 _ _ (by simp)).mono ?_; rintro e w1 ⟨rfl, rfl⟩))
      go_ret
      exact ⟨rfl, (hb.out _ _ _).1⟩
    · have F2 := fitsOne 0 65535 a false (by simp; omega)
      clear h h1 h2
      go_enter Try.func26, Try.ntmps26
      go_wp2_with (first
        | (go_at_call 55; (with_reducible refine (F1 _ _ (by simp)).mono ?_); rintro e w1 ⟨rfl, rfl⟩)
        | (go_at_call 55; refine (F2 _ _ (by simp)).mono ?_; rintro e w1 ⟨rfl, rfl⟩))
      go_ret
      exact ⟨rfl, (hb.out _ _ _).1⟩
  · have F1 := fitsOne 1 255 sz false (by simp; omega)
    clear h h1
    go_enter Try.func26, Try.ntmps26
    go_wp2_with (go_at_call 55; refine (F1 _ _ (by simp)).mono ?_; rintro e w1 ⟨rfl, rfl⟩)
    go_ret
    exact ⟨rfl, (hb.out _ _ (.cells #[] 3)).2⟩

theorem keep_alloc0 {w : World} {p : Addr} {u : Value} (O : Obj) (h : w.cell? p = some u) : (w.alloc O).cell? p = some u := (World.cell?_alloc_lt w O p (lt_of_cell h)).trans h
theorem own_base {w : World} {n0 n : Nat} {e : TypeId} {size k : Nat} {v : Value} {xs : List Value} (h : w.ownsRow n0 e size v k xs) (hn : n ≤ n0) : w.ownsRow n e size v k xs := by
  refine ⟨h.1, h.2.imp id ?_⟩
  rintro ⟨g, cap, cur, p1, p2, p3⟩
  exact ⟨g, cap, cur, p1, by omega, p3⟩
theorem chunk_len (l : List UInt8) (sz k : Nat) : ((l.drop (k * sz)).take sz).length = pl l.length sz k := by simp [pl]
/-- One more record, by the append of the round. -/
theorem SI.app {n0 Bo Ba : Nat} {a : Int} {l : List UInt8} {sz : Nat} {v : Value} {xs : List Value} {pre : List (Pt l.length sz)} {x : Pt l.length sz} {W W1 : World} {A : Option Addr} {c m : Nat} {z : Int}
    (h : SI n0 Bo Ba a l sz v xs pre W) (hn0 : n0 ≤ W.heap.size) (hBo : Bo < n0) (hBa : Ba < n0) (hne : Bo ≠ Ba) (hz : (st a l sz pre).1 = z) (hm : pl l.length sz x.1 = m) (hk : pre.length ≤ 65536)
    (hb1 : Below W.heap.size W W1) (hc : W1.ownsRow W.heap.size 5 1 (.slice A m c) m (bs ((l.drop (x.1 * sz)).take sz))) :
    ∃ g k c' w5, ((AppHid #[48, 48] 48 #[v, .slice (some ⟨W1.heap.size, 0, none⟩) 1 1]).run Try.prog (W1.alloc (.cells #[.int .i64 0, .int .i64 z, .slice A m c] 25)) = .ok (.slice (some ⟨g, 0, none⟩) (k + 1) c') w5) ∧
      w5.cell? ⟨Bo, 0, none⟩ = some v ∧ w5.frozen? ⟨Bo, 0, none⟩ = false ∧
      (w5.setCell ⟨Bo, 0, none⟩ (.slice (some ⟨g, 0, none⟩) (k + 1) c')).cell? ⟨Ba, 0, none⟩ = some (.int .i64 z) ∧ (w5.setCell ⟨Bo, 0, none⟩ (.slice (some ⟨g, 0, none⟩) (k + 1) c')).frozen? ⟨Ba, 0, none⟩ = false ∧
      Hid (KeepsOthers W ((w5.setCell ⟨Bo, 0, none⟩ (.slice (some ⟨g, 0, none⟩) (k + 1) c')).setCell ⟨Ba, 0, none⟩ (.int .i64 (z + (m : Int)))) ∧
        (∀ B, B < n0 → B ≠ Bo → B ≠ Ba → ((w5.setCell ⟨Bo, 0, none⟩ (.slice (some ⟨g, 0, none⟩) (k + 1) c')).setCell ⟨Ba, 0, none⟩ (.int .i64 (z + (m : Int)))).heap[B]? = W.heap[B]?) ∧
        (∃ v xs, SI n0 Bo Ba a l sz v xs (pre ++ [x]) ((w5.setCell ⟨Bo, 0, none⟩ (.slice (some ⟨g, 0, none⟩) (k + 1) c')).setCell ⟨Ba, 0, none⟩ (.int .i64 (z + (m : Int))))) ∧
        ∀ n, n ≤ Bo → n ≤ Ba → n ≤ n0 → Below n W ((w5.setCell ⟨Bo, 0, none⟩ (.slice (some ⟨g, 0, none⟩) (k + 1) c')).setCell ⟨Ba, 0, none⟩ (.int .i64 (z + (m : Int))))) := by
  have hsz := hb1.size
  have hlen := (st_len a l sz _ pre rfl).1
  have hcl : ((l.drop (x.1 * sz)).take sz).length = m := (chunk_len l sz x.1).trans hm
  obtain ⟨i, hi, hz1, hz2, hz3⟩ := info_parts el48.info
  have hown1 : (W1.alloc (.cells #[.int .i64 0, .int .i64 z, .slice A m c] 25)).ownsRow n0 25 3 v (st a l sz pre).2.length xs := (own_over h.own hb1).alloc _
  obtain ⟨v', w5, hrun, hown, hg, _, _⟩ := run_app el48 (W1.alloc (.cells #[.int .i64 0, .int .i64 z, .slice A m c] 25)) n0 48 v _ xs hown1 (fun _ => True) (some ⟨W1.heap.size, 0, none⟩) 1 1 [.int .i64 0, .int .i64 z, .slice A m c] rfl
    (Rd.new W1 #[.int .i64 0, .int .i64 z, .slice A m c] 25 trivial) (by simp [Value.oneCell']) (by simp only [maxLen]; omega) (by omega) (by simp; omega)
  obtain ⟨g, c', rfl⟩ := ownsRow_succ hown
  have hlow : ∀ i, i < n0 → w5.heap[i]? = W.heap[i]? := fun i hi =>
    (hg.block i (by simp; omega) (fun e => by have := (h.own.lt i e.symm).1; omega)).trans ((Below.heap_alloc W1 _ i (by omega)).trans (hb1.block i (by omega)))
  have hbox5 : Boxed w5 Bo 48 v := (hlow Bo hBo).trans h.box
  have hadr5 : Boxed w5 Ba 3 (.int .i64 z) := (hlow Ba hBa).trans (hz ▸ h.adr)
  have hadr6 : Boxed (w5.setCell ⟨Bo, 0, none⟩ (.slice (some ⟨g, 0, none⟩) ((st a l sz pre).2.length + 1) c')) Ba 3 (.int .i64 z) := (Below.heap_setCell _ _ _ Ba (Ne.symm hne)).trans hadr5
  have hst := h.step (x := x) (v4 := .slice A m c) (A := A) (c := c) hn0 hBo hBa hne rfl hb1 (by rw [hcl]) (by rw [hcl]; exact hc) (by rw [hz]; exact hown) hg (z := z + (m : Int)) (by
    rw [st_snoc, hz]
    show z + ((pl l.length sz x.1 : Nat) : Int) = _
    rw [hm])
  exact ⟨g, _, c', w5, hrun, hbox5.cell, hbox5.frozen, hadr6.cell, hadr6.frozen, hst⟩

/-- The clone of a part. -/
theorem part_clone {w W : World} {p : Nat → Prop} {A : Option Addr} {l : List UInt8} {sz b o : Nat} (hA : l.length = 0 ∨ A = some ⟨b, o, none⟩) (h : Rd w p A (bs l)) (hl : (l.length : Int) ≤ 65536) (hb : Below w.heap.size w W) (x : Pt l.length sz) (m : Nat) (hm : pl l.length sz x.1 = m) :
    Calls Try.prog 18 #[.slice (some ⟨b, po o sz x.1, none⟩) m m] W fun e w' => ∃ A c, e = .returned (.slice A m c) ∧ w'.ownsRow W.heap.size 5 1 (.slice A m c) m (bs ((l.drop (x.1 * sz)).take sz)) ∧ Below W.heap.size W w' := by
  have hx := x.2
  have hA' : A = some ⟨b, o, none⟩ := hA.resolve_left (by omega)
  subst hA'
  have hcl := chunk_len l sz x.1
  rw [hm] at hcl
  have hr : Rd W p (some ⟨b, po o sz x.1, none⟩) (bs ((l.drop (x.1 * sz)).take sz)) := by
    have e : (⟨b, o, none⟩ : Addr).add (x.1 * sz) = ⟨b, o + x.1 * sz, none⟩ := by by_cases h0 : x.1 * sz = 0 <;> simp [Addr.add, h0]
    have := ((h.after hb).drop (x.1 * sz)).take sz
    rw [Option.map_some, e] at this
    simpa [bs, po] using this
  have hcl2 : ((l.drop (x.1 * sz)).take sz).length ≤ l.length := by simp; omega
  refine (clone_any _ ((l.drop (x.1 * sz)).take sz) m m W p hcl.symm (by omega) hr).mono ?_
  rintro e w' ⟨v, rfl, h1, h2⟩
  obtain ⟨A4, c4, rfl, _, _⟩ := own_form h1
  exact ⟨A4, c4, by rw [hcl], by rw [hcl] at h1; exact h1, h2⟩

set_option maxRecDepth 100000 in
set_option maxHeartbeats 4000000 in
theorem split_yes (a : Int) (sz : Nat) (A : Option Addr) (l : List UInt8) (c : Nat) (w : World) (p : Nat → Prop) (h1 : 1 ≤ (sz : Int)) (h2 : (sz : Int) ≤ 255) (ha0 : 0 ≤ a) (ha1 : a ≤ 65535) (hl : (l.length : Int) ≤ 65536 - a) (hc : l.length ≤ c) (h : Rd w p A (bs l)) :
    Calls Try.prog 26 #[.int .i64 a, .int .i64 (sz : Int), .slice A l.length c] w fun e w' => ∃ v xs, e = .returned v ∧ w'.ownsRow w.heap.size 25 3 v (recsOf a sz l).length xs ∧
      RecVals (fun u d => w'.ownsRow w.heap.size 5 1 u d.length (bs d)) xs (recsOf a sz l) ∧ Below w.heap.size w w' := by
  have F1 := fitsOne 1 255 (sz : Int) true (by simp; omega)
  have F2 := fitsOne 0 65535 a true (by simp; omega)
  have CK := Lib.hid (fun W => chunk_any A l.length c sz W h1)
  have hA : ∃ b o, l.length = 0 ∨ A = some ⟨b, o, none⟩ := by
    by_cases hx : l = []
    · exact ⟨0, 0, .inl (by simp [hx])⟩
    · obtain ⟨b, o, e, _⟩ := h.ex (fun e => hx (by simpa [bs] using e))
      exact ⟨b, o, .inr e⟩
  obtain ⟨b, o, hA⟩ := hA
  have PC : Hid (∀ (W : World) (x : Pt l.length sz) (m : Nat), Below w.heap.size w W → pl l.length sz x.1 = m → _) := fun W x m hb hm => part_clone hA h (by omega) hb x m hm
  refine (callsIn_wide (n := 3)).1 ?_
  refine callsIn_of_wp_marks Try.func26 rfl trivial ?_ rfl
  simp only [Try.ntmps26, List.size_toArray, List.length_cons, List.length_nil, Nat.reduceAdd, Nat.reduceSub, Array.replicate_succ, Array.replicate_zero, List.push_toArray, List.append_toArray, List.nil_append, List.cons_append]
  have hdec : decide (65536 - a < (l.length : Int)) = false := by simp; omega
  clear h
  gi_wp2_with (first
    | (refine ⟨trivial, ?_⟩; gi_at_call 55; (with_reducible refine CallsIn.mono (callsIn_wide.2 (F1 _ _ (by simp))) ?_); rintro e w1 ⟨rfl, rfl⟩)
    | (refine ⟨trivial, ?_⟩; gi_at_call 55; refine (callsIn_wide.2 (F2 _ _ (by simp))).mono ?_; rintro e w1 ⟨rfl, rfl⟩)
    | (refine ⟨trivial, ?_⟩; gi_at_call 56; refine (callsIn_wide.2 (CK.out _)).mono ?_; rintro e w1 ⟨rfl, rfl⟩))
  have b3 : ∀ o1 o2 o3 o4 o5 o6 : Obj, Below w.heap.size w ((((((w.alloc o1).alloc o2).alloc o3).alloc o4).alloc o5).alloc o6) := fun o1 o2 o3 o4 o5 o6 =>
    ((((((Below.refl _ _).alloc (Nat.le_refl _) _).alloc (by simp) _).alloc (by simp; omega) _).alloc (by simp; omega) _).alloc (by simp; omega) _).alloc (by simp; omega) _
  have c0 : ∀ o2 o3 o4 o5 o6 : Obj, Boxed ((((((w.alloc (.cells #[.int .i64 a] 3)).alloc o2).alloc o3).alloc o4).alloc o5).alloc o6) w.heap.size 3 (.int .i64 a) := fun o2 o3 o4 o5 o6 =>
    (((((Boxed.new w 3 (.int .i64 a)).alloc o2).alloc o3).alloc o4).alloc o5).alloc o6
  have c3 : ∀ o1 o2 o3 o5 o6 : Obj, Boxed ((((((w.alloc o1).alloc o2).alloc o3).alloc (.cells #[.slice none 0 0] 48)).alloc o5).alloc o6) (w.heap.size + 1 + 1 + 1) 48 (.slice none 0 0) := fun o1 o2 o3 o5 o6 => by
    have := ((Boxed.new (((w.alloc o1).alloc o2).alloc o3) 48 (.slice none 0 0)).alloc o5).alloc o6
    simpa only [World.size_alloc] using this
  have c4 : ∀ o1 o2 o3 o4 o6 : Obj, Boxed ((((((w.alloc o1).alloc o2).alloc o3).alloc o4).alloc (.cells #[.slice A l.length c] 23)).alloc o6) (w.heap.size + 1 + 1 + 1 + 1) 23 (.slice A l.length c) := fun o1 o2 o3 o4 o6 => by
    have := (Boxed.new ((((w.alloc o1).alloc o2).alloc o3).alloc o4) 23 (.slice A l.length c)).alloc o6
    simpa only [World.size_alloc] using this
  have c5 : ∀ o1 o2 o3 o4 o5 : Obj, Boxed ((((((w.alloc o1).alloc o2).alloc o3).alloc o4).alloc o5).alloc (.cells #[.int .i64 (sz : Int)] 3)) (w.heap.size + 1 + 1 + 1 + 1 + 1) 3 (.int .i64 (sz : Int)) := fun o1 o2 o3 o4 o5 => by
    have := Boxed.new (((((w.alloc o1).alloc o2).alloc o3).alloc o4).alloc o5) 3 (.int .i64 (sz : Int))
    simpa only [World.size_alloc] using this
  obtain ⟨W0, hW0⟩ : ∃ W0, ((((((w.alloc (.cells #[.int .i64 a] 3)).alloc (.cells #[.int .i64 (sz : Int)] 3)).alloc (.cells #[.int .i64 a] 3)).alloc (.cells #[.slice none 0 0] 48)).alloc (.cells #[.slice A l.length c] 23)).alloc (.cells #[.int .i64 (sz : Int)] 3)) = W0 := ⟨_, rfl⟩
  have hb0 : Below w.heap.size w W0 := by rw [← hW0]; exact b3 _ _ _ _ _ _
  have x0 : Boxed W0 w.heap.size 3 (.int .i64 a) := by rw [← hW0]; exact c0 _ _ _ _ _
  have x3 : Boxed W0 (w.heap.size + 1 + 1 + 1) 48 (.slice none 0 0) := by rw [← hW0]; exact c3 _ _ _ _ _
  have x4 : Boxed W0 (w.heap.size + 1 + 1 + 1 + 1) 23 (.slice A l.length c) := by rw [← hW0]; exact c4 _ _ _ _ _
  have x5 : Boxed W0 (w.heap.size + 1 + 1 + 1 + 1 + 1) 3 (.int .i64 (sz : Int)) := by rw [← hW0]; exact c5 _ _ _ _ _
  have hs0 : W0.heap.size = w.heap.size + 1 + 1 + 1 + 1 + 1 + 1 := by rw [← hW0]; simp
  rw [hW0]
  clear b3 c0 c3 c4 c5 hW0
  obtain ⟨Ba, hBa⟩ : ∃ n, w.heap.size = n := ⟨_, rfl⟩
  rw [hBa] at x0 x3 x4 x5 hs0 ⊢
  obtain ⟨Bo, hBo⟩ : ∃ n, Ba + 1 + 1 + 1 = n := ⟨_, rfl⟩
  rw [hBo] at x3 x4 x5 hs0 ⊢
  refine wpIn_rangeFunc_ownF rfl (by omega) (gf := 75) (lb := #[.pointer (some ⟨Bo + 1, 0, none⟩), .pointer (some ⟨Bo + 1 + 1, 0, none⟩)]) rfl trivial (enters_of Try.func75 (by kernel_rfl) rfl)
    (chunk_stops (3 - 1) (by omega) (Bo + 1) b o l.length c sz A (by omega) (by omega) (by omega) hc hA W0 x4 x5) (fun h k => Kb.trans h k) (kb_b (by omega)) (Below.refl _ _) (fun _ => rfl)
    (fun pre W => (∃ v xs, SI W0.heap.size Bo Ba a l sz v xs pre W) ∧ Below Ba w W ∧ W0.heap.size ≤ W.heap.size)
    (fun _ _ _ => False)
    (OwnFrom.and (Own.from SI.own_ex _) (OwnFrom.and (ownFrom_below (by omega) (by omega)) (fun _ _ _ _ hs hg _ => Nat.le_trans hs hg.size)))
    (fun _ _ _ _ _ hs _ _ => hs)
    ⟨⟨_, _, x3, World.ownsRow_nil _ _ _ _, RecVals.nil _, x0⟩, hBa ▸ hb0, Nat.le_refl _⟩
    (fun x => { tmps := #[.int .i64 a, .int .i64 (sz : Int), .slice A l.length c, .pointer (some ⟨Ba, 0, none⟩), undef, undef, .slice none 0 0, .pointer (some ⟨Bo, 0, none⟩), ptv b o l.length sz x, .int .i64 (sz : Int), .slice (some ⟨Ba + 1, 0, none⟩) 1 1, .bool true, .bool false, .bool false, .int .i64 a, .slice (some ⟨Ba + 1 + 1, 0, none⟩) 1 1, .bool true, .bool false, .bool false, .bool false, .slice A l.length c, .int .i64 (l.length : Int), .int .i64 a, .int .i64 (65536 - a), .bool false, .bool false, .slice A l.length c, .int .i64 (sz : Int), .func (.func 75) #[] #[.pointer (some ⟨Bo + 1, 0, none⟩), .pointer (some ⟨Bo + 1 + 1, 0, none⟩)], ptv b o l.length sz x, undef, undef, undef, undef, undef, undef, undef, undef, undef, undef, undef, undef], defers := [] }) ?assign ?body ?done ?stop
  case assign =>
    intro l x W K hK
    gi_wp2
    exact hK
  case body =>
    rintro l' pre x W ⟨⟨v, xs, hS⟩, hB, hn0⟩ hlt
    have hnp : nparts l.length sz ≤ 65536 := by
      have := (nparts_lt (len := l.length) (k := 65536) (sz := sz) (by omega)).1
      by_cases hx : nparts l.length sz ≤ 65536
      · exact hx
      · have := this (by omega)
        have : 65536 * 1 ≤ 65536 * sz := Nat.mul_le_mul_left _ (by omega)
        omega
    have hst := st_len a l sz _ pre rfl
    have hmul : pre.length * sz ≤ 65536 * 255 := Nat.mul_le_mul (by omega) (by omega)
    obtain ⟨m, hm⟩ : ∃ m, pl l.length sz x.1 = m := ⟨_, rfl⟩
    obtain ⟨q, hq⟩ : ∃ q, po o sz x.1 = q := ⟨_, rfl⟩
    obtain ⟨z, hz⟩ : ∃ z, (st a l sz pre).1 = z := ⟨_, rfl⟩
    have hm2 : (m : Int) ≤ 255 := by rw [← hm]; have : pl l.length sz x.1 ≤ sz := Nat.min_le_left _ _; omega
    have hz0 : 0 ≤ z := by rw [← hz]; omega
    have hz1 : z ≤ 16777216 := by rw [← hz]; omega
    have PX := PC.out W.drew x m (by rw [hBa]; exact hB.drew) hm
    have HS := Lib.hid hS
    have hb1 := hS.box.cell
    have hb2 := hS.adr.cell
    rw [hz] at hb2
    have hd1 : W.drew.cell? ⟨Bo, 0, none⟩ = some v := hb1
    have hd2 : W.drew.cell? ⟨Ba, 0, none⟩ = some (.int .i64 z) := hb2
    have hmx : Try.prog.follows .mixedOrders = true := by kernel_rfl
    have HA := Lib.hid (fun W1 A4 c4 => hS.app (x := x) (W1 := W1) (A := A4) (c := c4) hn0 (by omega) (by omega) (by omega) hz hm (by omega))
    simp only [ptv, hm, hq]
    rw [hq] at PX
    clear hst hmul hlt hnp hS hz hm hq
    have hd : 1 ≤ 3 - 1 - 1 := by omega
    gi_wp2
    gi_region_with_o (refine ⟨trivial, ?_⟩; gi_at_call 18; refine (CallsIn.inRound l' (callsIn_wide.2 PX)).mono ?_; rintro e W1 ⟨A4, c4, rfl, hc4, hb4⟩; have hb5 : Below W.heap.size W W1 := ((Below.refl W.heap.size W).drew).trans hb4; obtain ⟨g, k, c', w5, hrun, e1, e2, e3, e4, HF⟩ := HA.out W1 A4 c4 hb5 hc4; have e5 := (hb5.cell (lt_of_cell hb1)).trans hb1; have e6 := (hb5.cell (lt_of_cell hb2)).trans hb2; have e7 := keep_alloc0 (.cells #[.int .i64 0, .int .i64 z, .slice A4 m c4] 25) e5)
    all_goals gi_wp2
    all_goals (obtain ⟨K1, K2, K3, K4⟩ := HF.out; exact ⟨K1, ⟨K2 _ (by omega) (by omega) (by omega), K2 _ (by omega) (by omega) (by omega)⟩, K3, hB.trans (K4 Ba (by omega) (Nat.le_refl _) (by omega)), Nat.le_trans hn0 K1.size⟩)
  case done =>
    rintro D ys W hD hys ⟨⟨v, xs, hS⟩, hB, hn0⟩ hK
    have hc := hS.box.cell
    gi_wp2
    refine ⟨by simp, .inl ⟨_, _, rfl, run_takeDeferred hK, ?_⟩⟩
    have hS2 := hS.kept (grownBy_putObj' W D (.deferred none)) (fun r e => by cases e; exact ⟨_, hK, rfl⟩)
    have hR := st_all a l sz ys hys
    refine ⟨_, results_tmp rfl _ _ _, v, xs, rfl, ?_, ?_, ?_⟩
    · rw [← hR]
      exact own_base hS2.own (by omega)
    · rw [← hR]
      exact hS2.vals.mono fun u d hu => own_base hu (by omega)
    · rw [hBa]
      exact hB.trans (belowK_b (w := W0) (by omega) W D _ _ hD hK rfl rfl)
  case stop =>
    rintro D c pre W _ _ h _
    exact h.elim
end Go.Proofs.Ytilfbnfejnjaeaa
