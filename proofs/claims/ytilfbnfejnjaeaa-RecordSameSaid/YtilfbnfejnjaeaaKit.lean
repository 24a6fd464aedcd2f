/- Words for slices in memory that serve every walk of this seat: a slice that reads as a list (nil let in), append from any such source. Over any program. -/
import Derived.WalkKit
import Derived.WalkLawsBesides
import Derived.WalkSpells
import Derived.Maps.AppendAt
import Derived.Deep.Slices
import Derived.Deep.AppendLies
import Derived.Deep.Draws
import Derived.Lib.Hide
import Derived.Deep.RegionLaw
namespace Go.Proofs.Ytilfbnfejnjaeaa
open Go.RowKit

theorem add_add (a : Addr) (i j : Nat) : (a.add i).add j = a.add (i + j) := Go.Deep.add_add a i j
theorem add_block (a : Addr) (i : Nat) : (a.add i).block = a.block := by unfold Addr.add; split <;> rfl
theorem lt_of_cell {w : World} {a : Addr} {v : Value} (h : w.cell? a = some v) : a.block < w.heap.size := by
  rcases Nat.lt_or_ge a.block w.heap.size with hlt | hge
  · exact hlt
  · unfold World.cell? at h
    rw [Array.getElem?_eq_none hge] at h
    cases h
theorem spot_of_cell {w : World} {a : Addr} {v : Value} (h : w.cell? a = some v) : a.spot = none := by
  unfold World.cell? at h
  split at h
  · split at h
    · cases h
    · rename_i hs; simpa using hs
  · cases h

/-- The cells from A on read as xs, in a block that meets p; no address is asked for where xs is empty. -/
def Rd (w : World) (p : Nat → Prop) (A : Option Addr) (xs : List Value) : Prop :=
  xs ≠ [] → ∃ ad, A = some ad ∧ p ad.block ∧ ∀ j u, xs[j]? = some u → w.cell? (ad.add j) = some u

section
variable {w w' : World} {p q : Nat → Prop} {A : Option Addr} {xs : List Value}
theorem Rd.nil (w : World) (p : Nat → Prop) (A : Option Addr) : Rd w p A [] := fun h => absurd rfl h
theorem Rd.at (h : Rd w p A xs) {k : Nat} (hk : k < xs.length) : ∃ ad, A = some ad ∧ p ad.block ∧ w.cell? (ad.add k) = some xs[k] := by
  obtain ⟨ad, h1, h2, h3⟩ := h (fun e => by subst e; simp at hk)
  exact ⟨ad, h1, h2, h3 k _ (List.getElem?_eq_getElem hk)⟩
theorem Rd.ex (h : Rd w p A xs) (hx : xs ≠ []) : ∃ b o, A = some ⟨b, o, none⟩ ∧ p b ∧ ∀ j u, xs[j]? = some u → w.cell? ⟨b, o + j, none⟩ = some u := by
  obtain ⟨⟨b, o, s⟩, h1, h2, h3⟩ := h hx
  have hc := h3 0 _ (List.getElem?_eq_getElem (List.length_pos_iff.2 hx))
  have hs : s = none := by simpa [Addr.add] using spot_of_cell hc
  subst hs
  refine ⟨b, o, h1, h2, fun j u hu => ?_⟩
  have := h3 j u hu
  unfold Addr.add at this
  split at this
  · rename_i h0; subst h0; exact this
  · exact this
theorem Rd.mono (h : Rd w p A xs) (hpq : ∀ i, i < w.heap.size → p i → q i) : Rd w q A xs := fun hx => by
  obtain ⟨ad, h1, h2, h3⟩ := h hx
  have hl : 0 < xs.length := List.length_pos_iff.2 hx
  have hc := h3 0 _ (List.getElem?_eq_getElem hl)
  have := lt_of_cell hc
  rw [add_block] at this
  exact ⟨ad, h1, hpq _ this h2, h3⟩
theorem Rd.keep (h : Rd w p A xs) (hk : ∀ i, i < w.heap.size → p i → w'.heap[i]? = w.heap[i]?) : Rd w' p A xs := fun hx => by
  obtain ⟨ad, h1, h2, h3⟩ := h hx
  refine ⟨ad, h1, h2, fun j u hu => ?_⟩
  have hc := h3 j u hu
  have hlt := lt_of_cell hc
  rw [add_block] at hlt
  rw [World.cell?_of_block (w := w) (by rw [add_block]; exact hk _ hlt h2)]
  exact hc
theorem Rd.of_imp (h : Rd w p A xs) (hpq : ∀ i, p i → q i) : Rd w q A xs := h.mono fun i _ => hpq i
theorem Rd.move (h : Rd w p A xs) (hk : ∀ i, i < w.heap.size → p i → q i ∧ w'.heap[i]? = w.heap[i]?) : Rd w' q A xs :=
  (h.mono (q := fun i => p i ∧ q i) fun i h1 h2 => ⟨h2, (hk i h1 h2).1⟩).keep (fun i h1 h2 => (hk i h1 h2.1).2) |>.of_imp fun i h2 => h2.2
theorem Rd.below {B : Nat} (h : Rd w p A xs) (hb : Below B w w') (hp : ∀ i, i < w.heap.size → p i → i < B) : Rd w' p A xs := h.keep fun i h1 h2 => hb.block i (hp i h1 h2)
theorem Rd.after (h : Rd w p A xs) (hb : Below w.heap.size w w') : Rd w' p A xs := h.keep fun i h1 _ => hb.block i h1
theorem Rd.grown {row : Option Nat} (h : Rd w p A xs) (hg : w.grownBy w' row) (hp : ∀ i, i < w.heap.size → p i → some i ≠ row) : Rd w' p A xs := h.keep fun i h1 h2 => hg.block i h1 (hp i h1 h2)
/-- What is left behind k elements of size cells each. -/
theorem Rd.drop (h : Rd w p A xs) (k : Nat) : Rd w p (A.map (·.add k)) (xs.drop k) := fun hx => by
  obtain ⟨ad, rfl, h2, h3⟩ := h (fun e => by subst e; simp at hx)
  exact ⟨ad.add k, rfl, by rw [add_block]; exact h2, fun j u hu => by rw [add_add]; exact h3 _ _ (by rw [← hu, List.getElem?_drop])⟩
theorem Rd.take (h : Rd w p A xs) (k : Nat) : Rd w p A (xs.take k) := fun hx => by
  obtain ⟨ad, h1, h2, h3⟩ := h (fun e => by subst e; simp at hx)
  refine ⟨ad, h1, h2, fun j u hu => h3 j u ?_⟩
  rw [List.getElem?_take] at hu
  split at hu
  · exact hu
  · cases hu
theorem Rd.of_own {base n c : Nat} {e : TypeId} {size : Nat} (h : w.ownsRow base e size (.slice A n c) n xs) (hp : ∀ i, base ≤ i → i < w.heap.size → p i) : Rd w p A xs := fun hx => by
  rcases h.2 with ⟨_, h0⟩ | ⟨g, cap, cur, hv, hg, hh, _⟩
  · have := h.1; rw [h0] at this
    exact absurd (List.eq_nil_of_length_eq_zero (by simpa using this)) hx
  · injection hv with hA _ _
    subst hA
    have hlt : g < w.heap.size := by
      rcases Nat.lt_or_ge g w.heap.size with hlt | hge
      · exact hlt
      · rw [Array.getElem?_eq_none hge] at hh; cases hh
    exact ⟨_, rfl, hp g hg hlt, h.cells (g := g) rfl⟩
theorem Rd.new (w : World) (cs : Array Value) (t : TypeId) (hp : p w.heap.size) : Rd (w.alloc (.cells cs t)) p (some ⟨w.heap.size, 0, none⟩) cs.toList := fun _ =>
  ⟨_, rfl, hp, fun j u hu => by
    have hb : (w.alloc (.cells cs t)).heap[w.heap.size]? = some (.cells cs t (0, 0)) := heap_alloc_new w _
    have e : (⟨w.heap.size, 0, none⟩ : Addr).add j = ⟨w.heap.size, j, none⟩ := by
      unfold Addr.add; split
      · rename_i h; subst h; rfl
      · simp
    rw [e]
    simp only [World.cell?, hb]
    simpa using hu⟩
end

/-- The row of a slice type's table: its element e, which takes size cells and bytes bytes. -/
structure El (P : Program) (t e : TypeId) (z : Value) (size bytes : Nat) : Prop where
  under : P.underlying t = some (.slice e)
  info : (P.info? e).map (fun i => (i.zero, i.size, i.bytes)) = some (some z, size, bytes)
  zs : z.cells.size = size
  pos : 0 < size

section
variable {P : Program} {t e : TypeId} {z : Value} {size bytes : Nat}
theorem run_app (E : El P t e z size bytes) (w : World) (base : Nat) (ty : TypeId) (v : Value) (n : Nat) (xs : List Value) (hown : w.ownsRow base e size v n xs)
    (p : Nat → Prop) (A : Option Addr) (m c : Nat) (news : List Value) (hl : news.length = m * size) (hr : Rd w p A news) (h1 : ∀ u ∈ news, u.oneCell' = true)
    (h63 : n + m ≤ maxLen) (hbytes : (n + m) * bytes ≤ 140737488355328) (hbase : base ≤ w.heap.size) :
    ∃ v' w', (Builtin.append_ #[t, t] ty #[v, .slice A m c]).run P w = .ok v' w' ∧ w'.ownsRow base e size v' (n + m) (xs ++ news) ∧ w.grownBy w' v.ownBlock ∧
      (v'.ownBlock = v.ownBlock ∨ v'.ownBlock = some w.heap.size) ∧ (m = 0 → v' = v ∧ w' = w) := by
  obtain ⟨i, hi, hz, hsz, hby⟩ := info_parts E.info
  have hposz := E.pos
  by_cases hm : m = 0
  · subst hm
    have hn : news = [] := List.eq_nil_of_length_eq_zero (by simpa using hl)
    subst hn
    refine ⟨v, w, ?_, by simpa using hown, World.grownBy.refl w _, .inl rfl, fun _ => ⟨rfl, rfl⟩⟩
    rcases A with _ | ad
    · rcases hown.2 with ⟨rfl, rfl⟩ | ⟨g, cap, cur, rfl, _, _, hnc, _⟩
      · simp [Builtin.append_, run_underlying E.under, sizeOf, typeInfo, hi, Builtin.lenOf, Builtin.firstCells]
      · simp [Builtin.append_, run_underlying E.under, sizeOf, typeInfo, hi, Builtin.lenOf, Builtin.firstCells, hnc, storeCells]
    · rcases hown.2 with ⟨rfl, rfl⟩ | ⟨g, cap, cur, rfl, _, _, hnc, _⟩
      · simp [Builtin.append_, run_underlying E.under, sizeOf, typeInfo, hi, Builtin.lenOf, Builtin.firstCells, loadCells, loadCellsFrom]
      · simp [Builtin.append_, run_underlying E.under, sizeOf, typeInfo, hi, Builtin.lenOf, Builtin.firstCells, loadCells, loadCellsFrom, hnc, storeCells]
  · have hx : news ≠ [] := fun h => by
      rw [h] at hl
      have h0 : m * size = 0 := hl.symm
      rcases Nat.mul_eq_zero.1 h0 with h2 | h2 <;> omega
    obtain ⟨ad, rfl, _, hcells⟩ := hr hx
    obtain ⟨v', w', hrun, h2, h3, _, h5⟩ := run_append_own_at (P := P) w base t ty e i z size bytes E.under hi hz hsz hby E.zs hposz v n xs hown ad m c news hl hcells h1 h63 hbytes hbase
    exact ⟨v', w', hrun, h2, h3, h5, fun h => absurd h hm⟩

theorem wp_app (E : El P t e z size bytes) {w : World} {o : Oper} {a : Act} {K : Act → World → Prop} {Q : Exit → Act → World → Prop} (s x : Operand)
    (ho : o.op = .call { callee := .builtin .append, args := #[s, x], argTypes := #[t, t] })
    (base : Nat) (v : Value) (n : Nat) (xs : List Value) (p : Nat → Prop) (A : Option Addr) (m c : Nat) (news : List Value) (hs : a.eval s = v) (hx : a.eval x = .slice A m c)
    (hown : w.ownsRow base e size v n xs) (hl : news.length = m * size) (hr : Rd w p A news) (h1 : ∀ u ∈ news, u.oneCell' = true)
    (h63 : n + m ≤ maxLen) (hbytes : (n + m) * bytes ≤ 140737488355328) (hbase : base ≤ w.heap.size)
    (h : ∀ v' w', w'.ownsRow base e size v' (n + m) (xs ++ news) → w.grownBy w' v.ownBlock → (v'.ownBlock = v.ownBlock ∨ v'.ownBlock = some w.heap.size) → (m = 0 → v' = v ∧ w' = w) → K (a.put o.dst v') w') : o.wp P a w K Q := by
  obtain ⟨v', w', hrun, h2, h3, h4, h5⟩ := run_app E w base o.type v n xs hown p A m c news hl hr h1 h63 hbytes hbase
  unfold Oper.wp execOp
  simp only [ho, resolve, invoke, builtin, Sem.run_bind, Sem.run_pure, Result.andThen_ok, List.map_toArray, List.map_cons, List.map_nil, hs, hx, hrun]
  exact h v' w' h2 h3 h4 h5

theorem wpList_app (E : El P t e z size bytes) {w : World} {ops : Array Oper} {rest : List Oper} {o : Oper} {a : Act} {Q : Exit → Act → World → Prop} (hgd : o.guard = none) (s x : Operand)
    (ho : o.op = .call { callee := .builtin .append, args := #[s, x], argTypes := #[t, t] })
    (base : Nat) (v : Value) (n : Nat) (xs : List Value) (p : Nat → Prop) (A : Option Addr) (m c : Nat) (news : List Value) (hs : a.eval s = v) (hx : a.eval x = .slice A m c)
    (hown : w.ownsRow base e size v n xs) (hl : news.length = m * size) (hr : Rd w p A news) (h1 : ∀ u ∈ news, u.oneCell' = true)
    (h63 : n + m ≤ maxLen) (hbytes : (n + m) * bytes ≤ 140737488355328) (hbase : base ≤ w.heap.size)
    (h : ∀ v' w', w'.ownsRow base e size v' (n + m) (xs ++ news) → w.grownBy w' v.ownBlock → (v'.ownBlock = v.ownBlock ∨ v'.ownBlock = some w.heap.size) → (m = 0 → v' = v ∧ w' = w) → wpList P ops Q rest (a.put o.dst v') w') : wpList P ops Q (o :: rest) a w :=
  wpList_plain hgd fun _ hK => wp_app E s x ho base v n xs p A m c news hs hx hown hl hr h1 h63 hbytes hbase fun v' w' h2 h3 h4 h5 => hK _ _ (h v' w' h2 h3 h4 h5)
theorem step_app (E : El P t e z size bytes) {w : World} {ops : Array Oper} {o : Oper} {a : Act} {K : Act → World → Prop} {Q : Exit → Act → World → Prop} {F : Prop} (hgd : o.guard = none) (s x : Operand)
    (ho : o.op = .call { callee := .builtin .append, args := #[s, x], argTypes := #[t, t] })
    (base : Nat) (v : Value) (n : Nat) (xs : List Value) (p : Nat → Prop) (A : Option Addr) (m c : Nat) (news : List Value) (hs : a.eval s = v) (hx : a.eval x = .slice A m c)
    (hown : w.ownsRow base e size v n xs) (hl : news.length = m * size) (hr : Rd w p A news) (h1 : ∀ u ∈ news, u.oneCell' = true)
    (h63 : n + m ≤ maxLen) (hbytes : (n + m) * bytes ≤ 140737488355328) (hbase : base ≤ w.heap.size)
    (h : ∀ v' w', w'.ownsRow base e size v' (n + m) (xs ++ news) → w.grownBy w' v.ownBlock → (v'.ownBlock = v.ownBlock ∨ v'.ownBlock = some w.heap.size) → (m = 0 → v' = v ∧ w' = w) → K (a.put o.dst v') w') :
    if Region.wanted o (yielded ops a.tmps) = true then Oper.wp P o a w K Q else F := by
  have hw : Region.wanted o (yielded ops a.tmps) = true := by simp [Region.wanted, hgd]
  rw [if_pos hw]
  exact wp_app E s x ho base v n xs p A m c news hs hx hown hl hr h1 h63 hbytes hbase h
end

section
variable {P : Program} {t e : TypeId} {z : Value} {size bytes : Nat}
theorem El.sizeOf (E : El P t e z size bytes) (w : World) : (Go.sizeOf e).run P w = .ok size w := by
  obtain ⟨i, hi, _, hsz, _⟩ := info_parts E.info
  simp [Go.sizeOf, typeInfo, hi, hsz]
theorem bound_ok (P : Program) (w : World) (a y : Nat) (code : BoundsCode) (h : a ≤ y) : (Instr.sliceBound (.int .i64 (a : Int)) y code).run P w = .ok a w := by
  have c1 : (0 : Int) ≤ (a : Int) ∧ (a : Int) ≤ (y : Int) := ⟨by omega, by omega⟩
  simp only [Instr.sliceBound, asIntOf, Sem.run_bind, Sem.run_pure, Result.andThen_ok, if_pos c1, Int.toNat_natCast]
/-- The address of a slice cut at k. -/
def cutAt (A : Option Addr) (c k size : Nat) : Option Addr := if c = k then A else A.map (·.add (k * size))
theorem run_slice_lo (E : El P t e z size bytes) (A : Option Addr) (n c k : Nat) (w : World) (hk : k ≤ n) :
    (Instr.slice t (.slice A n c) (some (.int .i64 (k : Int))) none none).run P w = .ok (.slice (cutAt A c k size) (n - k) (c - k)) w := by
  simp [Instr.slice, run_underlying E.under, Instr.sliceBounds, bound_ok P w k _ _ hk, E.sizeOf, cutAt]
theorem run_slice_hi (E : El P t e z size bytes) (A : Option Addr) (n c k : Nat) (w : World) (hk : k ≤ c) :
    (Instr.slice t (.slice A n c) none (some (.int .i64 (k : Int))) none).run P w = .ok (.slice A k c) w := by
  have h0 : (if c = 0 then A else A.map (·.add 0)) = A := by
    split
    · rfl
    · cases A <;> simp [Addr.add]
  simp [Instr.slice, run_underlying E.under, Instr.sliceBounds, bound_ok P w k _ _ hk, E.sizeOf]
  exact fun _ => by cases A <;> simp [Addr.add]
theorem Rd.cut {w : World} {p : Nat → Prop} {A : Option Addr} {xs : List Value} {n c k : Nat} (h : Rd w p A xs) (hl : xs.length = n * size) (hn : n ≤ c) : Rd w p (cutAt A c k size) (xs.drop (k * size)) := by
  unfold cutAt
  split
  · rename_i hc
    have : xs.drop (k * size) = [] := List.drop_eq_nil_of_le (by rw [hl]; exact Nat.mul_le_mul_right _ (by omega))
    rw [this]
    exact Rd.nil _ _ _
  · exact h.drop _
end

/-- A row of the call's own stays one under Below from its base on .. if its block is not the one that is written. -/
theorem own_grown {w w' : World} {base n : Nat} {e : TypeId} {size : Nat} {v : Value} {xs : List Value} {row : Option Nat} (h : w.ownsRow base e size v n xs) (hg : w.grownBy w' row) (hne : v.ownBlock = none ∨ v.ownBlock ≠ row) : w'.ownsRow base e size v n xs :=
  h.kept hg hne
/-- An own row gives a slice value. -/
theorem own_form {w : World} {base n : Nat} {e : TypeId} {size : Nat} {v : Value} {xs : List Value} (h : w.ownsRow base e size v n xs) : ∃ A c, v = .slice A n c ∧ n ≤ c ∧ (A = none → c = 0) := by
  rcases h.2 with ⟨h1, h2⟩ | ⟨g, cap, cur, hv, _, _, hc, _⟩
  · exact ⟨none, 0, by rw [h1, h2], by omega, fun _ => rfl⟩
  · exact ⟨_, cap, hv, hc, fun h => by cases h⟩
theorem own_below {w w' : World} {base n B : Nat} {e : TypeId} {size : Nat} {v : Value} {xs : List Value} (h : w.ownsRow base e size v n xs) (hb : Below B w w') (hB : w.heap.size ≤ B) : w'.ownsRow base e size v n xs :=
  h.kept (row := none) ⟨hb.os, hb.tape, hb.output, hb.size, fun i hi _ => hb.block i (by omega)⟩ (by cases v.ownBlock with
    | none => exact .inl rfl
    | some k => exact .inr (fun h => by cases h))

theorem own_over {w w' : World} {base n : Nat} {e : TypeId} {size : Nat} {v : Value} {xs : List Value} (h : w.ownsRow base e size v n xs) (hb : Below w.heap.size w w') : w'.ownsRow base e size v n xs := own_below h hb (Nat.le_refl _)
theorem below_new {w w1 : World} {o : Obj} {n c : Nat} (hg : (w.alloc o).drew.grownBy w1 (Value.slice (some ⟨w.heap.size, 0, none⟩) n c).ownBlock) : Below w.heap.size w w1 :=
  (((Below.refl _ _).alloc (Nat.le_refl _) o).drew).grown hg (by simp) fun k hk => by
    have e : w.heap.size = k := Option.some.inj hk
    omega

/-- Bytes as cells. -/
def bs (l : List UInt8) : List Value := l.map fun c => .int .u8 (c.toNat : Int)
theorem bs_length (l : List UInt8) : (bs l).length = l.length := by simp [bs]
theorem bs_append (l l' : List UInt8) : bs (l ++ l') = bs l ++ bs l' := by simp [bs]
theorem bs_one (l : List UInt8) : ∀ u ∈ bs l, u.oneCell' = true := by
  intro u hu
  simp only [bs, List.mem_map] at hu
  obtain ⟨c, _, rfl⟩ := hu
  rfl
theorem bs_get (l : List UInt8) (k : Nat) (hk : k < (bs l).length) : (bs l)[k] = .int .u8 ((l[k]'(by rw [bs_length] at hk; exact hk)).toNat : Int) := by simp [bs]
theorem Rd.byte {w : World} {p : Nat → Prop} {A : Option Addr} {l : List UInt8} (h : Rd w p A (bs l)) {k : Nat} (hk : k < l.length) :
    ∃ b o, A = some ⟨b, o, none⟩ ∧ p b ∧ w.cell? ⟨b, o + k, none⟩ = some (.int .u8 (l[k].toNat : Int)) := by
  have hx : k < (bs l).length := by rw [bs_length]; exact hk
  obtain ⟨b, o, h1, h2, h3⟩ := h.ex (fun e => by rw [e] at hx; simp at hx)
  exact ⟨b, o, h1, h2, by rw [← bs_get l k hx]; exact h3 k _ (List.getElem?_eq_getElem hx)⟩
theorem Rd.same {w : World} {p : Nat → Prop} {A : Option Addr} {l l' : List UInt8} (h : Rd w p A (bs l)) (h' : Rd w p A (bs l')) (hl : l.length = l'.length) : l = l' := by
  apply List.ext_getElem hl
  intro k h1 h2
  obtain ⟨b, o, rfl, _, hc⟩ := h.byte h1
  obtain ⟨b', o', e, _, hc'⟩ := h'.byte h2
  injection e with e
  injection e with e1 e2
  subst e1; subst e2
  rw [hc] at hc'
  have : (l[k].toNat : Int) = l'[k].toNat := by simpa using hc'
  exact UInt8.toNat_inj.1 (by omega)

theorem ret_int {k : IntKind} {a b : Int} (h : a = b) : Ending.returned (.int k a) = .returned (.int k b) := by rw [h]
theorem ret_bool {x y : Bool} (h : x = y) : Ending.returned (.bool x) = .returned (.bool y) := by rw [h]
theorem grownBy_set (w : World) (b k : Nat) (u : Value) : w.grownBy (w.setCell ⟨b, k, none⟩ u) (some b) :=
  ⟨rfl, rfl, rfl, by simp [World.setCell], fun i hi hne => Below.heap_setCell w _ u i (fun e => hne (by rw [e]))⟩
theorem grownBy_trans {a b c : World} {row : Option Nat} (h : a.grownBy b row) (k : b.grownBy c row) : a.grownBy c row :=
  ⟨k.os.trans h.os, k.tape.trans h.tape, k.output.trans h.output, Nat.le_trans h.size k.size, fun i hi hne => (k.block i (Nat.lt_of_lt_of_le hi h.size) hne).trans (h.block i hi hne)⟩
theorem grownBy_drew {a b : World} {row : Option Nat} (h : a.grownBy b row) : a.grownBy b.drew row := ⟨h.os, h.tape, h.output, h.size, h.block⟩
theorem grownBy_drewN {a b : World} {row : Option Nat} (h : a.grownBy b row) (m : Nat) : a.grownBy (b.drewN m) row := ⟨h.os, h.tape, h.output, h.size, h.block⟩
theorem grownBy_below {a b : World} (h : Below a.heap.size a b) (row : Option Nat) : a.grownBy b row := ⟨h.os, h.tape, h.output, h.size, fun i hi _ => h.block i hi⟩
theorem below_drewN {B : Nat} {a w : World} (h : Below B a w) (n : Nat) : Below B a (w.drewN n) := ⟨h.os, h.tape, h.output, h.size, h.block⟩
theorem below_of_drewN (B : Nat) (w : World) (n : Nat) : Below B w (w.drewN n) := below_drewN (Below.refl _ _) n
end Go.Proofs.Ytilfbnfejnjaeaa
