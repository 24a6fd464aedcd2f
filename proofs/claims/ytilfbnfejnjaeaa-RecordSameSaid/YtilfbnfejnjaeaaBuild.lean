/- The walks of the writing methods of strings.Builder, with what they keep said to the block. -/
import Derived.Test.YtilfbnfejnjaeaaSmall
import Derived.Test.YtilfbnfejnjaeaaShelf
namespace Go.Proofs.Ytilfbnfejnjaeaa
open Go.RowKit

theorem el_str : Try.prog.underlying 9 = some .string := Try.underlying9
/-- append of a string: where the row lies that comes of it. -/
theorem run_str_at (w : World) (base : Nat) (ty : TypeId) (v : Value) (n : Nat) (xs : List Value) (hown : w.ownsRow base 5 1 v n xs) (s : ByteArray) (h63 : n + s.size ≤ maxLen) (hbytes : n + s.size ≤ 140737488355328) (hbase : base ≤ w.heap.size) :
    ∃ v' w', (Builtin.append_ #[23, 9] ty #[v, .string s]).run Try.prog w = .ok v' w' ∧ w'.ownsRow base 5 1 v' (n + s.size) (xs ++ Lib.strCells s) ∧ w.grownBy w' v.ownBlock ∧
      ∀ q, v'.ownBlock = some q → v.ownBlock = some q ∨ w.heap.size ≤ q := by
  obtain ⟨i, hi, hz, hsz, hby⟩ := info_parts el_bytes.info
  obtain ⟨v', w', hr, h2, h3, _⟩ := Lib.run_append_own_string (P := Try.prog) (w := w) base 23 9 ty 5 i Try.underlying23 Try.underlying9 hi hz hsz hby v n xs hown s h63 hbytes hbase
  refine ⟨v', w', hr, h2, h3, fun q hq => ?_⟩
  rcases hown.2 with ⟨rfl, rfl⟩ | ⟨g, cap, cur, rfl, hbg, hg, hnc, hcm, hcs, htake⟩
  · have hx : xs = [] := List.eq_nil_of_length_eq_zero (by simpa using hown.1)
    subst hx
    obtain ⟨v2, w2, hr2, h4, _, _⟩ := Lib.run_append_own_string (P := Try.prog) (w := w) w.heap.size 23 9 ty 5 i Try.underlying23 Try.underlying9 hi hz hsz hby (.slice none 0 0) 0 [] (World.ownsRow_nil w _ _ _) s h63 hbytes (Nat.le_refl _)
    rw [hr] at hr2
    injection hr2 with e1 e2
    subst e1; subst e2
    exact .inr (h4.lt q hq).1
  · have hcs' : cur.size = cap := by simpa using hcs
    by_cases hroom : n + s.size ≤ cap
    · have hr2 := Lib.run_append_room_string (P := Try.prog) w 23 9 ty 5 i Try.underlying23 Try.underlying9 hi hsz g n cap cur hg s hroom (by omega)
      rw [hr] at hr2
      injection hr2 with e1 e2
      subst e1
      exact .inl hq
    · have holds : ∀ j u, xs[j]? = some u → w.cell? ((⟨g, 0, none⟩ : Addr).add j) = some u := hown.cells (g := g) rfl
      have hr2 := Lib.run_append_grow_string (P := Try.prog) w 23 9 ty 5 i (.int .u8 0) Try.underlying23 Try.underlying9 hi hz ⟨g, 0, none⟩ n cap xs (by rw [hsz]; exact hown.1) holds s (by omega) (by omega) (by rw [hby]; exact growslice_fits (by omega) (by omega))
      rw [hr] at hr2
      injection hr2 with e1 e2
      subst e1
      have : w.heap.size = q := Option.some.inj hq
      exact .inr (by omega)
theorem wpList_str {w : World} {ops : Array Oper} {rest : List Oper} {o : Oper} {a : Act} {Q : Exit → Act → World → Prop} (hgd : o.guard = none) (s0 x : Operand)
    (ho : o.op = .call { callee := .builtin .append, args := #[s0, x], argTypes := #[23, 9] })
    (base : Nat) (v : Value) (n : Nat) (xs : List Value) (s : ByteArray) (hs : a.eval s0 = v) (hx : a.eval x = .string s) (hown : w.ownsRow base 5 1 v n xs)
    (h63 : n + s.size ≤ maxLen) (hbytes : n + s.size ≤ 140737488355328) (hbase : base ≤ w.heap.size)
    (h : ∀ v' w', w'.ownsRow base 5 1 v' (n + s.size) (xs ++ Lib.strCells s) → w.grownBy w' v.ownBlock → (∀ q, v'.ownBlock = some q → v.ownBlock = some q ∨ w.heap.size ≤ q) → wpList Try.prog ops Q rest (a.put o.dst v') w') : wpList Try.prog ops Q (o :: rest) a w :=
  wpList_plain hgd fun _ hK => by
    obtain ⟨v', w', hrun, h2, h3, h4⟩ := run_str_at w base o.type v n xs hown s h63 hbytes hbase
    unfold Oper.wp execOp
    simp only [ho, resolve, invoke, builtin, Sem.run_bind, Sem.run_pure, Result.andThen_ok, List.map_toArray, List.map_cons, List.map_nil, hs, hx, hrun]
    exact hK _ _ (h v' w' h2 h3 h4)
theorem strCells_bs (s : ByteArray) : Lib.strCells s = bs s.data.toList := by simp [Lib.strCells, bs]

/-- A builder that holds the bytes l, its buffer v. -/
structure Bld (w : World) (B b : Nat) (p v : Value) (l : List UInt8) : Prop where
  ge : B ≤ b
  blk : w.heap[b]? = some (.cells #[p, v] 89 (0, 0))
  pt : p = .pointer none ∨ p = .pointer (some ⟨b, 0, none⟩)
  own : w.ownsRow B 5 1 v l.length (bs l)
/-- What a writing method keeps. -/
structure Fr (w w' : World) (B b : Nat) (v v' : Value) : Prop where
  bel : Below B w w'
  keep : ∀ i, i < w.heap.size → i ≠ b → some i ≠ v.ownBlock → w'.heap[i]? = w.heap[i]?
  at' : ∀ q, v'.ownBlock = some q → v.ownBlock = some q ∨ w.heap.size ≤ q
section
variable {w w' : World} {B b : Nat} {p v : Value} {l : List UInt8}
theorem Bld.cells (h : Bld w B b p v l) : w.cell? ⟨b, 0, none⟩ = some p ∧ w.cell? ⟨b, 1, none⟩ = some v ∧ w.frozen? ⟨b, 1, none⟩ = false := by
  refine ⟨?_, ?_, ?_⟩ <;> simp [World.cell?, World.frozen?, h.blk]
theorem Bld.builder (h : Bld w B b p v l) : Lib.BuilderAt 89 5 B b p (bs l) w :=
  ⟨h.ge, v, h.blk, by rw [bs_length]; exact h.own, fun e => own_ne h.own h.blk (by decide) e.symm⟩
theorem Bld.check (h : Bld w B b p v l) :
    Calls Try.prog 74 #[.pointer (some ⟨b, 0, none⟩)] w fun e w' => e = .returned (.tuple #[]) ∧ Bld w' B b (.pointer (some ⟨b, 0, none⟩)) v l ∧ Below B w w' ∧ w'.heap.size = w.heap.size ∧ ∀ i, i ≠ b → w'.heap[i]? = w.heap[i]? := by
  rcases h.pt with hp | hp
  · subst hp
    refine (Any.Builder_copyCheck_fresh Try.lays240 Try.Builder_X72_240 b w h.cells.1 h.builder.shape h.builder.frozen0).mono fun e w' ⟨he, hw⟩ => ?_
    subst hw
    have hb : (w.setCell ⟨b, 0, none⟩ (.pointer (some ⟨b, 0, none⟩))).heap[b]? = some (.cells #[.pointer (some ⟨b, 0, none⟩), v] 89 (0, 0)) := by
      simp [World.setCell, Array.getElem?_modify, h.blk]
    exact ⟨he, ⟨h.ge, hb, .inr rfl, own_grown h.own (grownBy_set w b 0 _) (.inr fun e => own_ne h.own h.blk (by decide) e.symm)⟩, (Below.refl _ _).setCell (p := ⟨b, 0, none⟩) h.ge _, by simp [World.setCell], fun i hi => Below.heap_setCell w _ _ i (fun e => hi e)⟩
  · subst hp
    refine (Any.Builder_copyCheck_used Try.lays240 Try.Builder_X72_240 b w h.cells.1).mono fun e w' ⟨he, hw⟩ => ?_
    subst hw
    exact ⟨he, h, Below.refl _ _, rfl, fun _ _ => rfl⟩
theorem Bld.put {w1 w2 : World} {v2 : Value} {l2 : List UInt8} (h : Bld w1 B b p v l) (hg : w1.grownBy w2 v.ownBlock) (ho : w2.ownsRow B 5 1 v2 l2.length (bs l2)) : Bld (w2.setCell ⟨b, 1, none⟩ v2) B b p v2 l2 := by
  have hlt := lt_of_blk h.blk
  have hb : w2.heap[b]? = some (.cells #[p, v] 89 (0, 0)) := (hg.block b hlt (own_ne h.own h.blk (by decide))).trans h.blk
  have hb2 : (w2.setCell ⟨b, 1, none⟩ v2).heap[b]? = some (.cells #[p, v2] 89 (0, 0)) := by
    simp [World.setCell, Array.getElem?_modify, hb]
  exact ⟨h.ge, hb2, h.pt, own_grown ho (grownBy_set w2 b 1 v2) (.inr fun e => own_ne ho hb (by decide) e.symm)⟩
end

/-- What WriteString and WriteByte leave. -/
def Wrote (w : World) (B b : Nat) (v : Value) (l : List UInt8) (w' : World) : Prop := ∃ v', Bld w' B b (.pointer (some ⟨b, 0, none⟩)) v' l ∧ Fr w w' B b v v'
theorem wrote_of {w w1 w2 : World} {B b : Nat} {v v2 : Value} {o : Option Obj} {l l2 : List UInt8} (h1 : Bld w1 B b (.pointer (some ⟨b, 0, none⟩)) v l) (hb : Below B w w1) (hs : w1.heap.size = w.heap.size) (hk : ∀ i, i ≠ b → w1.heap[i]? = w.heap[i]?) (hB : B ≤ w.heap.size)
    (hg : w1.grownBy w2 v.ownBlock) (ho : w2.ownsRow B 5 1 v2 l2.length (bs l2)) (ha : ∀ q, v2.ownBlock = some q → v.ownBlock = some q ∨ w.heap.size ≤ q) : Wrote w B b v l2 (w2.setCell ⟨b, 1, none⟩ v2) := by
  have hlt := lt_of_blk h1.blk
  refine ⟨v2, h1.put hg ho, ((hb.grown hg (by omega) (fun q hq => (h1.own.lt q hq).1)).setCell (p := ⟨b, 1, none⟩) h1.ge _), fun i hi hib hiv => ?_, ha⟩
  rw [Below.heap_setCell w2 _ _ i (fun e => hib e), hg.block i (by omega) hiv, hk i hib]
theorem Bld.kept {w1 w2 : World} {B b : Nat} {p v : Value} {l : List UInt8} (h : Bld w1 B b p v l) (hg : w1.grownBy w2 v.ownBlock) : w2.cell? ⟨b, 1, none⟩ = some v ∧ w2.frozen? ⟨b, 1, none⟩ = false := by
  have hb : w2.heap[b]? = some (.cells #[p, v] 89 (0, 0)) := (hg.block b (lt_of_blk h.blk) (own_ne h.own h.blk (by decide))).trans h.blk
  exact ⟨by simp [World.cell?, hb], by simp [World.frozen?, hb]⟩
section
variable {w w' : World} {B b : Nat} {p v : Value} {l : List UInt8}
theorem Bld.grown (h : Bld w B b p v l) {row : Option Nat} (hg : w.grownBy w' row) (hb : some b ≠ row) (hv : v.ownBlock = none ∨ v.ownBlock ≠ row) : Bld w' B b p v l :=
  ⟨h.ge, (hg.block b (lt_of_blk h.blk) hb).trans h.blk, h.pt, own_grown h.own hg hv⟩
theorem Bld.after (h : Bld w B b p v l) (hb : Below w.heap.size w w') : Bld w' B b p v l := ⟨h.ge, (hb.block b (lt_of_blk h.blk)).trans h.blk, h.pt, own_over h.own hb⟩
theorem Bld.fresh (w : World) : Lib.IsBuilder 89 5 w.heap.size w.heap.size [] (w.alloc (.cells #[.pointer none, .slice none 0 0] 89)) :=
  .inl ⟨Nat.le_refl _, .slice none 0 0, heap_alloc_new w _, World.ownsRow_nil _ _ _ _, by simp [Value.ownBlock]⟩
theorem Bld.of (h : Lib.BuilderAt 89 5 B b (.pointer (some ⟨b, 0, none⟩)) (bs l) w) : ∃ v, Bld w B b (.pointer (some ⟨b, 0, none⟩)) v l := by
  obtain ⟨h1, v, h2, h3, _⟩ := h
  rw [bs_length] at h3
  exact ⟨v, h1, h2, .inr rfl, h3⟩
theorem byteCells_bs (l : List UInt8) : Lib.byteCells l = bs l := by simp [Lib.byteCells, bs]
theorem Bld.string (h : Bld w B b p v l) (hB : B ≤ w.heap.size) : Calls Try.prog 51 #[.pointer (some ⟨b, 0, none⟩)] w fun e w' => e = .returned (.string ⟨l.toArray⟩) ∧ Below B w w' := by
  refine Try.Builder_String_any B b l w ?_ hB
  rw [byteCells_bs]
  rcases h.pt with hp | hp
  · subst hp; exact .inl h.builder
  · subst hp; exact .inr h.builder
/-- Bytes that lie beside a builder stay. -/
theorem Fr.rd {v' : Value} {A : Option Addr} {xs : List Value} (h : Fr w w' B b v v') (hr : Rd w (fun q => q ≠ b ∧ some q ≠ v.ownBlock) A xs) : Rd w' (fun q => q ≠ b ∧ some q ≠ v'.ownBlock) A xs :=
  hr.move fun i hi hp => ⟨⟨hp.1, fun e => by
    rcases h.at' i e.symm with h1 | h1
    · exact hp.2 h1.symm
    · omega⟩, h.keep i hi hp.1 hp.2⟩
end
set_option maxHeartbeats 1000000 in
theorem wstr_any (B b : Nat) (p v : Value) (l : List UInt8) (s : ByteArray) (w : World) (h : Bld w B b p v l) (hm : (l.length : Int) + (s.size : Int) ≤ 140737488355328) (hB : B ≤ w.heap.size) :
    Calls Try.prog 50 #[.pointer (some ⟨b, 0, none⟩), .string s] w fun e w' => e = .returned (.tuple #[.int .i64 (s.size : Int), .nilIface]) ∧ Wrote w B b v (l ++ s.data.toList) w' := by
  have C := Lib.hid h.check
  clear h
  go_enter Try.func50, Try.ntmps50
  go_wp2_with (first
    | (go_at_call 74; refine C.out.mono ?_; rintro e w1 ⟨rfl, h1, h2, h3, h4⟩; obtain ⟨c0, c1, c2⟩ := h1.cells; have H1 := Lib.hid h1; have H2 := Lib.hid h2; have H3 := Lib.hid h3; have H4 := Lib.hid h4; clear h1 h2 h3 h4)
    | (at_builtin; go_must (refine wpList_str rfl (.tmp 12) (.tmp 13) rfl B v l.length (bs l) s rfl rfl H1.out.own (by unfold maxLen; omega) (by omega) (by rw [H3.out]; exact hB) ?_; intro v2 w2 ho hg ha; obtain ⟨A2, c5, rfl, _⟩ := own_form ho; obtain ⟨k1, k2⟩ := H1.out.kept hg; have HO := Lib.hid ho; have HG := Lib.hid hg; have HA := Lib.hid ha; clear ho hg ha)))
  go_ret2
  refine ⟨rfl, ?_⟩
  have ho := HO.out
  have ha := HA.out
  rw [H3.out] at ha
  rw [strCells_bs, ← bs_append] at ho
  have e : l.length + s.size = (l ++ s.data.toList).length := by rw [List.length_append, str_len]
  rw [e] at ho ha ⊢
  exact wrote_of (o := none) H1.out H2.out H3.out H4.out hB HG.out ho ha
end Go.Proofs.Ytilfbnfejnjaeaa
