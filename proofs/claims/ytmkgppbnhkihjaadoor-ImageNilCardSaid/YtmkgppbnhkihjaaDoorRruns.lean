/- The walk of the reference's Runs. -/
import Derived.Test.YtmkgppbnhkihjaaDoorRput
import Derived.Test.YtmkgppbnhkihjaaDoorRunv
import Derived.Deep.RegionHeld3
import Derived.Deep.QuietTactic
import Derived.BigQuiet
import Derived.IntWalk
namespace Go.Proofs.YtmkgppbnhkihjaaDoor
open Go.RowKit

theorem el22 : El Tryd.prog 22 30 (.agg #[.int .i64 0, .slice none 0 0]) 2 32 := ⟨Tryd.underlying22, by kernel_rfl, rfl, by decide⟩
theorem el28r : El Tryd.prog 28 5 (.int .u8 0) 1 1 := ⟨Tryd.underlying28, by kernel_rfl, rfl, by decide⟩

theorem own_some {w : World} {base n : Nat} {e : TypeId} {size : Nat} {v : Value} {xs : List Value} (h : w.ownsRow base e size v n xs) (hn : 0 < n) : ∃ g c, v = .slice (some ⟨g, 0, none⟩) n c ∧ n ≤ c := by
  rcases h.2 with ⟨_, h0⟩ | ⟨g, cap, cur, hv, _, _, hc, _⟩
  · omega
  · exact ⟨g, cap, hv, hc⟩
theorem own_ne {w : World} {b1 b2 n1 n2 : Nat} {e1 e2 : TypeId} {s1 s2 : Nat} {v1 v2 : Value} {xs ys : List Value} (h1 : w.ownsRow b1 e1 s1 v1 n1 xs) (h2 : w.ownsRow b2 e2 s2 v2 n2 ys) (he : e1 ≠ e2) {g : Nat} (hg : v1.ownBlock = some g) : v2.ownBlock ≠ some g := by
  rcases h1.2 with ⟨rfl, _⟩ | ⟨g1, c1, cur1, rfl, _, hh1, _⟩
  · simp [Value.ownBlock] at hg
  · rcases h2.2 with ⟨rfl, _⟩ | ⟨g2, c2, cur2, rfl, _, hh2, _⟩
    · simp [Value.ownBlock]
    · intro e
      have e1' : g1 = g := Option.some.inj hg
      have e2' : g2 = g := Option.some.inj e
      subst e1'; subst e2'
      rw [hh1] at hh2
      injection hh2 with hh2
      injection hh2 with _ h3
      exact he h3

theorem Rd.own_at {w : World} {base n c : Nat} {e : TypeId} {size : Nat} {A : Option Addr} {xs : List Value} (h : w.ownsRow base e size (.slice A n c) n xs) : Rd w (fun q => base ≤ q ∧ (Value.slice A n c).ownBlock = some q) A xs := fun hx => by
  obtain ⟨ad, e1, _, h3⟩ := Rd.of_own (p := fun _ => True) h (fun _ _ _ => trivial) hx
  subst e1
  exact ⟨ad, rfl, ⟨(h.lt _ rfl).1, rfl⟩, h3⟩

/-- What holds behind i cells: the runs R0, then the run (a, d), whose bytes lie in a row of their own. -/
structure RRel (w wr : World) (L : List (Nat × UInt8)) (i : Nat) (u : Value) (R0 : List (Nat × List UInt8)) (a : Nat) (d : List UInt8) (xs0 : List Value) (A1 : Option Addr) (c1 : Nat) : Prop where
  own : wr.ownsRow w.heap.size 30 2 u (R0.length + 1) (xs0 ++ [.int .i64 (a : Int), .slice A1 d.length c1])
  vals : RunVals wr (fun q => w.heap.size ≤ q ∧ some q ≠ u.ownBlock ∧ some q ≠ (Value.slice A1 d.length c1).ownBlock) xs0 (ri R0)
  last : wr.ownsRow w.heap.size 5 1 (.slice A1 d.length c1) d.length (bs d)
  flat : flat (R0 ++ [(a, d)]) = L.take i
  gaps : Gp R0 a
  below : Below w.heap.size w wr
  len : R0.length ≤ i

theorem RRel.push {w wr w2 : World} {L : List (Nat × UInt8)} {i : Nat} {u u2 : Value} {R0 : List (Nat × List UInt8)} {a : Nat} {d : List UInt8} {xs0 : List Value} {A1 : Option Addr} {c1 : Nat} {o : Obj} {x : Nat}
    (h : RRel w wr L i u R0 a d xs0 A1 c1) (hd : d ≠ []) (hx : a + d.length < x) (hlen : R0.length + 1 ≤ i)
    (hown : w2.ownsRow w.heap.size 30 2 u2 (R0.length + 1 + 1) (xs0 ++ [.int .i64 (a : Int), .slice A1 d.length c1] ++ [.int .i64 (x : Int), .slice none 0 0]))
    (hg : (wr.alloc o).grownBy w2 u.ownBlock) (hat : u2.ownBlock = u.ownBlock ∨ u2.ownBlock = some (wr.alloc o).heap.size) :
    RRel w w2 L i u2 (R0 ++ [(a, d)]) x [] (xs0 ++ [.int .i64 (a : Int), .slice A1 d.length c1]) none 0 := by
  have hsz := h.below.size
  have key : ∀ i, i < wr.heap.size → some i ≠ u.ownBlock → some i ≠ u2.ownBlock ∧ w2.heap[i]? = wr.heap[i]? := fun i hi hne => by
    refine ⟨?_, (hg.block i (by simp; omega) hne).trans (Below.heap_alloc wr o i hi)⟩
    rcases hat with e | e <;> rw [e]
    · exact hne
    · intro e
      have := Option.some.inj e
      simp at this; omega
  refine ⟨by simpa using hown, ?_, World.ownsRow_nil _ _ _ _, by rw [flat_snoc, h.flat]; simp [nw], h.gaps.snoc hd hx, (h.below.alloc hsz o).grown hg (by simp; omega) (fun q hq => (h.own.lt q hq).1), by simpa using hlen⟩
  rw [ri_snoc]
  refine (h.vals.move fun q hq hp => ?_).snoc ((Rd.own_at h.last).move fun q hq hp => ?_)
  · obtain ⟨k1, k2⟩ := key q hq hp.2.1
    exact ⟨⟨hp.1, k1, by simp [Value.ownBlock]⟩, k2⟩
  · obtain ⟨k1, k2⟩ := key q hq (fun e => own_ne h.last h.own (by decide) hp.2 e.symm)
    exact ⟨⟨hp.1, k1, by simp [Value.ownBlock]⟩, k2⟩

theorem RRel.first {w wr w2 : World} {L : List (Nat × UInt8)} {u2 : Value} {o : Obj} {x : Nat} {u : Value} (hb : Below w.heap.size w wr) (hu : u = .slice none 0 0)
    (hown : w2.ownsRow w.heap.size 30 2 u2 1 [.int .i64 (x : Int), .slice none 0 0]) (hg : (wr.alloc o).grownBy w2 u.ownBlock) : RRel w w2 L 0 u2 [] x [] [] none 0 :=
  ⟨by simpa using hown, RunVals.nil _ _, World.ownsRow_nil _ _ _ _, by simp [YtmkgppbnhkihjaaDoor.flat, nw], trivial, (hb.alloc hb.size o).grown hg (by simp; have := hb.size; omega) (fun q hq => by subst hu; cases hq), Nat.le_refl _⟩

theorem RRel.app {w wr w1 : World} {L : List (Nat × UInt8)} {i : Nat} {g c : Nat} {R0 : List (Nat × List UInt8)} {a : Nat} {d : List UInt8} {xs0 : List Value} {A1 A2 : Option Addr} {c1 c2 : Nat} {o : Obj} {y : UInt8}
    (h : RRel w wr L i (.slice (some ⟨g, 0, none⟩) (R0.length + 1) c) R0 a d xs0 A1 c1) (hi : i < L.length) (hL : L[i] = (a + d.length, y))
    (hown : w1.ownsRow w.heap.size 5 1 (.slice A2 (d.length + 1) c2) (d.length + 1) (bs d ++ [.int .u8 (y.toNat : Int)]))
    (hg : (wr.alloc o).grownBy w1 (Value.slice A1 d.length c1).ownBlock) (hat : (Value.slice A2 (d.length + 1) c2).ownBlock = (Value.slice A1 d.length c1).ownBlock ∨ (Value.slice A2 (d.length + 1) c2).ownBlock = some (wr.alloc o).heap.size) :
    RRel w (w1.setCell ⟨g, R0.length * 2 + 1, none⟩ (.slice A2 (d.length + 1) c2)) L (i + 1) (.slice (some ⟨g, 0, none⟩) (R0.length + 1) c) R0 a (d ++ [y]) xs0 A2 c2 := by
  have hsz := h.below.size
  have hgb := h.own.lt g rfl
  have hne1 : some g ≠ (Value.slice A1 d.length c1).ownBlock := fun e => own_ne h.last h.own (by decide) e.symm rfl
  have hne2 : some g ≠ (Value.slice A2 (d.length + 1) c2).ownBlock := by
    rcases hat with e | e <;> rw [e]
    · exact hne1
    · intro e
      have := Option.some.inj e
      simp at this; omega
  have hb1 : w1.heap[g]? = wr.heap[g]? := (hg.block g (by simp; omega) hne1).trans (Below.heap_alloc wr o g hgb.2)
  have ho1 : w1.ownsRow w.heap.size 30 2 (.slice (some ⟨g, 0, none⟩) (R0.length + 1) c) (R0.length + 1) (xs0 ++ [.int .i64 (a : Int), .slice A1 d.length c1]) := by
    refine (h.own.alloc o).kept hg (.inr ?_)
    exact fun e => hne1 e
  obtain ⟨ho2, hg2⟩ := ho1.stored (R0.length * 2 + 1) (.slice A2 (d.length + 1) c2)
  have hx0 : xs0.length = R0.length * 2 := by have := h.vals.1; rw [ri_length] at this; exact this
  have hset : (xs0 ++ [Value.int .i64 (a : Int), Value.slice A1 d.length c1]).set (R0.length * 2 + 1) (.slice A2 (d.length + 1) c2) = xs0 ++ [Value.int .i64 (a : Int), Value.slice A2 (d ++ [y]).length c2] := by
    rw [List.set_append_right _ _ (by omega), hx0]
    simp
  rw [hset] at ho2
  have key : ∀ q, q < wr.heap.size → some q ≠ (Value.slice A1 d.length c1).ownBlock → q ≠ g → (w1.setCell ⟨g, R0.length * 2 + 1, none⟩ (.slice A2 (d.length + 1) c2)).heap[q]? = wr.heap[q]? := fun q hq h1 h2 =>
    (Below.heap_setCell w1 _ _ q h2).trans ((hg.block q (by simp; omega) h1).trans (Below.heap_alloc wr o q hq))
  have e2 : (d ++ [y]).length = d.length + 1 := by simp
  refine ⟨ho2, h.vals.move fun q hq hp => ?_, ?_, ?_, h.gaps, ?_, by have := h.len; omega⟩
  · have hqg : q ≠ g := fun e => hp.2.1 (by rw [e]; rfl)
    refine ⟨⟨hp.1, hp.2.1, ?_⟩, key q hq hp.2.2 hqg⟩
    rw [e2]
    rcases hat with e | e <;> rw [e]
    · exact hp.2.2
    · intro e
      have := Option.some.inj e
      simp at this; omega
  · rw [e2, bs_append]
    exact hown.kept hg2 (.inr fun e => hne2 e.symm)
  · rw [flat_snoc, nw_snoc, ← List.append_assoc, ← flat_snoc, h.flat, ← hL, List.take_succ_eq_append_getElem hi]
  · exact ((h.below.alloc hsz o).grown hg (by simp; omega) (fun q hq => (h.last.lt q hq).1)).setCell (p := ⟨g, R0.length * 2 + 1, none⟩) hgb.1 _

theorem RRel.at_last {w wr : World} {L : List (Nat × UInt8)} {i g c3 : Nat} {R0 : List (Nat × List UInt8)} {a : Nat} {d : List UInt8} {xs0 : List Value} {A1 : Option Addr} {c1 : Nat}
    (h : RRel w wr L i (.slice (some ⟨g, 0, none⟩) (R0.length + 1) c3) R0 a d xs0 A1 c1) : wr.cell? ⟨g, R0.length * 2 + 1, none⟩ = some (.slice A1 d.length c1) ∧ wr.frozen? ⟨g, R0.length * 2 + 1, none⟩ = false := by
  have hx0 : xs0.length = R0.length * 2 := by have := h.vals.1; rw [ri_length] at this; exact this
  refine ⟨?_, h.own.frozenAt _⟩
  rw [h.own.cellAt _ (by omega), List.getElem?_append_right (by omega), hx0]
  simp
theorem RRel.after_app {w wr w1 : World} {L : List (Nat × UInt8)} {i g c3 : Nat} {R0 : List (Nat × List UInt8)} {a : Nat} {d : List UInt8} {xs0 : List Value} {A1 : Option Addr} {c1 : Nat} {o : Obj}
    (h : RRel w wr L i (.slice (some ⟨g, 0, none⟩) (R0.length + 1) c3) R0 a d xs0 A1 c1) (hg : (wr.alloc o).grownBy w1 (Value.slice A1 d.length c1).ownBlock) :
    w1.cell? ⟨g, R0.length * 2 + 1, none⟩ = some (.slice A1 d.length c1) ∧ w1.frozen? ⟨g, R0.length * 2 + 1, none⟩ = false := by
  have hgb := h.own.lt g rfl
  have hne1 : some g ≠ (Value.slice A1 d.length c1).ownBlock := fun e => own_ne h.last h.own (by decide) e.symm rfl
  have hb1 : w1.heap[g]? = wr.heap[g]? := (hg.block g (by simp; omega) hne1).trans (Below.heap_alloc wr o g hgb.2)
  obtain ⟨k1, k2⟩ := h.at_last
  exact ⟨(World.cell?_of_block (w := wr) hb1).trans k1, (World.frozen?_of_block (w := wr) hb1).trans k2⟩
theorem RRel.next {w wr : World} {L : List (Nat × UInt8)} {i : Nat} {u : Value} {R0 : List (Nat × List UInt8)} {a : Nat} {d : List UInt8} {xs0 : List Value} {A1 : Option Addr} {c1 : Nat} {y : UInt8} (h : RRel w wr L (i + 1) u R0 a (d ++ [y]) xs0 A1 c1) (hl : R0.length ≤ i)
    (hi : i < L.length) (hxy : L[i] = (a + d.length, y)) : ∃ R0 a d xs0 A1 c1 x, RRel w wr L (i + 1) u R0 a d xs0 A1 c1 ∧ d ≠ [] ∧ 0 < i + 1 ∧ (∃ h : i + 1 - 1 < L.length, L[i + 1 - 1].1 = x) ∧ a + d.length = x + 1 ∧ R0.length + 1 ≤ i + 1 :=
  ⟨R0, a, d ++ [y], xs0, A1, c1, a + d.length, h, by simp, by omega, ⟨by simpa using hi, by simp [hxy]⟩, by simp; omega, by omega⟩
theorem RRel.dlen {w wr : World} {L : List (Nat × UInt8)} {i : Nat} {u : Value} {R0 : List (Nat × List UInt8)} {a : Nat} {d : List UInt8} {xs0 : List Value} {A1 : Option Addr} {c1 : Nat} (h : RRel w wr L i u R0 a d xs0 A1 c1) : d.length ≤ i := by
  have := congrArg List.length h.flat
  rw [flat_snoc, List.length_append, nw_length, List.length_take] at this
  omega
theorem grown_of {w w1 w' : World} {row : Option Nat} (h : w1.grownBy w' row) (h1 : w1.os = w.os) (h2 : w1.tape = w.tape) (h3 : w1.output = w.output) (h4 : w1.heap = w.heap) : w.grownBy w' row :=
  ⟨h.os.trans h1, h.tape.trans h2, h.output.trans h3, by rw [← h4]; exact h.size, fun k hk hne => by rw [← h4] at hk ⊢; exact h.block k hk hne⟩
theorem grownBy_undrew {w w' : World} {row : Option Nat} {n : Nat} (h : (w.drewN n).grownBy w' row) : w.grownBy w' row := ⟨h.os, h.tape, h.output, h.size, h.block⟩
theorem grownBy_alloc_undrew {w w' : World} {o : Obj} {row : Option Nat} {n : Nat} (h : ((w.drewN n).alloc o).grownBy w' row) : (w.alloc o).grownBy w' row := ⟨h.os, h.tape, h.output, h.size, h.block⟩
theorem mid_first {w wr w2 : World} {L : List (Nat × UInt8)} {i : Nat} {u2 : Value} {o : Obj} {x : Nat} {y : UInt8} (h0 : i = 0) (hb : Below w.heap.size w wr) (hi : i < L.length) (hxy : L[i] = (x, y))
    (hown : w2.ownsRow w.heap.size 30 2 u2 1 [.int .i64 (x : Int), .slice none 0 0]) (hg : (wr.alloc o).grownBy w2 (Value.slice none 0 0).ownBlock) :
    ∃ R0 a d xs0 A1 c1 g c3, u2 = .slice (some ⟨g, 0, none⟩) (R0.length + 1) c3 ∧ RRel w w2 L i u2 R0 a d xs0 A1 c1 ∧ ∃ h : i < L.length, L[i] = (a + d.length, y) := by
  subst h0
  obtain ⟨g, c3, hu, _⟩ := own_some hown (by omega)
  exact ⟨[], x, [], [], none, 0, g, c3, hu, RRel.first hb rfl hown hg, hi, hxy⟩
theorem mid_push {w wr w2 : World} {L : List (Nat × UInt8)} {i : Nat} {u u2 : Value} {R0 : List (Nat × List UInt8)} {a : Nat} {d : List UInt8} {xs0 : List Value} {A1 : Option Addr} {c1 : Nat} {o : Obj} {x : Nat} {y : UInt8}
    (h : RRel w wr L i u R0 a d xs0 A1 c1) (hd : d ≠ []) (hx : a + d.length < x) (hlen : R0.length + 1 ≤ i) (hi : i < L.length) (hxy : L[i] = (x, y))
    (hown : w2.ownsRow w.heap.size 30 2 u2 (R0.length + 1 + 1) (xs0 ++ [.int .i64 (a : Int), .slice A1 d.length c1] ++ [.int .i64 (x : Int), .slice none 0 0]))
    (hg : (wr.alloc o).grownBy w2 u.ownBlock) (hat : u2.ownBlock = u.ownBlock ∨ u2.ownBlock = some (wr.alloc o).heap.size) :
    ∃ R0 a d xs0 A1 c1 g c3, u2 = .slice (some ⟨g, 0, none⟩) (R0.length + 1) c3 ∧ RRel w w2 L i u2 R0 a d xs0 A1 c1 ∧ ∃ h : i < L.length, L[i] = (a + d.length, y) := by
  have hr := h.push hd hx hlen hown hg hat
  obtain ⟨g, c3, hu, _⟩ := own_some hr.own (by omega)
  exact ⟨_, x, [], _, none, 0, g, c3, hu, hr, hi, hxy⟩
theorem Rd.of_heap {w w' : World} {p : Nat → Prop} {A : Option Addr} {xs : List Value} (h : Rd w p A xs) (hh : w'.heap = w.heap) : Rd w' p A xs := h.keep fun i _ _ => by rw [hh]
theorem keep_alloc {w : World} {p : Addr} {u : Value} (k : Nat) (O : Obj) (h : w.cell? p = some u) : ((w.drewN k).alloc O).cell? p = some u := (World.cell?_alloc_lt (w.drewN k) O p (lt_of_cell h)).trans h
theorem keep_alloc0 {w : World} {p : Addr} {u : Value} (O : Obj) (h : w.cell? p = some u) : (w.alloc O).cell? p = some u := (World.cell?_alloc_lt w O p (lt_of_cell h)).trans h
/-- The append to the last run's bytes, as one step of its region. -/
theorem step_ref {ops : Array Oper} {o : Oper} {act : Act} {K : Act → World → Prop} {Q : Exit → Act → World → Prop} {F : Prop} {w wr wx : World} {L : List (Nat × UInt8)} {i g c3 : Nat} {R0 : List (Nat × List UInt8)} {a : Nat} {d : List UInt8} {xs0 : List Value} {A1 : Option Addr} {c1 : Nat} {y : UInt8}
    (hgd : o.guard = none) (ho : o.op = .call { callee := .builtin .append, args := #[.tmp 47, .tmp 53], argTypes := #[28, 28] })
    (h : RRel w wr L i (.slice (some ⟨g, 0, none⟩) (R0.length + 1) c3) R0 a d xs0 A1 c1) (hil : i < L.length) (hxy : L[i] = (a + d.length, y)) (hi : (i : Int) ≤ 65536)
    (hs : act.eval (.tmp 47) = .slice A1 d.length c1) (hx : act.eval (.tmp 53) = .slice (some ⟨wr.heap.size, 0, none⟩) 1 1)
    (e1 : wx.os = wr.os) (e2 : wx.tape = wr.tape) (e3 : wx.output = wr.output) (e4 : wx.heap = (wr.alloc (.cells #[.int .u8 (y.toNat : Int)] 5)).heap)
    {bm om : Nat} {um : Value} (hbm : bm < w.heap.size) (hcm : wr.cell? ⟨bm, om, none⟩ = some um)
    (hK : ∀ w3 A5 c5, w3.cell? ⟨bm, om, none⟩ = some um → w3.cell? ⟨g, R0.length * 2 + 1, none⟩ = some (.slice A1 d.length c1) → w3.frozen? ⟨g, R0.length * 2 + 1, none⟩ = false →
      Hid (RRel w (w3.setCell ⟨g, R0.length * 2 + 1, none⟩ (.slice A5 (d.length + 1) c5)) L (i + 1) (.slice (some ⟨g, 0, none⟩) (R0.length + 1) c3) R0 a (d ++ [y]) xs0 A5 c5) →
      K (act.put o.dst (.slice A5 (d.length + 1) c5)) w3) :
    if Region.wanted o (yielded ops act.tmps) = true then Oper.wp Tryd.prog o act wx K Q else F := by
  have hd := h.dlen
  have hsz := h.below.size
  have hown : wx.ownsRow w.heap.size 5 1 (.slice A1 d.length c1) d.length (bs d) := by
    have := h.last.alloc (.cells #[.int .u8 (y.toNat : Int)] 5)
    unfold World.ownsRow at this ⊢
    rw [e4]
    exact this
  refine step_app el28r hgd (.tmp 47) (.tmp 53) ho w.heap.size (.slice A1 d.length c1) d.length (bs d) (fun _ => True) (some ⟨wr.heap.size, 0, none⟩) 1 1 [.int .u8 (y.toNat : Int)] hs hx hown rfl
    ((Rd.new (p := fun _ => True) wr #[.int .u8 (y.toNat : Int)] 5 trivial).of_heap e4) (by intro u hu; simp at hu; subst hu; rfl) (by simp only [maxLen]; omega) (by omega) (by rw [e4]; simp; omega) ?_
  intro v5 w3 hown3 hg3 hat3 _
  obtain ⟨A5, c5, rfl, _⟩ := own_form hown3
  have hgg : (wr.alloc (.cells #[.int .u8 (y.toNat : Int)] 5)).grownBy w3 (Value.slice A1 d.length c1).ownBlock := grown_of hg3 e1 e2 e3 e4
  obtain ⟨hca3, hfa3⟩ := h.after_app hgg
  have hb3 : Below w.heap.size w w3 := (h.below.alloc hsz _).grown hgg (by simp; omega) (fun q hq => (h.last.lt q hq).1)
  have hm3 : w3.cell? ⟨bm, om, none⟩ = some um := (hb3.cell (p := ⟨bm, om, none⟩) hbm).trans ((h.below.cell (p := ⟨bm, om, none⟩) hbm).symm.trans hcm)
  exact hK w3 A5 c5 hm3 hca3 hfa3 (h.app hil hxy hown3 hgg (by rw [e4] at hat3; exact hat3))
/-- What the reference's Runs hands back. -/
def RrPost (w : World) (L : List (Nat × UInt8)) (e : Ending) (w' : World) : Prop :=
  ∃ v R xs, e = .returned v ∧ flat R = L ∧ Gp R 65537 ∧ w'.ownsRow w.heap.size 30 2 v R.length xs ∧ RunVals w' (fun q => w.heap.size ≤ q) xs (ri R) ∧ Below w.heap.size w w'
/-- The relation of the loop. -/
def RLoop (w wr : World) (L : List (Nat × UInt8)) (i : Nat) (u : Value) : Prop :=
  (i = 0 ∧ u = .slice none 0 0 ∧ Below w.heap.size w wr) ∨ ∃ R0 a d xs0 A1 c1 x, RRel w wr L i u R0 a d xs0 A1 c1 ∧ d ≠ [] ∧ 0 < i ∧ (∃ h : i - 1 < L.length, L[i - 1].1 = x) ∧ a + d.length = x + 1 ∧ R0.length + 1 ≤ i

/-- In the middle of a round: the run that takes the cell is there. -/
def RMid (w wr : World) (L : List (Nat × UInt8)) (i : Nat) (u : Value) (y : UInt8) : Prop :=
  ∃ R0 a d xs0 A1 c1 g c3, u = .slice (some ⟨g, 0, none⟩) (R0.length + 1) c3 ∧ RRel w wr L i u R0 a d xs0 A1 c1 ∧ ∃ h : i < L.length, L[i] = (a + d.length, y)

set_option maxHeartbeats 1000000 in
theorem rruns_core (A : Option Addr) (L : List (Nat × UInt8)) (n c : Nat) (w : World) (p : Nat → Prop) (hn : n = L.length) (hm : (n : Int) ≤ 65536) (hnc : n ≤ c) (h : Rd w p A (cl L)) (hs : L.Pairwise (fun x y => x.1 < y.1)) (hL : ∀ c ∈ L, c.1 < 65536) :
    Calls Tryd.prog 30 #[.slice A n c] w (RrPost w L) := by
  have HN := Lib.hid hn
  have HS := Lib.hid hs
  have HL := Lib.hid hL
  have HR := Lib.hid h
  clear hn hs hL h
  go_enter Tryd.func30, Tryd.ntmps30
  go_wp2
  go_loopw [3, 4] (fun u v wr => ∃ i : Nat, i ≤ n ∧ v = .int .i64 i ∧ Hid (RLoop w wr L i u)) (fun _ v _ => n - (intOf v).toNat)
  case atStart => exact ⟨0, Nat.zero_le _, rfl, .inl ⟨rfl, rfl, Below.refl _ _⟩⟩
  case round =>
    obtain ⟨i, hi, rfl, hr⟩ := hrel
    by_cases hlt : i < n
    · have hil : i < L.length := by rw [← HN.out]; exact hlt
      obtain ⟨x, hx⟩ : ∃ x, L[i].1 = x := ⟨_, rfl⟩
      obtain ⟨y, hy⟩ : ∃ y, L[i].2 = y := ⟨_, rfl⟩
      have hxy : Hid (L[i] = (x, y)) := Prod.ext hx hy
      rcases hr.out with ⟨h0, rfl, hb⟩ | ⟨R0, a, d, xs0, A1, c1, x', hrr, hd, hi0, ⟨hx1, hx'⟩, hax, hl⟩
      · obtain ⟨b, o, rfl, _, hc, hc'⟩ := (HR.out.after hb).cell hil
        rw [hx] at hc
        have HB := Lib.hid hb
        have H0 := Lib.hid h0
        have d0 : (((i : Nat) : Int) == 0) = true := by simpa using h0
        clear hc' hx hy hr hb h0
        go_wp2
        go_quiet (fail)
        go_wp2_with (at_builtin; refine wpList_app el22 rfl (.tmp 29) (.tmp 36) rfl w.heap.size (.slice none 0 0) 0 [] (fun _ => True) _ 1 1 [.int .i64 (x : Int), .slice none 0 0] rfl rfl (World.ownsRow_nil _ _ _ _) rfl (Rd.new _ #[.int .i64 (x : Int), .slice none 0 0] 30 trivial) (by intro u hu; simp at hu; rcases hu with rfl | rfl <;> rfl) (by simp only [maxLen]; omega) (by omega) (by simp; have := HB.out.size; omega) ?_; intro u2 w2 hown2 hg2 hat2 hz2; have HM : Hid (RMid w w2 L i u2 y) := mid_first H0.out HB.out hil hxy.out hown2 (grownBy_alloc_undrew hg2); clear hown2 hg2 hat2 hz2; obtain ⟨R1, a1, d2, xs1, A2, c2, g1, c4, rfl, hrr1, hil1, hxy1⟩ := HM.out; obtain ⟨hca, hfa⟩ := hrr1.at_last; obtain ⟨bm, om, em, _, _, hcm⟩ := (HR.out.after hrr1.below).cell hil; injection em with em; injection em with em1 em2; subst em1; subst em2; rw [hxy.out] at hcm; have hlen1 := hrr1.len; have hR1 : (R1.length : Int) ≤ 65536 := (by omega); have HR1 := Lib.hid hrr1; have HXY := Lib.hid hxy1; clear hrr1 hxy1 HM hlen1 hc)
        obtain ⟨bm', om', em', _, hwm, _⟩ := HR.out.cell hil
        injection em' with em'
        injection em' with em1' em2'
        subst em1'; subst em2'
        have hbm : b < w.heap.size := lt_of_cell hwm
        clear hwm
        have k1 := fun k O => keep_alloc k O hca
        have k2 := fun k O => keep_alloc k O hcm
        have k3 := fun O => keep_alloc0 O hca
        have k4 := fun O => keep_alloc0 O hcm
        have bd : (d2.length : Int) ≤ 65536 := by have := HR1.out.dlen; omega
        have bi0 : (0 : Int) ≤ (i : Int) := by omega
        have bi1 : (i : Int) < (n : Int) := by omega
        have bi9 : (i : Int) ≤ 65536 := by omega
        have bi2 : (R1.length : Int) < (R1.length : Int) + 1 := by omega
        go_region_law (first | (refine step_ref rfl rfl HR1.out hil HXY.out bi9 rfl rfl rfl rfl rfl rfl hbm hcm ?_; intro w3 A5 c5 hcm3 hca3 hfa3 HNEW))
        all_goals go_wp2
        all_goals exact ⟨⟨i + 1, by omega, by go_num, .inr (HNEW.out.next HR1.out.len hil HXY.out)⟩, by simp [intOf]; omega⟩
      · obtain ⟨j, hij⟩ : ∃ j, i = j + 1 := ⟨i - 1, by omega⟩
        have hj : j < L.length := by omega
        obtain ⟨b, o, rfl, _, hc, hc'⟩ := (HR.out.after hrr.below).cell hil
        obtain ⟨b', o', e1, _, hp, _⟩ := (HR.out.after hrr.below).cell hj
        injection e1 with e1
        injection e1 with e1 e2
        subst e1; subst e2
        have e3 : i - 1 = j := by omega
        simp only [e3] at hx'
        rw [hx] at hc
        rw [hx'] at hp
        have d0 : (((i : Nat) : Int) == 0) = false := by rw [beq_eq_false_iff_ne]; omega
        have b1 : (0 : Int) ≤ (i : Int) := by omega
        have b2 : (i : Int) < (n : Int) := by omega
        have b3 : IntKind.i64.wrap ((i : Int) - 1) = (j : Int) := by rw [IntWalk.i64_in _ (by omega)]; omega
        have b4 : (j : Int) < (n : Int) := by omega
        have b5 : IntKind.i64.wrap ((x' : Int) + 1) = (x' : Int) + 1 := by
          have := HL.out _ (List.getElem_mem hj)
          rw [IntWalk.i64_in _ (by omega)]
        by_cases hxx : x = x' + 1
        · have d1 : (((x : Nat) : Int) != (x' : Int) + 1) = false := by simp; omega
          have HM : Hid (RMid w wr L i u3 y) := by
            obtain ⟨g, c3, hu, _⟩ := own_some hrr.own (by omega)
            exact ⟨R0, a, d, xs0, A1, c1, g, c3, hu, hrr, hil, by rw [hxy.out]; congr 1; omega⟩
          have HB := Lib.hid hrr.below
          clear hc' hx hy hr hrr hx' hd hi0 hax hl hxx hij e3
          obtain ⟨R1, a1, d2, xs1, A2, c2, g1, c4, rfl, hrr1, hil1, hxy1⟩ := HM.out
          obtain ⟨hca, hfa⟩ := hrr1.at_last
          obtain ⟨bm, om, em, _, _, hcm⟩ := (HR.out.after hrr1.below).cell hil
          injection em with em
          injection em with em1 em2
          subst em1; subst em2
          rw [hxy.out] at hcm
          have hlen1 := hrr1.len
          have hR1 : (R1.length : Int) ≤ 65536 := by omega
          have HR1 := Lib.hid hrr1
          have HXY := Lib.hid hxy1
          clear hrr1 hxy1 HM hlen1
          go_wp2
          go_quiet (fail)
          go_wp2_with fail
          obtain ⟨bm', om', em', _, hwm, _⟩ := HR.out.cell hil
          injection em' with em'
          injection em' with em1' em2'
          subst em1'; subst em2'
          have hbm : b < w.heap.size := lt_of_cell hwm
          clear hwm
          have k1 := fun k O => keep_alloc k O hca
          have k2 := fun k O => keep_alloc k O hcm
          have k3 := fun O => keep_alloc0 O hca
          have k4 := fun O => keep_alloc0 O hcm
          have bd : (d2.length : Int) ≤ 65536 := by have := HR1.out.dlen; omega
          have bi0 : (0 : Int) ≤ (i : Int) := by omega
          have bi1 : (i : Int) < (n : Int) := by omega
          have bi9 : (i : Int) ≤ 65536 := by omega
          have bi2 : (R1.length : Int) < (R1.length : Int) + 1 := by omega
          go_region_law (first | (refine step_ref rfl rfl HR1.out hil HXY.out bi9 rfl rfl rfl rfl rfl rfl hbm hcm ?_; intro w3 A5 c5 hcm3 hca3 hfa3 HNEW))
          all_goals go_wp2
          all_goals exact ⟨⟨i + 1, by omega, by go_num, .inr (HNEW.out.next HR1.out.len hil HXY.out)⟩, by simp [intOf]; omega⟩
        · have d1 : (((x : Nat) : Int) != (x' : Int) + 1) = true := by simp; omega
          have HB := Lib.hid hrr.below
          have hlt2 : a + d.length < x := by
            have h1 := List.pairwise_iff_getElem.1 HS.out j i hj hil (by omega)
            omega
          have HPA : Hid (∀ k o, ((wr.drewN k).alloc o).ownsRow w.heap.size 30 2 u3 (R0.length + 1) (xs0 ++ [.int .i64 (a : Int), .slice A1 d.length c1])) := fun k o => World.ownsRow.alloc (w := wr.drewN k) hrr.own o
          have HQ : Hid (∀ w2 u2 o, w2.ownsRow w.heap.size 30 2 u2 (R0.length + 1 + 1) (xs0 ++ [.int .i64 (a : Int), .slice A1 d.length c1] ++ [.int .i64 (x : Int), .slice none 0 0]) → (wr.alloc o).grownBy w2 u3.ownBlock →
              (u2.ownBlock = u3.ownBlock ∨ u2.ownBlock = some (wr.alloc o).heap.size) → RMid w w2 L i u2 y) := fun w2 u2 o g1 g2 g3 => mid_push hrr hd hlt2 hl hil hxy.out g1 g2 g3
          obtain ⟨g3, c3, rfl, _⟩ := own_some hrr.own (by omega)
          have hrl : (R0.length : Int) ≤ 65536 := by omega
          clear hc' hx hy hr hrr hx' hd hi0 hax hl hxx hlt2 hij e3
          go_wp2
          go_quiet (fail)
          go_wp2_with (at_builtin; refine wpList_app el22 rfl (.tmp 29) (.tmp 36) rfl w.heap.size _ (R0.length + 1) _ (fun _ => True) _ 1 1 [.int .i64 (x : Int), .slice none 0 0] rfl rfl (HPA.out _ _) rfl (Rd.new _ #[.int .i64 (x : Int), .slice none 0 0] 30 trivial) (by intro u hu; simp at hu; rcases hu with rfl | rfl <;> rfl) (by simp only [maxLen]; omega) (by omega) (by simp; have := HB.out.size; omega) ?_; intro u2 w2 hown2 hg2 hat2 hz2; have HM := Lib.hid (HQ.out _ _ _ hown2 (grownBy_alloc_undrew hg2) hat2); clear hown2 hg2 hat2 hz2; obtain ⟨R1, a1, d2, xs1, A2, c2, g1, c4, rfl, hrr1, hil1, hxy1⟩ := HM.out; obtain ⟨hca, hfa⟩ := hrr1.at_last; obtain ⟨bm, om, em, _, _, hcm⟩ := (HR.out.after hrr1.below).cell hil; injection em with em; injection em with em1 em2; subst em1; subst em2; rw [hxy.out] at hcm; have hlen1 := hrr1.len; have hR1 : (R1.length : Int) ≤ 65536 := (by omega); have HR1 := Lib.hid hrr1; have HXY := Lib.hid hxy1; clear hrr1 hxy1 HM hlen1 hc)
          obtain ⟨bm', om', em', _, hwm, _⟩ := HR.out.cell hil
          injection em' with em'
          injection em' with em1' em2'
          subst em1'; subst em2'
          have hbm : b < w.heap.size := lt_of_cell hwm
          clear hwm
          have k1 := fun k O => keep_alloc k O hca
          have k2 := fun k O => keep_alloc k O hcm
          have k3 := fun O => keep_alloc0 O hca
          have k4 := fun O => keep_alloc0 O hcm
          have bd : (d2.length : Int) ≤ 65536 := by have := HR1.out.dlen; omega
          have bi0 : (0 : Int) ≤ (i : Int) := by omega
          have bi1 : (i : Int) < (n : Int) := by omega
          have bi9 : (i : Int) ≤ 65536 := by omega
          have bi2 : (R1.length : Int) < (R1.length : Int) + 1 := by omega
          go_region_law (first | (refine step_ref rfl rfl HR1.out hil HXY.out bi9 rfl rfl rfl rfl rfl rfl hbm hcm ?_; intro w3 A5 c5 hcm3 hca3 hfa3 HNEW))
          all_goals go_wp2
          all_goals exact ⟨⟨i + 1, by omega, by go_num, .inr (HNEW.out.next HR1.out.len hil HXY.out)⟩, by simp [intOf]; omega⟩
    · obtain rfl : i = n := by omega
      go_wp2
      go_ret
      rcases hr.out with ⟨h0, rfl, hb⟩ | ⟨R0, a, d, xs0, A1, c1, x, hrr, hd, hi0, ⟨hx1, hx⟩, hax, hl⟩
      · have hL0 : L = [] := List.eq_nil_of_length_eq_zero (by rw [← HN.out]; exact h0)
        exact ⟨_, [], [], rfl, by rw [hL0]; rfl, trivial, World.ownsRow_nil _ _ _ _, RunVals.nil _ _, hb⟩
      · have hx2 := HL.out _ (List.getElem_mem hx1)
        refine ⟨_, R0 ++ [(a, d)], _, rfl, by rw [hrr.flat, List.take_of_length_le (by rw [← HN.out]; exact Nat.le_refl _)], hrr.gaps.snoc hd (by omega), by simpa using hrr.own, ?_, hrr.below⟩
        rw [ri_snoc]
        exact (hrr.vals.mono fun q _ hp => hp.1).snoc ((Rd.own_at hrr.last).mono fun q _ hp => hp.1)
end Go.Proofs.YtmkgppbnhkihjaaDoor
