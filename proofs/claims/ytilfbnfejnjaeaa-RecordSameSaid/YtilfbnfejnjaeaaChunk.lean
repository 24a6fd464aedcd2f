/- slices.Chunk at bytes: what it hands back, and its closure as an iterator. -/
import Derived.RangeFuncNested
import Derived.RangeFuncBound
import Derived.RangeFuncCalls
import Derived.RangeFuncLeaves
import Derived.Shelf.Abstract
import Derived.Shelf.RegionOpen
import Derived.WalkKit
import Derived.OwnWalkIn
import Derived.TacticsInMore
import Derived.LoopNIn
import Derived.LoopIn
import Derived.Test.YtilfbnfejnjaeaaClone
namespace Go.Proofs.Ytilfbnfejnjaeaa
open Go.RowKit Go.Shelf
attribute [local go_sem] Oper.semAt_some

/-- slices.Chunk: both arguments are boxed; the function value captures the boxes. -/
theorem chunk_any (A : Option Addr) (n c k : Nat) (w : World) (hk : 1 ≤ (k : Int)) :
    Calls Try.prog 56 #[.slice A n c, .int .i64 (k : Int)] w fun e w' => e = .returned (.func (.func 75) #[] #[.pointer (some ⟨w.heap.size, 0, none⟩), .pointer (some ⟨w.heap.size + 1, 0, none⟩)]) ∧
      (w.alloc (.cells #[.slice A n c] 23)).alloc (.cells #[.int .i64 (k : Int)] 3) = w' := by
  have h1 : ¬ (k : Int) < 1 := by omega
  go_enter Try.func56, Try.ntmps56
  go_wp2
  go_ret
  exact ⟨rfl, rfl⟩

/-- How many parts there are. -/
def nparts (len sz : Nat) : Nat := (len + sz - 1) / sz
theorem nparts_lt {len sz k : Nat} (hs : 1 ≤ sz) : k < nparts len sz ↔ k * sz < len := by
  unfold nparts
  rw [← Nat.succ_le_iff, Nat.le_div_iff_mul_le (by omega), Nat.succ_mul]
  omega
/-- A part's number. -/
abbrev Pt (len sz : Nat) : Type := { k : Nat // k * sz < len }
/-- How long a part is. -/
def pl (len sz k : Nat) : Nat := min sz (len - k * sz)
/-- Where it begins. -/
def po (o sz k : Nat) : Nat := o + k * sz
/-- It as a value. -/
def ptv (b o len sz : Nat) (x : Pt len sz) : Value := .slice (some ⟨b, po o sz x.1, none⟩) (pl len sz x.1) (pl len sz x.1)
/-- What a round must keep: the two boxes. -/
def Kb (B : Nat) (W W' : World) : Prop := W'.heap[B]? = W.heap[B]? ∧ W'.heap[B + 1]? = W.heap[B + 1]?
theorem Kb.trans {B : Nat} {a b c : World} (h : Kb B a b) (k : Kb B b c) : Kb B a c := ⟨k.1.trans h.1, k.2.trans h.2⟩
theorem kb_b {B : Nat} {w : World} (hB : B + 1 < w.heap.size) (W : World) (l : Nat) (o o' : Obj) (hl : w.heap.size ≤ l) (_ : W.heap[l]? = some o) (_ : o.isCells = false) (_ : o.isWalk = false) : Kb B W (W.putObj l o') :=
  ⟨World.putObj_heap_other (by omega), World.putObj_heap_other (by omega)⟩

set_option maxRecDepth 100000 in
set_option maxHeartbeats 2000000 in
theorem chunk1_in (n : Nat) (hn : 1 ≤ n) (l B b o len cap sz : Nat) (h1 : 1 ≤ sz) (h2 : (sz : Int) ≤ 65536) (h3 : (len : Int) ≤ 65536) (hc : len ≤ cap) (J Jx : List (Pt len sz) → World → Prop)
    (hY : ∀ pre x W, J pre W → pre.length < nparts len sz → YieldAt Fence.wide (n - 1) Try.prog l #[ptv b o len sz x] W fun e W' =>
      (e = .returned (.bool true) ∧ J (pre ++ [x]) W' ∧ Kb B W W') ∨ (e = .returned (.bool false) ∧ Jx (pre ++ [x]) W'))
    (W : World) (hJ : AbidesFrom W.heap.size J) (hB : W.heap[B]? = some (.cells #[.slice (some ⟨b, o, none⟩) len cap] 23 (0, 0))) (hB1 : W.heap[B + 1]? = some (.cells #[.int .i64 (sz : Int)] 3 (0, 0))) (h0 : J [] W) :
    CallsIn Fence.wide n Try.prog 75 #[.func (.yield l) #[] #[], .pointer (some ⟨B, 0, none⟩), .pointer (some ⟨B + 1, 0, none⟩)] W fun e W' => (∃ v, e = .returned v) ∧
      ((∃ ys : List (Pt len sz), ys.map Subtype.val = List.range (nparts len sz) ∧ J ys W') ∨ (∃ pre, True ∧ Jx pre W')) := by
  refine callsIn_of_wp Try.func75 rfl trivial ?_ rfl
  simp only [Try.ntmps75, List.size_toArray, List.length_cons, List.length_nil, Nat.reduceAdd, Nat.reduceSub, Array.replicate_succ, Array.replicate_zero, List.push_toArray, List.append_toArray, List.nil_append, List.cons_append]
  gi_wp2
  gi_loopw [4] (fun i wr => ∃ (k : Nat) (pre : List (Pt len sz)), k ≤ nparts len sz ∧ pre.map Subtype.val = List.range k ∧ i = .int .i64 ((k * sz : Nat) : Int) ∧ J pre wr ∧ wr.heap[B]? = some (.cells #[.slice (some ⟨b, o, none⟩) len cap] 23 (0, 0)) ∧ wr.heap[B + 1]? = some (.cells #[.int .i64 (sz : Int)] 3 (0, 0)))
    (fun i _ => len - (intOf i).toNat)
  case atStart => exact ⟨0, [], Nat.zero_le _, rfl, by simp, h0, hB, hB1⟩
  case round =>
    obtain ⟨k, pre, hk, hpre, rfl, hJs, hb0, hb1⟩ := hrel
    have hcell : wr.cell? ⟨B, 0, none⟩ = some (.slice (some ⟨b, o, none⟩) len cap) := by simp [World.cell?, hb0]
    have hcell1 : wr.cell? ⟨B + 1, 0, none⟩ = some (.int .i64 (sz : Int)) := by simp [World.cell?, hb1]
    by_cases hlt : k * sz < len
    · have HN : Hid ((k + 1 ≤ nparts len sz) ∧ (k + 1) * sz = k * sz + sz) := ⟨(nparts_lt h1).2 hlt, Nat.succ_mul _ _⟩
      obtain ⟨x, hx⟩ : ∃ x : Pt len sz, x.1 = k := ⟨⟨k, hlt⟩, rfl⟩
      have HP : Hid ((pre ++ [x]).map Subtype.val = List.range (k + 1)) := by
        show _ = _
        rw [List.map_append, hpre, List.range_succ]
        simp [hx]
      have HY := Lib.hid (hY pre x)
      dsimp only [ptv, pl, po] at HY
      rw [hx] at HY
      obtain ⟨q, hq⟩ : ∃ q, k * sz = q := ⟨_, rfl⟩
      obtain ⟨m, hm⟩ : ∃ m, min sz (len - q) = m := ⟨_, rfl⟩
      have HM : Hid (k * sz = q ∧ min sz (len - q) = m ∧ pre.length = k) := ⟨hq, hm, by
        have e := congrArg List.length hpre
        simpa using e⟩
      rw [hq] at HY hlt ⊢
      rw [hm] at HY
      have hq2 : min (sz : Int) ((len - q : Nat) : Int) = (m : Int) := by omega
      have hm1 : q + m ≤ len := by omega
      clear hq hm hpre hx hY
      gi_wp2
      gi_region
      have hJd : J pre wr.drew := hJ pre wr _ none hJs (grownBy_drew (grownBy_below (Below.refl _ _) none)) (fun r e => by cases e)
      obtain ⟨fn, tmps, assign, body, hy, hR⟩ := HY.out wr.drew hJd (by rw [HM.out.2.2]; exact HN.out.1)
      have hc0 : wr.drew.cell? ⟨B, 0, none⟩ = some (.slice (some ⟨b, o, none⟩) len cap) := hcell
      have hc1 : wr.drew.cell? ⟨B + 1, 0, none⟩ = some (.int .i64 (sz : Int)) := hcell1
      gi_wp2
      refine hR.mono ?_
      rintro e W3 (⟨rfl, hJ3, hk3⟩ | ⟨rfl, hJx3⟩)
      · have hB3 : W3.heap[B]? = some (.cells #[.slice (some ⟨b, o, none⟩) len cap] 23 (0, 0)) := hk3.1.trans hb0
        have hB4 : W3.heap[B + 1]? = some (.cells #[.int .i64 (sz : Int)] 3 (0, 0)) := hk3.2.trans hb1
        have hd0 : W3.cell? ⟨B + 1, 0, none⟩ = some (.int .i64 (sz : Int)) := by simp [World.cell?, hB4]
        gi_wp2
        go_roundw
        case rel => exact ⟨k + 1, pre ++ [x], HN.out.1, HP.out, by rw [HN.out.2, HM.out.1]; simp, hJ3, hB3, hB4⟩
        case measure => simp [intOf]; omega
      · gi_wp2
        refine bodyPost_ret (results_none rfl _ _ _) rfl ?_
        exact ⟨⟨_, rfl⟩, .inr ⟨_, trivial, hJx3⟩⟩
    · have hkk : k = nparts len sz := by
        have := mt (nparts_lt (len := len) (k := k) h1).1 hlt
        omega
      obtain ⟨q, hq⟩ : ∃ q, k * sz = q := ⟨_, rfl⟩
      rw [hq] at hlt ⊢
      clear hq
      gi_wp2
      go_end0
      exact ⟨⟨_, rfl⟩, .inl ⟨pre, by rw [hpre, hkk], hJs⟩⟩

set_option maxRecDepth 100000 in
theorem chunk1_nil (n B cap sz : Nat) (A : Option Addr) (W : World) (J : World → Prop) (hB : W.heap[B]? = some (.cells #[.slice A 0 cap] 23 (0, 0))) (l : Nat) (h0 : J W) :
    CallsIn Fence.wide n Try.prog 75 #[.func (.yield l) #[] #[], .pointer (some ⟨B, 0, none⟩), .pointer (some ⟨B + 1, 0, none⟩)] W fun e W' => (∃ v, e = .returned v) ∧ J W' := by
  have hcell : W.cell? ⟨B, 0, none⟩ = some (.slice A 0 cap) := by simp [World.cell?, hB]
  refine callsIn_of_wp Try.func75 rfl trivial ?_ rfl
  simp only [Try.ntmps75, List.size_toArray, List.length_cons, List.length_nil, Nat.reduceAdd, Nat.reduceSub, Array.replicate_succ, Array.replicate_zero, List.push_toArray, List.append_toArray, List.nil_append, List.cons_append]
  gi_wp2
  gi_loopw [4] (fun i wr => i = .int .i64 0 ∧ J wr ∧ wr.cell? ⟨B, 0, none⟩ = some (.slice A 0 cap)) (fun _ _ => 0)
  case atStart => exact ⟨rfl, h0, hcell⟩
  case round =>
    obtain ⟨rfl, hJs, hc⟩ := hrel
    gi_wp2
    go_end0
    exact ⟨⟨_, rfl⟩, hJs⟩

/-- What slices.Chunk hands back, as an iterator: all parts, in order. -/
theorem chunk_stops (n : Nat) (hn : 1 ≤ n) (B b o len cap sz : Nat) (A : Option Addr) (h1 : 1 ≤ sz) (h2 : (sz : Int) ≤ 65536) (h3 : (len : Int) ≤ 65536) (hc : len ≤ cap) (hA : len = 0 ∨ A = some ⟨b, o, none⟩) (w : World)
    (hB : w.heap[B]? = some (.cells #[.slice A len cap] 23 (0, 0))) (hB1 : w.heap[B + 1]? = some (.cells #[.int .i64 (sz : Int)] 3 (0, 0))) :
    SeqStopsK Fence.wide n Try.prog 75 #[.pointer (some ⟨B, 0, none⟩), .pointer (some ⟨B + 1, 0, none⟩)] (fun x : Pt len sz => #[ptv b o len sz x]) (Kb B)
      (fun ys => ys.map Subtype.val = List.range (nparts len sz)) (fun _ => True) (nparts len sz) w := fun l J Jx W hW hJ _ hY h0 => by
  have e0 : W.heap[B]? = some (.cells #[.slice A len cap] 23 (0, 0)) := (hW.block B (Array.getElem?_eq_some_iff.1 hB).1).trans hB
  have e1 : W.heap[B + 1]? = some (.cells #[.int .i64 (sz : Int)] 3 (0, 0)) := (hW.block (B + 1) (Array.getElem?_eq_some_iff.1 hB1).1).trans hB1
  rcases hA with rfl | rfl
  · refine (chunk1_nil n B cap sz A W (J []) e0 l h0).mono fun e W' ⟨he, hj⟩ => ⟨he, .inl ⟨[], ?_, hj⟩⟩
    have : nparts 0 sz = 0 := by
      have := (nparts_lt (len := 0) (k := 0) h1).1
      omega
    rw [this]
    rfl
  · exact chunk1_in n hn l B b o len cap sz h1 h2 h3 hc J Jx hY W hJ e0 e1 h0
end Go.Proofs.Ytilfbnfejnjaeaa
