/- The walk of Clone of an image. -/
import Derived.Test.YtmkgppbnhkihjaaDoorImsame
import Derived.Laws.Rows
import Derived.Laws.Tables
namespace Go.Proofs.YtmkgppbnhkihjaaDoor
open Go.RowKit Go.Shelf

def aggSize : Value → Nat | .agg c => c.size | _ => 0
theorem zero63 : ((Tryd.prog.info? 63).bind (·.zero)).map aggSize = some 66561 := by kernel_rfl
theorem size63 : (Tryd.prog.info? 63).map (·.size) = some 66561 := by kernel_rfl
theorem zero_ex : ∃ z, (Tryd.prog.info? 63).bind (·.zero) = some (.agg z) ∧ z.size = 66561 := by
  have h := zero63
  cases hb : (Tryd.prog.info? 63).bind (·.zero) with
  | none => rw [hb] at h; cases h
  | some z =>
    rw [hb] at h
    have h1 : aggSize z = 66561 := Option.some.inj h
    cases z <;> first | exact ⟨_, rfl, h1⟩ | (simp [aggSize] at h1)
theorem wpList_alloc_zero {P : Program} {w : World} {ops : Array Oper} {rest : List Oper} {o : Oper} {a : Act} {Q : Exit → Act → World → Prop} (hgd : o.guard = none) (t : TypeId) (ho : o.op = .alloc t) (z : Value)
    (hz : (P.info? t).bind (·.zero) = some z) (h : wpList P ops Q rest (a.put o.dst (.pointer (some ⟨w.heap.size, 0, none⟩))) (w.alloc (.cells z.cells t))) : wpList P ops Q (o :: rest) a w := by
  refine wpList_plain hgd fun K hK => ?_
  cases hi : P.info? t with
  | none => rw [hi] at hz; cases hz
  | some i =>
    rw [hi] at hz
    have hz' : i.zero = some z := hz
    have hr : (zeroValue t).run P w = .ok z w := by simp [zeroValue, typeInfo, hi, hz']
    unfold Oper.wp execOp
    simp only [ho, Sem.run_bind]
    simp [Instr.alloc, newVar, newRow, hr]
    exact hK _ _ h
theorem img_one {cs : Array Value} {S : Nat → Bool} {n : Nat} {D : Nat → UInt8} (h : IsImg cs S n D) : cs.all (·.oneCell') = true := by
  rw [Array.all_eq_true]
  intro i hi
  have hs := h.size
  have key : ∀ v, cs[i]? = some v → v.oneCell' = true → cs[i].oneCell' = true := fun v h1 h2 => by
    rw [Array.getElem?_eq_getElem hi] at h1
    rw [Option.some.inj h1]; exact h2
  by_cases h1 : i < 1024
  · exact key _ (h.words i h1) rfl
  · by_cases h2 : i = 1024
    · subst h2; exact key _ h.count rfl
    · have := h.bytes (i - 1025) (by omega)
      rw [show 1025 + (i - 1025) = i from by omega] at this
      exact key _ this rfl
theorem below_setRow {w : World} {o : Obj} {cs : Array Value} : Below w.heap.size w ((w.alloc o).setRow w.heap.size cs) := by
  have h := (Below.refl w.heap.size w).alloc (Nat.le_refl _) o
  refine ⟨h.os, h.tape, h.output, ?_, fun i hi => ?_⟩
  · have := h.size
    simp [World.setRow]
  · rw [← h.block i hi]
    simp only [World.setRow, Array.getElem?_modify]
    rw [if_neg (by omega)]

theorem imclone_any (g n : Nat) (S : Nat → Bool) (D : Nat → UInt8) (w : World) (hI : Img w g S n D) :
    Calls Tryd.prog 24 #[.pointer (some ⟨g, 0, none⟩)] w fun e w' => ∃ N, e = .returned (.pointer (some ⟨N, 0, none⟩)) ∧ w.heap.size ≤ N ∧ Img w' N S n D ∧ Below w.heap.size w w' := by
  obtain ⟨cs, hg, hi⟩ := hI
  obtain ⟨z, hz, hzs⟩ := zero_ex
  have hs := hi.size
  have H1 : Hid ((Tryd.prog.info? 63).map (·.size) = some cs.size) := by rw [Hid, hs]; exact size63
  have H2 : Hid (z.size = cs.size) := by rw [Hid, hzs, hs]
  have HI := Lib.hid hi
  have HG := Lib.hid hg
  have HZ := Lib.hid hz
  clear hi hg hz hs hzs
  go_enter Tryd.func24, Tryd.ntmps24
  go_wp2_with (first
    | (refine wpList_load_row rfl 63 _ rfl g rfl 63 cs (0, 0) _ HG.out Tryd.underlying63 rfl H1.out ?_)
    | (refine wpList_alloc_zero rfl 63 rfl (.agg z) HZ.out ?_)
    | (refine wpList_store_row rfl 63 _ _ rfl w.heap.size cs rfl rfl 63 z (heap_alloc_new w _) H1.out H2.out (img_one HI.out) ?_))
  go_ret
  exact ⟨w.heap.size, rfl, Nat.le_refl _, ⟨cs, setRow_heap _ _ _ _ _ _ (heap_alloc_new w _), HI.out⟩, below_setRow⟩
theorem imclone_nil (w : World) : Calls Tryd.prog 24 #[.pointer none] w fun e w' => ∃ N, e = .returned (.pointer (some ⟨N, 0, none⟩)) ∧ w.heap.size ≤ N ∧ Img w' N aS0 0 aD0 ∧ Below w.heap.size w w' := by
  have C := Lib.hid (new_any w)
  go_enter Tryd.func24, Tryd.ntmps24
  go_wp2_with (go_at_call 11; refine C.out.mono ?_; rintro e w1 ⟨rfl, hI, hb⟩; have HI1 : Hid (Img w1 w.heap.size aS0 0 aD0) := hI; have HB1 := Lib.hid hb; clear hI hb)
  go_ret
  exact ⟨_, rfl, Nat.le_refl _, HI1.out, HB1.out⟩
end Go.Proofs.YtmkgppbnhkihjaaDoor
