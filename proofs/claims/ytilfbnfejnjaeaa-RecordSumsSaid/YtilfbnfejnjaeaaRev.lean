/- slices.Reverse at bytes: the contract of the shelf, laid at this program. -/
import Derived.Test.YtilfbnfejnjaeaaSmall
import Derived.Shelf.SlicesE.Reverse
import Derived.Ground.SlgnProg
namespace Go.Proofs.Ytilfbnfejnjaeaa
open Go.RowKit Go.Shelf Go.Sort

def rev_ren : Go.Shelf.Ren := ⟨fun | 35 => 19 | n => n, fun | 22 => 23 | 23 => 5 | 3 => 3 | 4 => 4 | 0 => 0 | n => n, fun | n => n⟩
theorem rev_lays : SlLaysE.n35 Try.prog rev_ren := {
  mixed := by kernel_rfl
  f35 := ⟨Try.f19.name, by decide, Try.func19.trans (congrArg some (by kernel_rfl))⟩
  t0 := Try.underlying0
  a0 := Try.isAgg0
  z0 := Try.sizeOf0
  v0 := Try.zeroValue0
  t3 := Try.underlying3
  a3 := Try.isAgg3
  z3 := Try.sizeOf3
  v3 := Try.zeroValue3
  t4 := Try.underlying4
  a4 := Try.isAgg4
  z4 := Try.sizeOf4
  v4 := Try.zeroValue4
  t22 := Try.underlying23
  a22 := Try.isAgg23
  z22 := Try.sizeOf23
  v22 := Try.zeroValue23
  a23 := Try.isAgg5
  z23 := Try.sizeOf5 }

def encB (c : UInt8) : Value := .int .u8 (c.toNat : Int)
theorem rev_any (base : Nat) (v : Value) (l : List UInt8) (w : World) (hm : l.length ≤ 140737488355328) (ho : w.ownsRow base 5 1 v l.length (bs l)) :
    ∃ A c, v = .slice A l.length c ∧ Calls Try.prog 19 #[v] w fun e w' => e = .returned (.tuple #[]) ∧ Below base w w' ∧ Rd w' (fun _ => True) A (bs l.reverse) := by
  rcases ho.2 with ⟨hv, hn0⟩ | ⟨g, cap, cur, hv, hbg, hg, hcap, hmax, hsz, htake⟩
  · obtain rfl := List.eq_nil_of_length_eq_zero hn0
    subst hv
    refine ⟨none, 0, rfl, (AnyE.slices_Reverse_empty rev_lays none 0 w).mono ?_⟩
    rintro e w' ⟨rfl, rfl⟩
    exact ⟨rfl, Below.refl _ _, Rd.nil _ _ _⟩
  · subst hv
    have hH : Holds encB w g 0 l.toArray := fun j hj => by
      have hj' : j < l.length := by simpa using hj
      have hu : (bs l)[j]? = some (.int .u8 (l[j].toNat : Int)) := by rw [List.getElem?_eq_getElem (by rw [bs_length]; exact hj'), bs_get]
      refine ⟨?_, by simp [World.frozen?, hg]⟩
      rw [← htake, List.getElem?_take] at hu
      split at hu
      · rw [World.cell?]
        rw [getElem!_pos l.toArray j hj]
        simpa [hg, encB] using hu
      · cases hu
    refine ⟨some ⟨g, 0, none⟩, cap, rfl, (AnyE.slices_Reverse rev_lays encB (fun _ => rfl) g 0 cap l w hH (by omega)).mono ?_⟩
    rintro e w' ⟨rfl, m, rfl⟩
    have hH' := holds_putRow encB (Sort.ahead w m) g 0 l.toArray l.reverse.toArray (holds_ahead _ _ _ _ _ _ hH) (by simp)
    refine ⟨rfl, ⟨rfl, rfl, rfl, by simp [putRow, mapBlock, Sort.ahead], fun i hi => ?_⟩, fun _ => ⟨_, rfl, trivial, fun j u hu => ?_⟩⟩
    · simp only [putRow, mapBlock, Sort.ahead, Array.getElem?_modify]
      rw [if_neg (by omega)]
    · obtain ⟨hj, hu2⟩ := List.getElem?_eq_some_iff.1 hu
      rw [bs_get] at hu2
      rw [bs_length] at hj
      have := (hH' j (by simpa using hj)).1
      rw [Addr.add_lit, this, ← hu2, getElem!_pos _ j (by simpa using hj)]
      rfl
end Go.Proofs.Ytilfbnfejnjaeaa
