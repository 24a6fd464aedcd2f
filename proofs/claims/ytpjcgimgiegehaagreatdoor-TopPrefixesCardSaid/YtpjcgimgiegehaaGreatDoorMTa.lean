/- The tables that the row of TopPrefixes lists: what the condition gives the walks, and a world for the witness. -/
import Derived.Test.YtpjcgimgiegehaaGreatDoorMK4
import Derived.Test.YtpjcgimgiegehaaGreatDoorCards
import Derived.Test.YtpjcgimgiegehaaGreatDoorTie
import Derived.WalkKit
import Derived.ProofKit
import Derived.OpenShut
import Derived.Deep.DeepHandedRow
import Derived.Lib.LaidTab
import Derived.LaidSub
import Derived.SizedLaws
import Derived.ChangeMaps5
namespace Go.Proofs.YtpjcgimgiegehaaGreatDoor
open Go.ChangeShapes Go.WideShapes Go.ChangeAt Go.RowKit Go.ChangeMaps

theorem own : ownKnob Tryz.prog.godebug = none := by kernel_rfl
theorem laidOut : laidOutB Tryz.prog = true := by kernel_rfl
def ascL : List Int := [0, 0, 0, 0, 0, 0, 0, 0, 0, 1, 1, 1, 1, 1, 0, 0, 0, 0, 0, 0, 0, 0, 0, 0, 0, 0, 0, 0, 0, 0, 0, 0, 1] ++ List.replicate 223 0
def dbL : List Int := Lib.deBruijn64tab.map fun (n : Nat) => (n : Int)
theorem asc_tab {W : World} (h : laidMet Tryz.prog Rows.topPrefixesRow.laid W) : Lib.TabIs Tryz.prog W "strings.asciiSpace" .u8 ascL := by
  have h2 := laidMet.filter (fun x => x.1 == "strings.asciiSpace") h
  rw [show (Rows.topPrefixesRow.laid.filter fun x => x.1 == "strings.asciiSpace") = [("strings.asciiSpace", Lib.tabData .u8 ascL)] by kernel_rfl] at h2
  exact Lib.tabIs_of_head (g := 0) (t := 144) (by kernel_rfl) (by kernel_rfl) Tryz.underlying144 Tryz.underlying5 (by kernel_rfl) (by kernel_rfl) h2
theorem db_tab {W : World} (h : laidMet Tryz.prog Rows.topPrefixesRow.laid W) : Lib.TabIs Tryz.prog W "math/bits.deBruijn64tab" .u8 dbL := by
  have h2 := laidMet.filter (fun x => x.1 == "math/bits.deBruijn64tab") h
  rw [show (Rows.topPrefixesRow.laid.filter fun x => x.1 == "math/bits.deBruijn64tab") = [("math/bits.deBruijn64tab", Lib.tabData .u8 dbL)] by kernel_rfl] at h2
  exact Lib.tabIs_of_head (g := 3) (t := 391) (by kernel_rfl) (by kernel_rfl) Tryz.underlying391 Tryz.underlying5 (by kernel_rfl) (by kernel_rfl) h2
theorem tab_get {zs : List Int} {l : List Value} (e : l = zs.map fun z => Value.int .u8 z) {j : Nat} {v : Value} (h : l[j]? = some v) : j < zs.length ∧ v = .int .u8 (zs.getD j 0) := by
  subst e
  rw [List.getElem?_map] at h
  obtain ⟨z, hz, rfl⟩ := Option.map_eq_some_iff.1 h
  have hj := (List.getElem?_eq_some_iff.1 hz).1
  exact ⟨hj, by rw [List.getD_eq_getElem?_getD, hz]; rfl⟩
theorem glT_of {W : World} (h : laidMet Tryz.prog Rows.topPrefixesRow.laid W) : Ex.GlT W := fun g l hg j v hj => by
  unfold Ex.glT at hg
  by_cases h0 : 0 = g
  · subst h0
    rw [Ex.aget_cons_same] at hg
    obtain rfl := Option.some.inj hg
    obtain ⟨h1, rfl⟩ := tab_get (zs := ascL) (by kernel_rfl) hj
    exact (asc_tab h).cell (by kernel_rfl) j h1
  · rw [Ex.aget_cons_other _ _ h0] at hg
    by_cases h3 : 3 = g
    · subst h3
      rw [Ex.aget_cons_same] at hg
      obtain rfl := Option.some.inj hg
      obtain ⟨h1, rfl⟩ := tab_get (zs := dbL) (by kernel_rfl) hj
      exact (db_tab h).cell (by kernel_rfl) j h1
    · rw [Ex.aget_cons_other _ _ h3] at hg
      cases hg
theorem met_of {W : World} (h : laidMetH Tryz.prog Rows.topPrefixesRow.laid W) : laidMet Tryz.prog Rows.topPrefixesRow.laid W := h

def laidIn (cs : List Value) : Obj → Obj
  | .cells _ t frozen => .cells cs.toArray t frozen
  | o => o
/-- The cells of a datum of integers. -/
def cellsD : Nat → DataW Unit → List Value
  | _, .lit (.int k n) => [.int k n]
  | f + 1, .agg ds => ds.flatMap (cellsD f)
  | _, _ => []
def r16s : List Value := [9, 13, 1, 32, 133, 101, 160, 5760, 5600, 8192, 8202, 1, 8232, 8233, 1, 8239, 8287, 48, 12288, 12288, 1].map fun (n : Nat) => Value.int .u16 n
noncomputable def hold (os : Os) : World := World.holding Tryz.prog os ⟨#[], #[], []⟩
noncomputable def laidWorld (os : Os) : World :=
  { hold os with heap := ((((((((((hold os).heap.modify 0 (laidIn (cellsD 3 Rows.laid_strings_asciiSpace))).modify 3 (laidIn (cellsD 3 Rows.laid_math_bits_deBruijn64tab))).modify 7 (laidIn (cellsD 3 Rows.laid_math_bits_deBruijn32tab))).modify 6 (laidIn (cellsD 3 Rows.laid_internal_strconv_uint64pow10))).modify 4 (laidIn (cellsD 3 Rows.laid_unicode_utf8_first))).modify 5 (laidIn (cellsD 3 Rows.laid_unicode_utf8_acceptRanges))).modify 1 (laidIn [.pointer (some ⟨(hold os).heap.size + 1, 0, none⟩)])).push (.cells r16s.toArray 259 (0, 0))).push (.cells #[.slice (some ⟨(hold os).heap.size, 0, none⟩) 7 7, .slice none 0 0, .int .i64 2] 256 (0, 0))) }
def wargs : Array Value := #[.agg #[.int .u8 0, .int .u8 0], .agg #[.int .u8 0, .int .u8 0], .agg #[.int .i64 0, .int .i64 0, .int .i64 0, .int .i64 0]]
/-- The places of the tables, by blocks. -/
def plc : List (Nat × Nat) := [(7, 32), (3, 64), (6, 20), (5, 32), (1, 1), (15, 3), (14, 21), (0, 256), (4, 256)]
def plcs : List MemPlace := plc.flatMap fun x => MemPlace.row ⟨x.1, 0, none⟩ x.2
theorem mem_row {b n : Nat} {p : MemPlace} (h : p ∈ MemPlace.row ⟨b, 0, none⟩ n) : ∃ i, p = .cell b i := by
  unfold MemPlace.row at h
  obtain ⟨i, _, rfl⟩ := List.mem_map.1 h
  exact ⟨_, rfl⟩
theorem nodup_rows : ∀ {l : List (Nat × Nat)}, (l.map (·.1)).Nodup → (l.flatMap fun x => MemPlace.row ⟨x.1, 0, none⟩ x.2).Nodup
  | [], _ => List.nodup_nil
  | x :: l, h => by
    rw [List.map_cons, List.nodup_cons] at h
    rw [List.flatMap_cons, List.nodup_append]
    refine ⟨?_, nodup_rows h.2, fun a ha b hb e => ?_⟩
    · unfold MemPlace.row
      refine List.Pairwise.map _ (fun a b hab e => hab ?_) List.nodup_range
      injection e with _ e2
      simpa using e2
    · subst e
      obtain ⟨i, rfl⟩ := mem_row ha
      obtain ⟨y, hy, hb⟩ := List.mem_flatMap.1 hb
      obtain ⟨k, e⟩ := mem_row hb
      injection e with e1 _
      exact h.1 (List.mem_map.2 ⟨y, hy, e1.symm⟩)
noncomputable def wmem (os : Os) : World := ((laidWorld os).forCall (fun _ _ => 0) ⟨#[], wargs, []⟩).memory
theorem run_eq (os : Os) : DataW.laidRun Tryz.prog (wmem os) 8 (Rows.topPrefixesRow.laid.map (·.1)) = some (Rows.topPrefixesRow.laid, plcs) := by kernel_rfl
theorem rows_ok (os : Os) : laidRowsB Tryz.prog (wmem os) plcs = true := by kernel_rfl
theorem laid_met (os : Os) : laidMet Tryz.prog Rows.topPrefixesRow.laid ((laidWorld os).forCall (fun _ _ => 0) ⟨#[], wargs, []⟩).memory :=
  laidMet_of_run 8 (run_eq os) (decide_eq_true (nodup_rows (by decide))) (rows_ok os)
end Go.Proofs.YtpjcgimgiegehaaGreatDoor
