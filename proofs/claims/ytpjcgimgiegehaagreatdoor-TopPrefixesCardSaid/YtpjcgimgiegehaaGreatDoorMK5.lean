/- Parts of the proof of TopPrefixes, in one text: ExB8, TpPl. -/
import Derived.Test.YtpjcgimgiegehaaGreatDoorMK4
import Derived.Test.YtpjcgimgiegehaaGreatDoorMBa
import Derived.Test.YtpjcgimgiegehaaGreatDoorMBb
import Derived.Test.YtpjcgimgiegehaaGreatDoorMBc
import Derived.Test.YtpjcgimgiegehaaGreatDoorMBd
/- encode.Bytes by shapes of entries: each entry of the table has one of them. -/
namespace Go.Proofs.YtpjcgimgiegehaaGreatDoor.Ex
open Go.RowKit

/-- A shape: the mnemonic, the kinds of the operands, and what follows. -/
abbrev Shp := List Nat × List Nat × List Nat
def ShAll (p : Nat) : List Shp → Prop
  | [] => True
  | s :: l => ShOk p s.1 s.2.1 s.2.2 ∧ ShAll p l
def shEq (a b : Shp) : Bool := cond (eqL a.1 b.1) (cond (eqL a.2.1 b.2.1) (eqL a.2.2 b.2.2) false) false
def shIn (s : Shp) : List Shp → Bool
  | [] => false
  | x :: l => cond (shEq s x) true (shIn s l)
theorem shIn_ok {p : Nat} {s : Shp} : ∀ {l : List Shp}, ShAll p l → shIn s l = true → ShOk p s.1 s.2.1 s.2.2
  | [], _, h => by cases h
  | x :: l, ha, h => by
    unfold shIn at h
    cases hq : shEq s x with
    | false => rw [hq] at h; exact shIn_ok ha.2 h
    | true =>
      obtain ⟨s1, s2, s3⟩ := s
      obtain ⟨x1, x2, x3⟩ := x
      unfold shEq at hq
      cases h1 : eqL s1 x1 with
      | false => rw [h1] at hq; cases hq
      | true =>
      cases h2 : eqL s2 x2 with
      | false => rw [h1, h2] at hq; cases hq
      | true =>
      rw [h1, h2] at hq
      obtain rfl := eqL_eq h1
      obtain rfl := eqL_eq h2
      obtain rfl := eqL_eq (show eqL s3 x3 = true from hq)
      exact ha.1
def shs0 : List Shp := [([78, 79, 80], [], []), ([76, 68], [3, 6], [119]), ([76, 68], [4, 1], []), ([73, 78, 67], [3], []), ([73, 78, 67], [1], []), ([68, 69, 67], [1], []), ([76, 68], [1, 6], [110]), ([82, 76, 67, 65], [], []), ([69, 88], [3, 3], []), ([65, 68, 68], [3, 3], []), ([76, 68], [1, 4], []), ([68, 69, 67], [3], []), ([82, 82, 67, 65], [], []), ([68, 74, 78, 90], [10], [101]), ([82, 76, 65], [], []), ([74, 82], [10], [101]), ([82, 82, 65], [], []), ([74, 82], [8, 10], [101]), ([76, 68], [7, 3], [119]), ([68, 65, 65], [], []), ([76, 68], [3, 7], [119]), ([67, 80, 76], [], []), ([76, 68], [7, 1], [119]), ([73, 78, 67], [4], []), ([68, 69, 67], [4], []), ([76, 68], [4, 6], [110]), ([83, 67, 70], [], []), ([76, 68], [1, 7], [119]), ([67, 67, 70], [], []), ([76, 68], [1, 1], []), ([72, 65, 76, 84], [], []), ([65, 68, 68], [1, 1], []), ([65, 68, 68], [1, 4], []), ([65, 68, 67], [1, 1], []), ([65, 68, 67], [1, 4], []), ([83, 85, 66], [1], []), ([83, 85, 66], [4], []), ([83, 66, 67], [1, 1], []), ([83, 66, 67], [1, 4], []), ([65, 78, 68], [1], []), ([65, 78, 68], [4], []), ([88, 79, 82], [1], []), ([88, 79, 82], [4], []), ([79, 82], [1], []), ([79, 82], [4], []), ([67, 80], [1], []), ([67, 80], [4], []), ([82, 69, 84], [8], []), ([80, 79, 80], [3], []), ([74, 80], [8, 6], [119]), ([74, 80], [6], [119]), ([67, 65, 76, 76], [8, 6], [119]), ([80, 85, 83, 72], [3], []), ([65, 68, 68], [1, 6], [110]), ([82, 83, 84], [6], []), ([82, 69, 84], [], []), ([67, 65, 76, 76], [6], [119]), ([65, 68, 67], [1, 6], [110]), ([79, 85, 84], [7, 1], [110]), ([83, 85, 66], [6], [110]), ([69, 88, 88], [], []), ([73, 78], [1, 7], [110]), ([83, 66, 67], [1, 6], [110]), ([69, 88], [4, 3], []), ([65, 78, 68], [6], [110]), ([74, 80], [4], []), ([88, 79, 82], [6], [110]), ([68, 73], [], []), ([79, 82], [6], [110]), ([76, 68], [3, 3], []), ([69, 73], [], []), ([67, 80], [6], [110])]
theorem shs0_ok : ShAll 0 shs0 := And.intro sh0_0 (And.intro sh0_1 (And.intro sh0_2 (And.intro sh0_3 (And.intro sh0_4 (And.intro sh0_5 (And.intro sh0_6 (And.intro sh0_7 (And.intro sh0_8 (And.intro sh0_9 (And.intro sh0_10 (And.intro sh0_11 (And.intro sh0_12 (And.intro sh0_13 (And.intro sh0_14 (And.intro sh0_15 (And.intro sh0_16 (And.intro sh0_17 (And.intro sh0_18 (And.intro sh0_19 (And.intro sh0_20 (And.intro sh0_21 (And.intro sh0_22 (And.intro sh0_23 (And.intro sh0_24 (And.intro sh0_25 (And.intro sh0_26 (And.intro sh0_27 (And.intro sh0_28 (And.intro sh0_29 (And.intro sh0_30 (And.intro sh0_31 (And.intro sh0_32 (And.intro sh0_33 (And.intro sh0_34 (And.intro sh0_35 (And.intro sh0_36 (And.intro sh0_37 (And.intro sh0_38 (And.intro sh0_39 (And.intro sh0_40 (And.intro sh0_41 (And.intro sh0_42 (And.intro sh0_43 (And.intro sh0_44 (And.intro sh0_45 (And.intro sh0_46 (And.intro sh0_47 (And.intro sh0_48 (And.intro sh0_49 (And.intro sh0_50 (And.intro sh0_51 (And.intro sh0_52 (And.intro sh0_53 (And.intro sh0_54 (And.intro sh0_55 (And.intro sh0_56 (And.intro sh0_57 (And.intro sh0_58 (And.intro sh0_59 (And.intro sh0_60 (And.intro sh0_61 (And.intro sh0_62 (And.intro sh0_63 (And.intro sh0_64 (And.intro sh0_65 (And.intro sh0_66 (And.intro sh0_67 (And.intro sh0_68 (And.intro sh0_69 (And.intro sh0_70 (And.intro sh0_71 (trivial))))))))))))))))))))))))))))))))))))))))))))))))))))))))))))))))))))))))
def shs1 : List Shp := [([82, 76, 67], [1], []), ([82, 76, 67], [4], []), ([82, 82, 67], [1], []), ([82, 82, 67], [4], []), ([82, 76], [1], []), ([82, 76], [4], []), ([82, 82], [1], []), ([82, 82], [4], []), ([83, 76, 65], [1], []), ([83, 76, 65], [4], []), ([83, 82, 65], [1], []), ([83, 82, 65], [4], []), ([83, 76, 76], [1], []), ([83, 76, 76], [4], []), ([83, 82, 76], [1], []), ([83, 82, 76], [4], []), ([66, 73, 84], [6, 1], []), ([66, 73, 84], [6, 4], []), ([82, 69, 83], [6, 1], []), ([82, 69, 83], [6, 4], []), ([83, 69, 84], [6, 1], []), ([83, 69, 84], [6, 4], [])]
theorem shs1_ok : ShAll 1 shs1 := And.intro sh1_0 (And.intro sh1_1 (And.intro sh1_2 (And.intro sh1_3 (And.intro sh1_4 (And.intro sh1_5 (And.intro sh1_6 (And.intro sh1_7 (And.intro sh1_8 (And.intro sh1_9 (And.intro sh1_10 (And.intro sh1_11 (And.intro sh1_12 (And.intro sh1_13 (And.intro sh1_14 (And.intro sh1_15 (And.intro sh1_16 (And.intro sh1_17 (And.intro sh1_18 (And.intro sh1_19 (And.intro sh1_20 (And.intro sh1_21 (trivial))))))))))))))))))))))
def shs2 : List Shp := [([73, 78], [1, 4], []), ([79, 85, 84], [4, 1], []), ([83, 66, 67], [3, 3], []), ([76, 68], [7, 3], [119]), ([78, 69, 71], [], []), ([82, 69, 84, 78], [], []), ([73, 77], [6], []), ([76, 68], [9, 1], []), ([65, 68, 67], [3, 3], []), ([76, 68], [3, 7], [119]), ([82, 69, 84, 73], [], []), ([76, 68], [1, 9], []), ([82, 82, 68], [], []), ([82, 76, 68], [], []), ([73, 78], [4], []), ([79, 85, 84], [4, 6], []), ([76, 68, 73], [], []), ([67, 80, 73], [], []), ([73, 78, 73], [], []), ([79, 85, 84, 73], [], []), ([76, 68, 68], [], []), ([67, 80, 68], [], []), ([73, 78, 68], [], []), ([79, 85, 84, 68], [], []), ([76, 68, 73, 82], [], []), ([67, 80, 73, 82], [], []), ([73, 78, 73, 82], [], []), ([79, 84, 73, 82], [], []), ([76, 68, 68, 82], [], []), ([67, 80, 68, 82], [], []), ([73, 78, 68, 82], [], []), ([79, 84, 68, 82], [], [])]
theorem shs2_ok : ShAll 2 shs2 := And.intro sh2_0 (And.intro sh2_1 (And.intro sh2_2 (And.intro sh2_3 (And.intro sh2_4 (And.intro sh2_5 (And.intro sh2_6 (And.intro sh2_7 (And.intro sh2_8 (And.intro sh2_9 (And.intro sh2_10 (And.intro sh2_11 (And.intro sh2_12 (And.intro sh2_13 (And.intro sh2_14 (And.intro sh2_15 (And.intro sh2_16 (And.intro sh2_17 (And.intro sh2_18 (And.intro sh2_19 (And.intro sh2_20 (And.intro sh2_21 (And.intro sh2_22 (And.intro sh2_23 (And.intro sh2_24 (And.intro sh2_25 (And.intro sh2_26 (And.intro sh2_27 (And.intro sh2_28 (And.intro sh2_29 (And.intro sh2_30 (And.intro sh2_31 (trivial))))))))))))))))))))))))))))))))
def shs3 : List Shp := [([65, 68, 68], [3, 3], []), ([76, 68], [3, 6], [119]), ([76, 68], [7, 3], [119]), ([73, 78, 67], [3], []), ([73, 78, 67], [2], []), ([68, 69, 67], [2], []), ([76, 68], [2, 6], [110]), ([76, 68], [3, 7], [119]), ([68, 69, 67], [3], []), ([73, 78, 67], [5], [100]), ([68, 69, 67], [5], [100]), ([76, 68], [5, 6], [100, 110]), ([76, 68], [1, 2], []), ([76, 68], [1, 5], [100]), ([76, 68], [2, 1], []), ([76, 68], [2, 2], []), ([76, 68], [5, 1], [100]), ([65, 68, 68], [1, 2], []), ([65, 68, 68], [1, 5], [100]), ([65, 68, 67], [1, 2], []), ([65, 68, 67], [1, 5], [100]), ([83, 85, 66], [2], []), ([83, 85, 66], [5], [100]), ([83, 66, 67], [1, 2], []), ([83, 66, 67], [1, 5], [100]), ([65, 78, 68], [2], []), ([65, 78, 68], [5], [100]), ([88, 79, 82], [2], []), ([88, 79, 82], [5], [100]), ([79, 82], [2], []), ([79, 82], [5], [100]), ([67, 80], [2], []), ([67, 80], [5], [100]), ([80, 79, 80], [3], []), ([69, 88], [4, 3], []), ([80, 85, 83, 72], [3], []), ([74, 80], [4], []), ([76, 68], [3, 3], [])]
theorem shs3_ok : ShAll 3 shs3 := And.intro sh3_0 (And.intro sh3_1 (And.intro sh3_2 (And.intro sh3_3 (And.intro sh3_4 (And.intro sh3_5 (And.intro sh3_6 (And.intro sh3_7 (And.intro sh3_8 (And.intro sh3_9 (And.intro sh3_10 (And.intro sh3_11 (And.intro sh3_12 (And.intro sh3_13 (And.intro sh3_14 (And.intro sh3_15 (And.intro sh3_16 (And.intro sh3_17 (And.intro sh3_18 (And.intro sh3_19 (And.intro sh3_20 (And.intro sh3_21 (And.intro sh3_22 (And.intro sh3_23 (And.intro sh3_24 (And.intro sh3_25 (And.intro sh3_26 (And.intro sh3_27 (And.intro sh3_28 (And.intro sh3_29 (And.intro sh3_30 (And.intro sh3_31 (And.intro sh3_32 (And.intro sh3_33 (And.intro sh3_34 (And.intro sh3_35 (And.intro sh3_36 (And.intro sh3_37 (trivial))))))))))))))))))))))))))))))))))))))
def shs4 : List Shp := [([65, 68, 68], [3, 3], []), ([76, 68], [3, 6], [119]), ([76, 68], [7, 3], [119]), ([73, 78, 67], [3], []), ([73, 78, 67], [2], []), ([68, 69, 67], [2], []), ([76, 68], [2, 6], [110]), ([76, 68], [3, 7], [119]), ([68, 69, 67], [3], []), ([73, 78, 67], [5], [100]), ([68, 69, 67], [5], [100]), ([76, 68], [5, 6], [100, 110]), ([76, 68], [1, 2], []), ([76, 68], [1, 5], [100]), ([76, 68], [2, 1], []), ([76, 68], [2, 2], []), ([76, 68], [5, 1], [100]), ([65, 68, 68], [1, 2], []), ([65, 68, 68], [1, 5], [100]), ([65, 68, 67], [1, 2], []), ([65, 68, 67], [1, 5], [100]), ([83, 85, 66], [2], []), ([83, 85, 66], [5], [100]), ([83, 66, 67], [1, 2], []), ([83, 66, 67], [1, 5], [100]), ([65, 78, 68], [2], []), ([65, 78, 68], [5], [100]), ([88, 79, 82], [2], []), ([88, 79, 82], [5], [100]), ([79, 82], [2], []), ([79, 82], [5], [100]), ([67, 80], [2], []), ([67, 80], [5], [100]), ([80, 79, 80], [3], []), ([69, 88], [4, 3], []), ([80, 85, 83, 72], [3], []), ([74, 80], [4], []), ([76, 68], [3, 3], [])]
theorem shs4_ok : ShAll 4 shs4 := And.intro sh4_0 (And.intro sh4_1 (And.intro sh4_2 (And.intro sh4_3 (And.intro sh4_4 (And.intro sh4_5 (And.intro sh4_6 (And.intro sh4_7 (And.intro sh4_8 (And.intro sh4_9 (And.intro sh4_10 (And.intro sh4_11 (And.intro sh4_12 (And.intro sh4_13 (And.intro sh4_14 (And.intro sh4_15 (And.intro sh4_16 (And.intro sh4_17 (And.intro sh4_18 (And.intro sh4_19 (And.intro sh4_20 (And.intro sh4_21 (And.intro sh4_22 (And.intro sh4_23 (And.intro sh4_24 (And.intro sh4_25 (And.intro sh4_26 (And.intro sh4_27 (And.intro sh4_28 (And.intro sh4_29 (And.intro sh4_30 (And.intro sh4_31 (And.intro sh4_32 (And.intro sh4_33 (And.intro sh4_34 (And.intro sh4_35 (And.intro sh4_36 (And.intro sh4_37 (trivial))))))))))))))))))))))))))))))))))))))
def shs5 : List Shp := [([82, 76, 67], [5, 1], [100]), ([82, 76, 67], [5], [100]), ([82, 82, 67], [5, 1], [100]), ([82, 82, 67], [5], [100]), ([82, 76], [5, 1], [100]), ([82, 76], [5], [100]), ([82, 82], [5, 1], [100]), ([82, 82], [5], [100]), ([83, 76, 65], [5, 1], [100]), ([83, 76, 65], [5], [100]), ([83, 82, 65], [5, 1], [100]), ([83, 82, 65], [5], [100]), ([83, 76, 76], [5, 1], [100]), ([83, 76, 76], [5], [100]), ([83, 82, 76], [5, 1], [100]), ([83, 82, 76], [5], [100]), ([66, 73, 84], [6, 5], [100]), ([82, 69, 83], [6, 5, 1], [100]), ([82, 69, 83], [6, 5], [100]), ([83, 69, 84], [6, 5, 1], [100]), ([83, 69, 84], [6, 5], [100])]
theorem shs5_ok : ShAll 5 shs5 := And.intro sh5_0 (And.intro sh5_1 (And.intro sh5_2 (And.intro sh5_3 (And.intro sh5_4 (And.intro sh5_5 (And.intro sh5_6 (And.intro sh5_7 (And.intro sh5_8 (And.intro sh5_9 (And.intro sh5_10 (And.intro sh5_11 (And.intro sh5_12 (And.intro sh5_13 (And.intro sh5_14 (And.intro sh5_15 (And.intro sh5_16 (And.intro sh5_17 (And.intro sh5_18 (And.intro sh5_19 (And.intro sh5_20 (trivial)))))))))))))))))))))
def shs6 : List Shp := [([82, 76, 67], [5, 1], [100]), ([82, 76, 67], [5], [100]), ([82, 82, 67], [5, 1], [100]), ([82, 82, 67], [5], [100]), ([82, 76], [5, 1], [100]), ([82, 76], [5], [100]), ([82, 82], [5, 1], [100]), ([82, 82], [5], [100]), ([83, 76, 65], [5, 1], [100]), ([83, 76, 65], [5], [100]), ([83, 82, 65], [5, 1], [100]), ([83, 82, 65], [5], [100]), ([83, 76, 76], [5, 1], [100]), ([83, 76, 76], [5], [100]), ([83, 82, 76], [5, 1], [100]), ([83, 82, 76], [5], [100]), ([66, 73, 84], [6, 5], [100]), ([82, 69, 83], [6, 5, 1], [100]), ([82, 69, 83], [6, 5], [100]), ([83, 69, 84], [6, 5, 1], [100]), ([83, 69, 84], [6, 5], [100])]
theorem shs6_ok : ShAll 6 shs6 := And.intro sh6_0 (And.intro sh6_1 (And.intro sh6_2 (And.intro sh6_3 (And.intro sh6_4 (And.intro sh6_5 (And.intro sh6_6 (And.intro sh6_7 (And.intro sh6_8 (And.intro sh6_9 (And.intro sh6_10 (And.intro sh6_11 (And.intro sh6_12 (And.intro sh6_13 (And.intro sh6_14 (And.intro sh6_15 (And.intro sh6_16 (And.intro sh6_17 (And.intro sh6_18 (And.intro sh6_19 (And.intro sh6_20 (trivial)))))))))))))))))))))
def shss : List (List Shp) := [shs0, shs1, shs2, shs3, shs4, shs5, shs6]
/-- The kinds of the operands. -/
def kindsD : List Nat → List Nat
  | k :: _ :: _ :: l => k :: kindsD l
  | _ => []
def chkD (p : Nat) (d : OpD) : Bool := match d.1 with
  | 1 => match nthL shss p with
    | some l => shIn (d.2.1, kindsD d.2.2.2.2, d.2.2.1) l
    | none => false
  | _ => true
theorem chkD_all : allT (fun p _ d => chkD p d) 0 ods = true := by kernel_rfl
theorem shss_ok {p : Nat} {l : List Shp} (h : nthL shss p = some l) : ShAll p l := by
  match p, h with
  | 0, h => exact (Option.some.inj h) ▸ shs0_ok
  | 1, h => exact (Option.some.inj h) ▸ shs1_ok
  | 2, h => exact (Option.some.inj h) ▸ shs2_ok
  | 3, h => exact (Option.some.inj h) ▸ shs3_ok
  | 4, h => exact (Option.some.inj h) ▸ shs4_ok
  | 5, h => exact (Option.some.inj h) ▸ shs5_ok
  | 6, h => exact (Option.some.inj h) ▸ shs6_ok
  | p + 7, h => cases h
theorem shape_ok {p o : Nat} {d : OpD} (hd : opD p o = some d) (hk : d.1 = 1) : ShOk p d.2.1 (kindsD d.2.2.2.2) d.2.2.1 := by
  have h := allT_opD chkD_all hd
  obtain ⟨k, nm, ex, al, cs⟩ := d
  obtain rfl : k = 1 := hk
  simp only [chkD] at h
  split at h
  case h_2 => cases h
  case h_1 l hl =>
    have ha : ShAll p l := shss_ok hl
    have hs : ShOk p ((nm, kindsD cs, ex) : Shp).1 ((nm, kindsD cs, ex) : Shp).2.1 ((nm, kindsD cs, ex) : Shp).2.2 := shIn_ok (s := (nm, kindsD cs, ex)) ha h
    exact hs
/-- The operands' cells are a row of known kinds. -/
theorem csK_congr {rs rs' ns ns' : Nat → Int} : ∀ (ks : List Nat) (i : Nat), (∀ j, i ≤ j → rs j = rs' j ∧ ns j = ns' j) → csK i ks rs ns = csK i ks rs' ns'
  | [], _, _ => rfl
  | k :: l, i, h => by
    simp only [csK]
    rw [(h i (Nat.le_refl _)).1, (h i (Nat.le_refl _)).2, csK_congr l (i + 1) fun j hj => h j (by omega)]
theorem csK_of : ∀ (l : List Nat) (i : Nat), l.length % 3 = 0 → ∃ rs ns : Nat → Int, cvs env0 (csK i (kindsD l) rs ns) = (l.map fun (n : Nat) => Value.int .i64 (n : Int)) ∧ (kindsD l).length = l.length / 3
  | [], _, _ => ⟨fun _ => 0, fun _ => 0, rfl, rfl⟩
  | [_], _, h => by simp at h
  | [_, _], _, h => by simp at h
  | k :: r :: n :: l, i, h => by
    obtain ⟨rs, ns, h1, h2⟩ := csK_of l (i + 1) (by simp only [List.length_cons] at h; omega)
    refine ⟨fun j => if j = i then (r : Int) else rs j, fun j => if j = i then (n : Int) else ns j, ?_, ?_⟩
    · simp only [kindsD, csK, cvs, rI, cv, if_true, List.map_cons]
      rw [csK_congr (rs' := rs) (ns' := ns) (kindsD l) (i + 1) (fun j hj => ⟨if_neg (by omega), if_neg (by omega)⟩), h1]
      rfl
    · simp only [kindsD, List.length_cons, h2]
      omega
def len3 (d : OpD) : Bool := Nat.beq (Nat.mod d.2.2.2.2.length 3) 0
theorem len3_all : allT (fun _ _ d => len3 d) 0 ods = true := by kernel_rfl
theorem bytes_at {w0 w : World} (hG : GlT w0) (hb0 : Below w0.heap.size w0 w) {p o : Nat} {d : OpD} (hd : opD p o = some d) (hk : d.1 = 1) {A : Option Addr} {c : Nat} (hA : RowAt w0.heap.size w A c (opVs d)) (x n : Int) :
    Calls Tryz.prog 6 #[enV p o d A c, .int .i64 x, .int .i64 n] w fun e w' => ∃ A' c',
      e = .returned (.tuple #[.slice A' (bytR p (.int .u8 (o : Int)) d.2.2.1 x n).length c', .bool (okR d.2.2.1 x n)]) ∧ (bytR p (.int .u8 (o : Int)) d.2.2.1 x n).length ≤ c' ∧ Rd w' (fun _ => True) A' (bytR p (.int .u8 (o : Int)) d.2.2.1 x n) ∧ Below w.heap.size w w' := by
  obtain ⟨rs, ns, h1, h2⟩ := csK_of d.2.2.2.2 0 ((beq_iff _ _).1 (allT_opD len3_all hd))
  have := bytes_any hG hb0 (shape_ok hd hk) d.2.2.2.1 (o : Int) rs ns (A := A) (c := c) (by rw [h1]; exact hA) x n
  rw [h2] at this
  exact this
end Go.Proofs.YtpjcgimgiegehaaGreatDoor.Ex

/- The plain law of TopPrefixes: the bytes of an entry with any numbers never begin with those of another one. -/
namespace Go.Proofs.YtpjcgimgiegehaaGreatDoor.Ex
open Go.RowKit

def letU (x n : Int) : List Nat → List UInt8
  | [] => []
  | c :: l => cond (Nat.beq c 100) (lowB x :: letU x n l) (cond (Nat.beq c 119) (lowB n :: lowB (n.fdiv 256) :: letU x n l) (lowB n :: letU x n l))
def bytU (p o : Nat) (ex : List Nat) (x n : Int) : List UInt8 := (preN p).map UInt8.ofNat ++ cond (Nat.ble 5 p) (lowB x :: UInt8.ofNat o :: letU x n ex.tail) (UInt8.ofNat o :: letU x n ex)
theorem low1_cv (ρ : Env) (z : Int) : cv ρ (low1 z) = .int .u8 ((lowB z).toNat : Int) := by
  rw [lowB_val]; rfl
theorem letB_bs (ρ : Env) (x n : Int) : ∀ ex : List Nat, cvs ρ (letB x n ex) = bs (letU x n ex)
  | [] => rfl
  | c :: l => by
    unfold letB letU
    cases Nat.beq c 100 <;> cases Nat.beq c 119 <;> simp only [cond_true, cond_false, cvs, low1_cv, letB_bs ρ x n l, bs, List.map_cons]
theorem preN_lt (p : Nat) : ∀ c ∈ preN p, c < 256 := by
  intro c hc
  unfold preN at hc
  split at hc <;> simp at hc <;> omega
theorem u8s_bs (ρ : Env) : ∀ l : List Nat, (∀ c ∈ l, c < 256) → cvs ρ (u8s l) = bs (l.map UInt8.ofNat)
  | [], _ => rfl
  | c :: l, h => by
    have hc := h c List.mem_cons_self
    have e : ((UInt8.ofNat c).toNat : Int) = (c : Int) := by
      rw [UInt8.toNat_ofNat']
      omega
    simp only [u8s, cvs, cv, u8s_bs ρ l fun c hc => h c (List.mem_cons_of_mem _ hc), bs, List.map_cons, e]
    rfl
theorem expB_bs (p : Nat) {o : Nat} (ho : o < 256) (ex : List Nat) (x n : Int) : cvs env0 (expB p (.int .u8 (o : Int)) ex x n) = bs (bytU p o ex x n) := by
  have e : ((UInt8.ofNat o).toNat : Int) = (o : Int) := by
    rw [UInt8.toNat_ofNat']
    omega
  unfold expB bytU
  rw [catA_cvs, u8s_bs _ _ (preN_lt p), bs_append]
  cases Nat.ble 5 p <;> simp only [cond_true, cond_false, cvs, low1_cv, cv, letB_bs, bs, List.map_cons, e]
def bytL (p o : Nat) (ex : List Nat) (x n : Int) : List UInt8 := if okR ex x n = true then bytU p o ex x n else []
theorem bytR_bs (p : Nat) {o : Nat} (ho : o < 256) (ex : List Nat) (x n : Int) : bytR p (.int .u8 (o : Int)) ex x n = bs (bytL p o ex x n) := by
  unfold bytR bytL
  split
  · exact expB_bs p ho ex x n
  · rfl

/-- What holds of every entry: what follows the opcode; which opcodes are not prefixes. -/
def exsOk (p : Nat) (ex : List Nat) : Bool := cond (Nat.ble 5 p) (eqL ex [100]) (eqL ex [] || eqL ex [110] || eqL ex [101] || eqL ex [119] || eqL ex [100] || eqL ex [100, 110])
def oOk (p o : Nat) : Bool := match p with
  | 0 => !(Nat.beq o 203) && !(Nat.beq o 237) && !(Nat.beq o 221) && !(Nat.beq o 253)
  | 3 => !(Nat.beq o 203)
  | 4 => !(Nat.beq o 203)
  | _ => true
def entOk (p o : Nat) (d : OpD) : Bool := match d.1 with
  | 1 => exsOk p d.2.2.1 && oOk p o && Nat.blt p 7 && Nat.blt o 256
  | _ => Nat.blt p 7 && Nat.blt o 256
theorem entOk_all : allT entOk 0 ods = true := by kernel_rfl
theorem ent_spec {p o : Nat} {d : OpD} (hd : opD p o = some d) (hk : d.1 = 1) : exsOk p d.2.2.1 = true ∧ oOk p o = true ∧ p < 7 ∧ o < 256 := by
  have h := allT_opD entOk_all hd
  obtain ⟨k, nm, ex, al, cs⟩ := d
  obtain rfl : k = 1 := hk
  simp only [entOk, Bool.and_eq_true] at h
  exact ⟨h.1.1.1, h.1.1.2, blt_lt h.1.2, blt_lt h.2⟩
theorem u8_inj {a b : Nat} (ha : a < 256) (hb : b < 256) (h : UInt8.ofNat a = UInt8.ofNat b) : a = b := by
  have := congrArg UInt8.toNat h
  rw [UInt8.toNat_ofNat', UInt8.toNat_ofNat'] at this
  omega
theorem lowB_inj {a b : Int} (h : lowB a = lowB b) : a % 256 = b % 256 := by
  rw [← lowB_val, ← lowB_val, h]
theorem oOk_ne {p o c : Nat} (h : oOk p o = true) (hc : (p = 0 ∧ (c = 203 ∨ c = 237 ∨ c = 221 ∨ c = 253)) ∨ ((p = 3 ∨ p = 4) ∧ c = 203)) : o ≠ c := by
  rintro rfl
  rcases hc with ⟨rfl, rfl | rfl | rfl | rfl⟩ | ⟨rfl | rfl, rfl⟩ <;> cases h
/-- The page and the opcode can be read off the bytes. -/
theorem dec_po {p o p' o' : Nat} {ex ex' : List Nat} {x n x' n' : Int} {t t' : List UInt8} (hp : p < 7) (ho : o < 256) (hp' : p' < 7) (ho' : o' < 256) (hk : oOk p o = true) (hk' : oOk p' o' = true)
    (h : bytU p o ex x n ++ t = bytU p' o' ex' x' n' ++ t') : p = p' ∧ o = o' := by
  have n0 : ∀ {a b : Nat}, a < 256 → b < 256 → a ≠ b → UInt8.ofNat a ≠ UInt8.ofNat b := fun ha hb hne e => hne (u8_inj ha hb e)
  have A := @oOk_ne p o
  have B := @oOk_ne p' o'
  rcases (show p = 0 ∨ p = 1 ∨ p = 2 ∨ p = 3 ∨ p = 4 ∨ p = 5 ∨ p = 6 by omega) with rfl | rfl | rfl | rfl | rfl | rfl | rfl <;>
  rcases (show p' = 0 ∨ p' = 1 ∨ p' = 2 ∨ p' = 3 ∨ p' = 4 ∨ p' = 5 ∨ p' = 6 by omega) with rfl | rfl | rfl | rfl | rfl | rfl | rfl <;>
  simp only [bytU, preN, show Nat.ble 5 0 = false from rfl, show Nat.ble 5 1 = false from rfl, show Nat.ble 5 2 = false from rfl, show Nat.ble 5 3 = false from rfl, show Nat.ble 5 4 = false from rfl, show Nat.ble 5 5 = true from rfl, show Nat.ble 5 6 = true from rfl, cond_true, cond_false, List.map_cons, List.map_nil, List.nil_append, List.cons_append, List.cons.injEq] at h <;>
  first
    | exact ⟨rfl, u8_inj ho ho' h.1⟩
    | exact ⟨rfl, u8_inj ho ho' h.2.1⟩
    | exact ⟨rfl, u8_inj ho ho' h.2.2.2.1⟩
    | exact absurd (u8_inj ho (by omega) h.1) (A hk (by simp))
    | exact absurd (u8_inj ho' (by omega) h.1.symm) (B hk' (by simp))
    | exact absurd h.1 (by decide)
    | exact absurd (u8_inj ho (by omega) h.2.1) (A hk (by simp))
    | exact absurd (u8_inj ho' (by omega) h.2.1.symm) (B hk' (by simp))
theorem letU_len (x n x' n' : Int) : ∀ ex : List Nat, (letU x n ex).length = (letU x' n' ex).length
  | [] => rfl
  | c :: l => by
    unfold letU
    cases Nat.beq c 100 <;> cases Nat.beq c 119 <;> simp only [cond_true, cond_false, List.length_cons, letU_len x n x' n' l]
theorem bytU_len (p o : Nat) (ex : List Nat) (x n x' n' : Int) : (bytU p o ex x n).length = (bytU p o ex x' n').length := by
  unfold bytU
  rw [List.length_append, List.length_append]
  cases Nat.ble 5 p <;> simp only [cond_true, cond_false, List.length_cons, letU_len x n x' n']
theorem shr8 (n : Int) : n.fdiv 256 = n / 256 := Int.fdiv_eq_ediv_of_nonneg _ (by omega)
theorem okR_spec {ex : List Nat} {x n a b c d : Int} (h : okR ex x n = true) (hd : rngD ex = (a, b)) (hn : rngN ex = (c, d)) : (a ≤ x ∧ x ≤ b) ∧ (c ≤ n ∧ n ≤ d) := by
  unfold okR at h
  rw [hd, hn] at h
  simpa only [Bool.and_eq_true, decide_eq_true_eq] using h
/-- The numbers can be read off the bytes. -/
theorem dec_num {p o : Nat} {ex : List Nat} {x n x' n' : Int} (he : exsOk p ex = true) (h1 : okR ex x n = true) (h2 : okR ex x' n' = true) (h : bytU p o ex x n = bytU p o ex x' n') : x = x' ∧ n = n' := by
  unfold bytU at h
  rw [List.append_cancel_left_eq] at h
  unfold exsOk at he
  cases hp : Nat.ble 5 p with
  | true =>
    rw [hp] at he h
    obtain rfl := eqL_eq (show eqL ex [100] = true from he)
    simp only [cond_true, List.cons.injEq] at h
    have := lowB_inj h.1
    have k1 := okR_spec (a := -128) (b := 127) (c := 0) (d := 0) h1 rfl rfl
    have k2 := okR_spec (a := -128) (b := 127) (c := 0) (d := 0) h2 rfl rfl
    omega
  | false =>
    rw [hp] at he h
    simp only [cond_false, List.cons.injEq, true_and, Bool.or_eq_true] at he h
    rcases he with ((((he | he) | he) | he) | he) | he <;> obtain rfl := eqL_eq he
    · have k1 := okR_spec (a := 0) (b := 0) (c := 0) (d := 0) h1 rfl rfl
      have k2 := okR_spec (a := 0) (b := 0) (c := 0) (d := 0) h2 rfl rfl
      omega
    · have k1 := okR_spec (a := 0) (b := 0) (c := 0) (d := 255) h1 rfl rfl
      have k2 := okR_spec (a := 0) (b := 0) (c := 0) (d := 255) h2 rfl rfl
      have h : [lowB n] = [lowB n'] := h
      have := lowB_inj (List.cons.inj h).1
      omega
    · have k1 := okR_spec (a := 0) (b := 0) (c := -128) (d := 127) h1 rfl rfl
      have k2 := okR_spec (a := 0) (b := 0) (c := -128) (d := 127) h2 rfl rfl
      have h : [lowB n] = [lowB n'] := h
      have := lowB_inj (List.cons.inj h).1
      omega
    · have k1 := okR_spec (a := 0) (b := 0) (c := 0) (d := 65535) h1 rfl rfl
      have k2 := okR_spec (a := 0) (b := 0) (c := 0) (d := 65535) h2 rfl rfl
      have h : [lowB n, lowB (n.fdiv 256)] = [lowB n', lowB (n'.fdiv 256)] := h
      have e1 := lowB_inj (List.cons.inj h).1
      have e2 := lowB_inj (List.cons.inj (List.cons.inj h).2).1
      rw [shr8, shr8] at e2
      omega
    · have k1 := okR_spec (a := -128) (b := 127) (c := 0) (d := 0) h1 rfl rfl
      have k2 := okR_spec (a := -128) (b := 127) (c := 0) (d := 0) h2 rfl rfl
      have h : [lowB x] = [lowB x'] := h
      have := lowB_inj (List.cons.inj h).1
      omega
    · have k1 := okR_spec (a := -128) (b := 127) (c := 0) (d := 255) h1 rfl rfl
      have k2 := okR_spec (a := -128) (b := 127) (c := 0) (d := 255) h2 rfl rfl
      have h : [lowB x, lowB n] = [lowB x', lowB n'] := h
      have e1 := lowB_inj (List.cons.inj h).1
      have e2 := lowB_inj (List.cons.inj (List.cons.inj h).2).1
      omega
/-- The law. -/
theorem prefix_law {p o p' o' : Nat} {d d' : OpD} (hd : opD p o = some d) (hd' : opD p' o' = some d') (hk : d.1 = 1) (hk' : d'.1 = 1) {x n x' n' : Int} (h1 : okR d.2.2.1 x n = true) (h2 : okR d'.2.2.1 x' n' = true) :
    decide ((bytU p o d.2.2.1 x n).take (min (bytU p o d.2.2.1 x n).length (bytU p' o' d'.2.2.1 x' n').length) = (bytU p' o' d'.2.2.1 x' n').take (min (bytU p o d.2.2.1 x n).length (bytU p' o' d'.2.2.1 x' n').length)) = (decide (p = p' ∧ o = o') && (decide (x = x') && decide (n = n'))) := by
  obtain ⟨q1, q2, q3, q4⟩ := ent_spec hd hk
  obtain ⟨q1', q2', q3', q4'⟩ := ent_spec hd' hk'
  have e : (decide (p = p' ∧ o = o') && (decide (x = x') && decide (n = n'))) = decide ((p = p' ∧ o = o') ∧ (x = x' ∧ n = n')) := by
    simp only [Bool.decide_and]
  rw [e]
  refine decide_eq_decide.2 ⟨fun h => ?_, fun h => ?_⟩
  · have hpo : p = p' ∧ o = o' := by
      refine dec_po (ex := d.2.2.1) (x := x) (n := n) (ex' := d'.2.2.1) (x' := x') (n' := n') (t := (bytU p' o' d'.2.2.1 x' n').drop (bytU p o d.2.2.1 x n).length) (t' := (bytU p o d.2.2.1 x n).drop (bytU p' o' d'.2.2.1 x' n').length) q3 q4 q3' q4' q2 q2' ?_
      generalize bytU p o d.2.2.1 x n = a at h ⊢
      generalize bytU p' o' d'.2.2.1 x' n' = b at h ⊢
      rcases Nat.le_total a.length b.length with hl | hl
      · rw [Nat.min_eq_left hl, List.take_length] at h
        rw [List.drop_eq_nil_of_le hl, List.append_nil]
        conv => lhs; lhs; rw [h]
        exact List.take_append_drop _ _
      · rw [Nat.min_eq_right hl, List.take_length] at h
        rw [List.drop_eq_nil_of_le hl, List.append_nil]
        conv => rhs; lhs; rw [← h]
        exact (List.take_append_drop _ _).symm
    refine ⟨hpo, ?_⟩
    obtain ⟨rfl, rfl⟩ := hpo
    rw [hd] at hd'
    obtain rfl := Option.some.inj hd'
    rw [bytU_len p o d.2.2.1 x' n' x n, Nat.min_self, List.take_length, bytU_len p o d.2.2.1 x n x' n', List.take_length] at h
    exact dec_num q1 h1 h2 h
  · obtain ⟨⟨rfl, rfl⟩, rfl, rfl⟩ := h
    rw [hd] at hd'
    obtain rfl := Option.some.inj hd'
    rfl
end Go.Proofs.YtpjcgimgiegehaaGreatDoor.Ex
