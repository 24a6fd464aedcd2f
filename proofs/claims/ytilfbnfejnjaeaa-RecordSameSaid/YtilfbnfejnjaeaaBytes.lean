/- The walks of Bytes of the package num and of its reference. -/
import Derived.Test.YtilfbnfejnjaeaaDigits
namespace Go.Proofs.Ytilfbnfejnjaeaa
open Go.RowKit

/-- The bytes that pairs of capital hexadecimal digits denote. -/
def pairs : List UInt8 → Option (List UInt8)
  | [] => some []
  | [_] => none
  | a :: b :: l => if hv a < 16 ∧ hv b < 16 then (pairs l).map fun d => UInt8.ofNat (hv a * 16 + hv b) :: d else none
theorem pairs_cons (a b : UInt8) (l : List UInt8) : pairs (a :: b :: l) = if hv a < 16 ∧ hv b < 16 then (pairs l).map fun d => UInt8.ofNat (hv a * 16 + hv b) :: d else none := rfl
theorem pairs_append : ∀ (k : Nat) (l m : List UInt8), l.length = 2 * k → pairs (l ++ m) = (pairs l).bind fun d => (pairs m).map fun x => d ++ x
  | 0, l, m, h => by
    obtain rfl : l = [] := List.eq_nil_of_length_eq_zero (by omega)
    simp [pairs]
  | k + 1, a :: b :: l, m, h => by
    rw [List.cons_append, List.cons_append, pairs_cons, pairs_cons, pairs_append k l m (by simp at h; omega)]
    split
    · cases pairs l <;> cases pairs m <;> rfl
    · rfl
  | k + 1, [_], m, h => by simp at h; omega
  | k + 1, [], m, h => by simp at h
theorem pairs_odd : ∀ (k : Nat) (l : List UInt8), l.length = 2 * k + 1 → pairs l = none
  | 0, [_], _ => rfl
  | 0, [], h => by simp at h
  | 0, _ :: _ :: _, h => by simp at h
  | k + 1, a :: b :: l, h => by
    rw [pairs_cons, pairs_odd k l (by simp at h; omega)]
    split <;> rfl
  | k + 1, [_], h => by simp at h
  | k + 1, [], h => by simp at h
theorem pairs_length : ∀ (l : List UInt8) (d : List UInt8), pairs l = some d → l.length = 2 * d.length
  | [], d, h => by
    injection h with h
    subst h
    rfl
  | [_], d, h => by cases h
  | a :: b :: l, d, h => by
    rw [pairs_cons] at h
    split at h
    · cases hp : pairs l with
      | none => rw [hp] at h; cases h
      | some x =>
        rw [hp] at h
        injection h with h
        subst h
        have := pairs_length l x hp
        simp
        omega
    · cases h
theorem two_at {l : List UInt8} {k : Nat} {a b : UInt8} (ha : l[k]? = some a) (hb : l[k + 1]? = some b) : l.take (k + 2) = l.take k ++ [a, b] := by
  rw [take_at hb, take_at ha]
  simp
/-- One pair more. -/
theorem pairs_next {l d : List UInt8} {k : Nat} {a b : UInt8} (h : pairs (l.take (2 * k)) = some d) (ha : l[2 * k]? = some a) (hb : l[2 * k + 1]? = some b) (h1 : hv a < 16 ∧ hv b < 16) :
    pairs (l.take (2 * (k + 1))) = some (d ++ [UInt8.ofNat (hv a * 16 + hv b)]) := by
  have hl := lt_at hb
  rw [show 2 * (k + 1) = 2 * k + 2 from by omega, two_at ha hb, pairs_append k _ _ (by rw [List.length_take]; omega), h, pairs_cons, if_pos h1]
  rfl
theorem pairs_stop {l d : List UInt8} {k : Nat} {a b : UInt8} (h : pairs (l.take (2 * k)) = some d) (ha : l[2 * k]? = some a) (hb : l[2 * k + 1]? = some b) (h1 : ¬ (hv a < 16 ∧ hv b < 16)) : pairs l = none := by
  have hl := lt_at hb
  have e := List.take_append_drop (2 * k) l
  rw [← e, pairs_append k _ _ (by rw [List.length_take]; omega), h]
  rw [List.drop_eq_getElem_cons (show 2 * k < l.length by omega), List.drop_eq_getElem_cons (show 2 * k + 1 < l.length by omega)]
  have e1 : l[2 * k] = a := by rw [List.getElem?_eq_getElem (by omega)] at ha; exact Option.some.inj ha
  have e2 : l[2 * k + 1] = b := by rw [List.getElem?_eq_getElem (by omega)] at hb; exact Option.some.inj hb
  rw [e1, e2, pairs_cons, if_neg h1]
  rfl
theorem pair_val (a b : UInt8) : nval 16 [a, b] = if hv a < 16 ∧ hv b < 16 then some (hv a * 16 + hv b) else none := by
  unfold nval
  rw [if_neg (by simp)]
  simp only [nacc_cons, nacc]
  by_cases h1 : hv a < 16
  · rw [if_pos ⟨h1, by omega⟩]
    by_cases h2 : hv b < 16
    · rw [if_pos ⟨h2, by omega⟩, if_pos ⟨h1, h2⟩]
      simp
    · rw [if_neg (fun h => h2 h.1), if_neg (fun h => h2 h.2)]
  · rw [if_neg (fun h => h1 h.1), if_neg (fun h => h1 h.1)]
theorem ext_two {s : ByteArray} {k : Nat} {a b : UInt8} (ha : s.data.toList[k]? = some a) (hb : s.data.toList[k + 1]? = some b) : (s.extract k (k + 2)).data.toList = [a, b] := by
  have h1 := lt_at ha
  have h2 := lt_at hb
  rw [Lib.extract_data, show k + 2 - k = 2 from by omega, List.drop_eq_getElem_cons h1, List.drop_eq_getElem_cons h2]
  rw [List.getElem?_eq_getElem h1] at ha
  rw [List.getElem?_eq_getElem h2] at hb
  rw [Option.some.inj ha, Option.some.inj hb]
  rfl

/-- The captured string and the captured slice of the closure of Bytes. -/
structure BSt (W : World) (B g1 g2 : Nat) (u : ByteArray) (v : Value) (d : List UInt8) : Prop where
  b1 : B ≤ g1
  b2 : B ≤ g2
  le : B ≤ W.heap.size
  str : W.heap[g1]? = some (.cells #[.string u] 9 (0, 0))
  out : W.heap[g2]? = some (.cells #[v] 23 (0, 0))
  own : W.ownsRow B 5 1 v d.length (bs d)
theorem BSt.cells {W : World} {B g1 g2 : Nat} {u : ByteArray} {v : Value} {d : List UInt8} (h : BSt W B g1 g2 u v d) : W.cell? ⟨g1, 0, none⟩ = some (.string u) ∧ W.cell? ⟨g2, 0, none⟩ = some v ∧ W.frozen? ⟨g2, 0, none⟩ = false :=
  ⟨by simp [World.cell?, h.str], by simp [World.cell?, h.out], by simp [World.frozen?, h.out]⟩
theorem BSt.keeps {W w2 : World} {B g1 g2 : Nat} {u : ByteArray} {v : Value} {d : List UInt8} {o : Obj} (h : BSt W B g1 g2 u v d) (hg : (W.alloc o).grownBy w2 v.ownBlock) : w2.cell? ⟨g2, 0, none⟩ = some v ∧ w2.frozen? ⟨g2, 0, none⟩ = false := by
  have hlt2 := lt_of_blk h.out
  have k2 : w2.heap[g2]? = some (.cells #[v] 23 (0, 0)) := ((hg.block g2 (by simp; omega) (own_ne h.own h.out (by decide))).trans (heap_alloc_old W o hlt2)).trans h.out
  exact ⟨by simp [World.cell?, k2], by simp [World.frozen?, k2]⟩
theorem BSt.next {W w2 : World} {B g1 g2 : Nat} {u : ByteArray} {v v2 : Value} {d : List UInt8} {o : Obj} {y : UInt8} {z : Int} (h : BSt W B g1 g2 u v d) (hz : z = (y.toNat : Int)) (ho : w2.ownsRow B 5 1 v2 (d.length + 1) (bs d ++ [.int .u8 z]))
    (hg : (W.alloc o).grownBy w2 v.ownBlock) : BSt (w2.setCell ⟨g2, 0, none⟩ v2) B g1 g2 u v2 (d ++ [y]) ∧ Below B W (w2.setCell ⟨g2, 0, none⟩ v2) := by
  have hlt1 := lt_of_blk h.str
  have hlt2 := lt_of_blk h.out
  have hle := h.le
  have hv1 := own_ne h.own h.str (by decide)
  have hv2 := own_ne h.own h.out (by decide)
  have k1 : w2.heap[g1]? = some (.cells #[.string u] 9 (0, 0)) := ((hg.block g1 (by simp; omega) hv1).trans (heap_alloc_old W o hlt1)).trans h.str
  have k2 : w2.heap[g2]? = some (.cells #[v] 23 (0, 0)) := ((hg.block g2 (by simp; omega) hv2).trans (heap_alloc_old W o hlt2)).trans h.out
  have hb2 : Below B W w2 := (((Below.refl B W).alloc hle o)).grown hg (by simp; omega) (fun q hq => (h.own.lt q hq).1)
  have hb3 : Below B W (w2.setCell ⟨g2, 0, none⟩ v2) := hb2.setCell (p := ⟨g2, 0, none⟩) h.b2 _
  have hne : g1 ≠ g2 := fun e => by
    subst e
    have := h.str.symm.trans h.out
    injection this with this
    injection this with _ this
    revert this
    decide
  have hv3 := own_ne ho k2 (by decide)
  refine ⟨⟨h.b1, h.b2, Nat.le_trans h.le hb3.size, ?_, one_set k2, ?_⟩, hb3⟩
  · rw [Below.heap_setCell w2 _ _ _ (fun e => hne e)]
    exact k1
  · rw [hz] at ho
    rw [List.length_append, bs_append]
    exact own_grown ho (grownBy_set w2 g2 0 v2) (.inr (fun e => hv3 e.symm))

set_option maxHeartbeats 400000 in
theorem bytes1_any (W : World) (B g1 g2 k : Nat) (u : ByteArray) (v : Value) (d : List UInt8) (a b : UInt8) (h : BSt W B g1 g2 u v d) (hu : (u.size : Int) ≤ 140737488355328) (hd : (d.length : Int) ≤ 70368744177664) (hk : k + 2 ≤ u.size)
    (ha : u.data.toList[k]? = some a) (hb : u.data.toList[k + 1]? = some b) :
    Calls Try.prog 71 #[.int .i64 (k : Int), .pointer (some ⟨g1, 0, none⟩), .pointer (some ⟨g2, 0, none⟩)] W fun e w' =>
      ∃ v2 y, e = .returned (.bool (decide (hv a < 16 ∧ hv b < 16))) ∧ BSt w' B g1 g2 u v2 (d ++ [y]) ∧ Below B W w' ∧ (hv a < 16 ∧ hv b < 16 → y = UInt8.ofNat (hv a * 16 + hv b)) := by
  obtain ⟨c1, c2, c3⟩ := h.cells
  have H := Lib.hid h
  obtain ⟨A, c, rfl, hc, _⟩ := own_form h.own
  have C := Lib.hid (digits_any 16 (by decide) (by decide) (u.extract k (k + 2)) W (by simp; omega))
  rw [ext_two ha hb, pair_val] at C
  clear h ha hb
  by_cases hx : hv a < 16 ∧ hv b < 16
  · rw [if_pos hx] at C
    have HX := Lib.hid hx
    have hm : ((hv a * 16 + hv b : Nat) : Int) ≤ 255 := by omega
    obtain ⟨m, hmm⟩ : ∃ m, hv a * 16 + hv b = m := ⟨_, rfl⟩
    rw [hmm] at C hm
    have HM := Lib.hid hmm
    have C2 : Hid (Calls Try.prog 72 #[.string (u.extract k (k + 2)), .int .i64 16] W fun e w' => e = .returned (.tuple #[.int .i64 (m : Int), .bool true]) ∧ W = w') := C.out
    clear hx hmm C
    go_enter Try.func71, Try.ntmps71
    go_wp2_with (first
      | (go_at_call 72; refine C2.out.mono ?_; rintro e w' ⟨rfl, rfl⟩)
      | (at_builtin; refine wpList_app el_bytes rfl (.tmp 16) (.tmp 19) rfl B _ d.length _ (fun _ => True) _ 1 1 [.int .u8 _] rfl rfl (H.out.own.alloc _) rfl (Rd.new _ _ _ trivial) (by intro u hu; simp at hu; subst hu; rfl) (by simp only [maxLen]; omega) (by omega) (by simp; have := H.out.le; omega) ?_; intro v2 w2 hown2 hg2 hat2 hz2; obtain ⟨A2, cc2, rfl, _⟩ := own_form hown2; obtain ⟨k1, k2⟩ := H.out.keeps hg2; have HO := Lib.hid hown2; have HG := Lib.hid hg2; clear hown2 hg2 hat2 hz2))
    go_ret
    obtain ⟨q1, q2⟩ := H.out.next (y := UInt8.ofNat (hv a * 16 + hv b)) (by rw [HM.out, UInt8.toNat_ofNat']; omega) HO.out HG.out
    exact ⟨_, _, ret_bool (decide_eq_true HX.out).symm, q1, q2, fun _ => rfl⟩
  · rw [if_neg hx] at C
    have HX := Lib.hid hx
    have C2 : Hid (Calls Try.prog 72 #[.string (u.extract k (k + 2)), .int .i64 16] W fun e w' => e = .returned (.tuple #[.int .i64 0, .bool false]) ∧ W = w') := C.out
    clear hx C
    go_enter Try.func71, Try.ntmps71
    go_wp2_with (first
      | (go_at_call 72; refine C2.out.mono ?_; rintro e w' ⟨rfl, rfl⟩)
      | (at_builtin; refine wpList_app el_bytes rfl (.tmp 16) (.tmp 19) rfl B _ d.length _ (fun _ => True) _ 1 1 [.int .u8 _] rfl rfl (H.out.own.alloc _) rfl (Rd.new _ _ _ trivial) (by intro u hu; simp at hu; subst hu; rfl) (by simp only [maxLen]; omega) (by omega) (by simp; have := H.out.le; omega) ?_; intro v2 w2 hown2 hg2 hat2 hz2; obtain ⟨A2, cc2, rfl, _⟩ := own_form hown2; obtain ⟨k1, k2⟩ := H.out.keeps hg2; have HO := Lib.hid hown2; have HG := Lib.hid hg2; clear hown2 hg2 hat2 hz2))
    go_ret
    obtain ⟨q1, q2⟩ := H.out.next (y := 0) rfl HO.out HG.out
    exact ⟨_, _, ret_bool (decide_eq_false HX.out).symm, q1, q2, fun h => absurd h HX.out⟩

/-- What Bytes hands back for the bytes of a string, if they are some. -/
def BytesR (w : World) (o : Option (List UInt8)) (e : Ending) (w' : World) : Prop :=
  Below w.heap.size w w' ∧ match o with
  | some d => ∃ v, e = .returned (.tuple #[v, .bool true]) ∧ w'.ownsRow w.heap.size 5 1 v d.length (bs d)
  | none => e = .returned (.tuple #[.slice none 0 0, .bool false])
theorem pairs_step {l d : List UInt8} {i k : Nat} {a b y : UInt8} (hi : i = 2 * k) (h : pairs (l.take i) = some d) (ha : l[i]? = some a) (hb : l[i + 1]? = some b) (h1 : hv a < 16 ∧ hv b < 16) (hy : y = UInt8.ofNat (hv a * 16 + hv b)) :
    pairs (l.take (i + 2)) = some (d ++ [y]) := by
  subst hi; subst hy
  exact pairs_next h ha hb h1
theorem pairs_fail {l d : List UInt8} {i k : Nat} {a b : UInt8} (hi : i = 2 * k) (h : pairs (l.take i) = some d) (ha : l[i]? = some a) (hb : l[i + 1]? = some b) (h1 : ¬ (hv a < 16 ∧ hv b < 16)) : pairs l = none := by
  subst hi
  exact pairs_stop h ha hb h1
theorem bytes_below {w w1 : World} {u : ByteArray} (h : Below w.heap.size w w1) : Below w.heap.size w ((w1.alloc (.cells #[.string u] 9)).alloc (.cells #[.slice none 0 0] 23)) :=
  (h.alloc h.size _).alloc (by simp; have := h.size; omega) _
theorem BSt.start {w w1 : World} {u : ByteArray} (h : Below w.heap.size w w1) : BSt ((w1.alloc (.cells #[.string u] 9)).alloc (.cells #[.slice none 0 0] 23)) w.heap.size w1.heap.size (w1.heap.size + 1) u (.slice none 0 0) [] := by
  have e : (w1.alloc (.cells #[.string u] 9)).heap.size = w1.heap.size + 1 := World.size_alloc _ _
  refine ⟨h.size, by have := h.size; omega, by simp; have := h.size; omega, ?_, ?_, World.ownsRow_nil _ _ _ _⟩
  · exact (heap_alloc_old _ _ (by rw [e]; omega)).trans (heap_alloc_new w1 _)
  · rw [← e]
    exact heap_alloc_new _ _
set_option maxHeartbeats 400000 in
theorem bytes_odd (s : ByteArray) (w : World) (hs : (s.size : Int) ≤ 140737488355328) (h : s.size % 2 = 1) :
    Calls Try.prog 43 #[.string s] w (BytesR w (pairs (s.data.toList.map upc))) := by
  have hp : pairs (s.data.toList.map upc) = none := pairs_odd (s.size / 2) _ (by rw [List.length_map, str_len]; omega)
  rw [hp]
  have d1 : ((s.size : Int) % 2 == 1) = true := by simp; omega
  clear hp
  go_enter Try.func43, Try.ntmps43
  go_wp2
  go_ret2
  exact ⟨Below.refl _ _, rfl⟩
set_option maxHeartbeats 400000 in
theorem bytes_even (s : ByteArray) (w : World) (hs : (s.size : Int) ≤ 140737488355328) (h : s.size % 2 = 0) :
    Calls Try.prog 43 #[.string s] w (BytesR w (pairs (s.data.toList.map upc))) := by
  have C := Lib.hid (upper_any s w (by unfold maxLen; omega))
  have HS := Lib.hid (str_len s)
  obtain ⟨l, hl⟩ : ∃ l, s.data.toList.map upc = l := ⟨_, rfl⟩
  obtain ⟨u, hu⟩ : ∃ u : ByteArray, (⟨l.toArray⟩ : ByteArray) = u := ⟨_, rfl⟩
  rw [hl, hu] at C
  rw [hl]
  have HU : Hid (u.data.toList = l) := by rw [← hu, Hid]
  have HL : Hid (l.length = s.size) := by rw [← hl, Hid, List.length_map]; exact HS.out
  have HUS : Hid (u.size = s.size) := by rw [Hid, ← str_len u, HU.out]; exact HL.out
  have hus : (u.size : Int) ≤ 140737488355328 := by rw [HUS.out]; exact hs
  have d1 : ((s.size : Int) % 2 == 1) = false := by simp; omega
  have HN : Hid (s.size % 2 = 0) := h
  clear hl h hu
  go_enter Try.func43, Try.ntmps43
  go_wp2_with (go_at_call 70; refine C.out.mono ?_; rintro e w1 ⟨rfl, hb⟩; have HB := Lib.hid hb; clear hb)
  have HST := Lib.hid (BSt.start (u := u) HB.out)
  have HBW := Lib.hid (bytes_below (u := u) HB.out)
  go_loopw [7] (fun v W => ∃ i k : Nat, (i : Int) ≤ u.size ∧ v = .int .i64 i ∧ Hid (i = 2 * k) ∧ Hid (∃ x d, BSt W w.heap.size w1.heap.size (w1.heap.size + 1) u x d ∧ pairs (l.take i) = some d ∧ d.length = k) ∧ Hid (Below w.heap.size w W)) (fun v _ => u.size - (intOf v).toNat)
  case atStart => exact ⟨0, 0, by omega, rfl, rfl, ⟨_, [], HST.out, rfl, rfl⟩, HBW.out⟩
  case round =>
    obtain ⟨i, k, hi, rfl, hik, hP, hQ⟩ := hrel
    obtain ⟨x, d, hS, hp, hdl⟩ := hP.out
    obtain ⟨c1, c2, c3⟩ := hS.cells
    obtain ⟨A5, c5, rfl, hc5, _⟩ := own_form hS.own
    have HS5 := Lib.hid hS
    have HP := Lib.hid hp
    have HD := Lib.hid hdl
    clear hS hp hdl hP
    by_cases hlt : i < u.size
    · have h2 : i + 2 ≤ u.size := by have := hik.out; have := HUS.out; have := HN.out; omega
      obtain ⟨a, _, ha⟩ := str_at u (k := i) (by omega)
      obtain ⟨b, _, hb⟩ := str_at u (k := i + 1) (by omega)
      have C1 := Lib.hid (bytes1_any wr _ _ _ i u _ d a b HS5.out hus (by have := HD.out; have := hik.out; omega) h2 ha hb)
      rw [HU.out] at ha hb
      have HA := Lib.hid ha
      have HBb := Lib.hid hb
      clear ha hb
      by_cases hx : hv a < 16 ∧ hv b < 16
      · rw [decide_eq_true hx] at C1
        have HX := Lib.hid hx
        clear hx
        go_wp2_with (go_at_call 71; refine C1.out.mono ?_; rintro e w2 ⟨x2, y2, rfl, q1, q2, q3⟩; have Q1 := Lib.hid q1; have Q2 := Lib.hid q2; have Q3 := Lib.hid (q3 HX.out); clear q1 q2 q3)
        go_roundw
        case rel => exact ⟨i + 2, k + 1, by omega, by go_num, by have := hik.out; show i + 2 = 2 * (k + 1); omega, ⟨_, _, Q1.out, pairs_step hik.out HP.out HA.out HBb.out HX.out Q3.out, by rw [List.length_append, HD.out]; rfl⟩, hQ.out.trans Q2.out⟩
        case measure => simp [intOf]; omega
      · rw [decide_eq_false hx] at C1
        have HX : Hid (pairs l = none) := pairs_fail hik.out HP.out HA.out HBb.out hx
        clear hx
        go_wp2_with (go_at_call 71; refine C1.out.mono ?_; rintro e w2 ⟨x2, y2, rfl, q1, q2, q3⟩; have Q2 := Lib.hid q2; clear q1 q2 q3)
        go_ret2
        rw [HX.out]
        exact ⟨hQ.out.trans Q2.out, rfl⟩
    · have HE : Hid (pairs l = some d) := by
        have := HP.out
        rw [List.take_of_length_le (by have := HL.out; have := HUS.out; omega)] at this
        exact this
      go_wp2
      go_ret2
      rw [HE.out]
      exact ⟨hQ.out, _, rfl, HS5.out.own⟩
theorem bytes_any (s : ByteArray) (w : World) (hs : (s.size : Int) ≤ 140737488355328) :
    Calls Try.prog 43 #[.string s] w (BytesR w (pairs (s.data.toList.map upc))) := by
  rcases Nat.mod_two_eq_zero_or_one s.size with h | h
  · exact bytes_even s w hs h
  · exact bytes_odd s w hs h
end Go.Proofs.Ytilfbnfejnjaeaa
