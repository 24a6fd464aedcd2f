/- The walk of text of the lexer: a string in its marks. -/
import Derived.Test.YtilfbnfejnjaeaaLword
import Derived.Test.YtilfbnfejnjaeaaBuild
namespace Go.Proofs.Ytilfbnfejnjaeaa
open Go.RowKit

/-- A builder of the call's own, from block B on, that holds the bytes l. -/
def BB (w : World) (B b : Nat) (l : List UInt8) : Prop := Lib.IsBuilder 89 5 B b (bs l) w
theorem BB.on {w w' : World} {B b g : Nat} {l : List UInt8} (h : BB w B b l) (hg : w.grownBy w' (some g)) (hgB : g < B) : BB w' B b l := by
  have key : ∀ p, Lib.BuilderAt 89 5 B b p (bs l) w → Lib.BuilderAt 89 5 B b p (bs l) w' := fun p ⟨h1, v, h2, h3, h4⟩ => by
    refine ⟨h1, v, (hg.block b (lt_of_blk h2) (fun e => by have := Option.some.inj e; omega)).trans h2, h3.kept hg ?_, h4⟩
    cases hv : v.ownBlock with
    | none => exact .inl rfl
    | some q => exact .inr (fun e => by have := (h3.lt q hv).1; have := Option.some.inj e; omega)
  exact h.imp (key _) (key _)
theorem BB.heap {w w' : World} {B b : Nat} {l : List UInt8} (h : BB w B b l) (e : w'.heap = w.heap) : BB w' B b l := by
  have key : ∀ p, Lib.BuilderAt 89 5 B b p (bs l) w → Lib.BuilderAt 89 5 B b p (bs l) w' := fun p ⟨h1, v, h2, h3, h4⟩ => by
    refine ⟨h1, v, by rw [e]; exact h2, ?_, h4⟩
    unfold World.ownsRow at h3 ⊢
    rw [e]
    exact h3
  exact h.imp (key _) (key _)
theorem BB.drew {w w' : World} {B b : Nat} {l : List UInt8} (h : BB w B b l) (hd : DrewOk w w') : BB w' B b l := by
  obtain ⟨m, rfl⟩ := hd
  exact h.heap rfl
theorem bb_wstr (B b : Nat) (l : List UInt8) (s : ByteArray) (w : World) (h : BB w B b l) (hm : (l.length : Int) + (s.size : Int) ≤ 140737488355328) (hB : B ≤ w.heap.size) :
    Calls Try.prog 50 #[.pointer (some ⟨b, 0, none⟩), .string s] w fun e w' => e = .returned (.tuple #[.int .i64 (s.size : Int), .nilIface]) ∧ BB w' B b (l ++ s.data.toList) ∧ Below B w w' :=
  (Try.Builder_WriteString B b (bs l) s w h (by rw [bs_length]; omega) hB).mono fun e w' ⟨h1, h2, h3⟩ => ⟨h1, by
    rw [strCells_bs, ← bs_append] at h2
    exact .inr h2, h3⟩
theorem bb_wbyte (B b : Nat) (l : List UInt8) (c : UInt8) (w : World) (h : BB w B b l) (hm : (l.length : Int) + 1 ≤ 140737488355328) (hB : B ≤ w.heap.size) :
    Calls Try.prog 49 #[.pointer (some ⟨b, 0, none⟩), .int .u8 (c.toNat : Int)] w fun e w' => e = .returned .nilIface ∧ BB w' B b (l ++ [c]) ∧ Below B w w' :=
  (Try.Builder_WriteByte B b (bs l) (c.toNat : Int) w h (by rw [bs_length]; omega) hB).mono fun e w' ⟨h1, h2, h3⟩ => ⟨h1, by
    rw [show bs l ++ [Value.int .u8 (c.toNat : Int)] = bs (l ++ [c]) from by rw [bs_append]; rfl] at h2
    exact .inr h2, h3⟩
theorem bb_string (B b : Nat) (l : List UInt8) (w : World) (h : BB w B b l) (hB : B ≤ w.heap.size) :
    Calls Try.prog 51 #[.pointer (some ⟨b, 0, none⟩)] w fun e w' => e = .returned (.string ⟨l.toArray⟩) ∧ Below B w w' := by
  refine Try.Builder_String_any B b l w ?_ hB
  rw [byteCells_bs]
  exact h

/-- Where a byte first stands. -/
theorem ib_none {m : UInt8} : ∀ {l : List UInt8}, Lib.indexByte l m < 0 → ∀ c ∈ l, c ≠ m
  | [], _, c, hc => by cases hc
  | d :: l, h, c, hc => by
    unfold Lib.indexByte at h
    split at h
    · omega
    · rename_i hd
      have h1 : Lib.indexByte l m < 0 := by
        split at h
        · rename_i h2
          have : Lib.indexByte l m = -1 := by simpa using h2
          omega
        · omega
      rcases List.mem_cons.1 hc with rfl | hc
      · simpa using hd
      · exact ib_none h1 c hc
theorem ib_low : ∀ (l : List UInt8) (m : UInt8), -1 ≤ Lib.indexByte l m
  | [], _ => Int.le_refl _
  | d :: l, m => by
    have := ib_low l m
    unfold Lib.indexByte
    split
    · omega
    · split <;> omega
theorem ib_some {m : UInt8} : ∀ {l : List UInt8} {i : Int}, Lib.indexByte l m = i → 0 ≤ i → ∃ a r, l = a ++ m :: r ∧ (a.length : Int) = i ∧ ∀ c ∈ a, c ≠ m
  | [], i, h, hi => by unfold Lib.indexByte at h; omega
  | d :: l, i, h, hi => by
    unfold Lib.indexByte at h
    split at h
    · rename_i hd
      have : d = m := by simpa using hd
      subst this
      exact ⟨[], l, rfl, by simpa using h, fun c hc => by cases hc⟩
    · rename_i hd
      split at h
      · omega
      · have hl := ib_low l m
        rename_i h2
        have h2' : Lib.indexByte l m ≠ -1 := by simpa using h2
        obtain ⟨a, r, rfl, ha, hn⟩ := ib_some (l := l) (i := Lib.indexByte l m) rfl (by omega)
        refine ⟨d :: a, r, rfl, by simp; omega, fun c hc => ?_⟩
        rcases List.mem_cons.1 hc with rfl | hc
        · simpa using hd
        · exact hn c hc
theorem quo_cons_ne {m c : UInt8} (h : c ≠ m) (r : List UInt8) : quo m (c :: r) = (quo m r).map fun p => (c :: p.1, p.2 + 1) := by
  rw [quo.eq_def]
  exact if_neg h
theorem quo_cons_end (m : UInt8) : quo m [m] = some ([], 1) := by
  rw [quo.eq_def]
  exact if_pos rfl
theorem quo_cons_two (m : UInt8) (r : List UInt8) : quo m (m :: m :: r) = (quo m r).map fun p => (m :: p.1, p.2 + 2) := by
  rw [quo.eq_def]
  exact (if_pos rfl).trans (if_pos rfl)
theorem quo_cons_stop {m d : UInt8} (h : d ≠ m) (r : List UInt8) : quo m (m :: d :: r) = some ([], 1) := by
  rw [quo.eq_def]
  exact (if_pos rfl).trans (if_neg h)
theorem quo_none {m : UInt8} : ∀ {l : List UInt8}, (∀ c ∈ l, c ≠ m) → quo m l = none
  | [], _ => rfl
  | d :: l, h => by
    rw [quo_cons_ne (h d (by simp)), quo_none (fun c hc => h c (by simp [hc]))]
    rfl
theorem quo_front {m : UInt8} : ∀ {a : List UInt8} (r : List UInt8), (∀ c ∈ a, c ≠ m) → quo m (a ++ r) = (quo m r).map fun p => (a ++ p.1, p.2 + a.length)
  | [], r, _ => by cases h : quo m r <;> simp [h]
  | d :: a, r, h => by
    rw [List.cons_append, quo_cons_ne (h d (by simp)), quo_front r (fun c hc => h c (by simp [hc]))]
    cases quo m r with
    | none => rfl
    | some p => simp; omega
/-- How the walk of a string goes on: acc has been read, the place is n bytes behind the first mark. -/
def QAt (m : UInt8) (q : Option (List UInt8 × Nat)) (acc : List UInt8) (n : Nat) (rest : List UInt8) : Prop := q = (quo m rest).map fun p => (acc ++ p.1, n + p.2)
theorem QAt.start (m : UInt8) (rest : List UInt8) : QAt m (quo m rest) [] 0 rest := by
  unfold QAt
  cases quo m rest <;> simp
theorem QAt.none {m : UInt8} {q : Option (List UInt8 × Nat)} {acc : List UInt8} {n : Nat} {rest : List UInt8} (h : QAt m q acc n rest) (hi : Lib.indexByte rest m < 0) : q = .none := by
  rw [h, quo_none (ib_none hi)]
  rfl
theorem QAt.done {m : UInt8} {q : Option (List UInt8 × Nat)} {acc : List UInt8} {n i : Nat} {rest : List UInt8} (h : QAt m q acc n rest) (hi : Lib.indexByte rest m = (i : Int)) (hp : pkc rest (i + 1) ≠ m) : q = some (acc ++ rest.take i, n + (i + 1)) := by
  obtain ⟨a, r, rfl, ha, hn⟩ := ib_some hi (by omega)
  obtain rfl : a.length = i := by omega
  rw [h, quo_front _ hn]
  have ht : (a ++ m :: r).take a.length = a := by simp
  rw [ht]
  cases r with
  | nil => rw [quo_cons_end]; simp; omega
  | cons d r =>
    have hd : d ≠ m := by
      intro e
      apply hp
      unfold pkc
      rw [List.getElem?_append_right (by omega)]
      simp [e]
    rw [quo_cons_stop hd]
    simp
    omega
theorem QAt.next {m : UInt8} {q : Option (List UInt8 × Nat)} {acc : List UInt8} {n i : Nat} {rest : List UInt8} (h : QAt m q acc n rest) (hi : Lib.indexByte rest m = (i : Int)) (hm : m ≠ 0) (hp : pkc rest (i + 1) = m) : QAt m q (acc ++ rest.take i ++ [m]) (n + (i + 2)) (rest.drop (i + 2)) ∧ i + 2 ≤ rest.length := by
  obtain ⟨a, r, rfl, ha, hn⟩ := ib_some hi (by omega)
  obtain rfl : a.length = i := by omega
  have ht : (a ++ m :: r).take a.length = a := by simp
  rw [ht]
  cases r with
  | nil =>
    unfold pkc at hp
    rw [List.getElem?_eq_none (by simp)] at hp
    exact absurd hp.symm hm
  | cons d r =>
    have hd : d = m := by
      unfold pkc at hp
      rw [List.getElem?_append_right (by omega)] at hp
      simpa using hp
    subst hd
    have hdr : (a ++ d :: d :: r).drop (a.length + 2) = r := by
      rw [List.drop_append, List.drop_eq_nil_of_le (by omega), List.nil_append, show a.length + 2 - a.length = 2 from by omega]
      rfl
    rw [hdr]
    refine ⟨?_, by simp⟩
    unfold QAt at h ⊢
    rw [h, quo_front _ hn, quo_cons_two]
    cases quo d r with
    | none => rfl
    | some p => simp; omega
theorem pkc_in' {l : List UInt8} {k : Nat} {c : UInt8} (h : pkc l k = c) (h0 : c ≠ 0) : l[k]? = some c := by
  subst h
  unfold pkc at h0 ⊢
  cases hl : l[k]? with
  | none => rw [hl] at h0; exact absurd rfl h0
  | some c => rfl
/-- What text gives. -/
def TextPost (w : World) (b k : Nat) (s : ByteArray) (t : Tk) (e : Ending) (w' : World) : Prop :=
  w.grownBy w' (some b) ∧
    ((¬ (pkc s.data.toList k = 34 ∨ pkc s.data.toList k = 39) ∧ e = .returned (.tuple #[.bool false, .int .i64 0]) ∧ LX w' b s k t) ∨
     ((pkc s.data.toList k = 34 ∨ pkc s.data.toList k = 39) ∧
       ((quo (pkc s.data.toList k) (s.data.toList.drop (k + 1)) = none ∧ e = .returned (.tuple #[.bool true, .int .i64 3]) ∧ ∃ k' t', LX w' b s k' t') ∨
        ∃ p, quo (pkc s.data.toList k) (s.data.toList.drop (k + 1)) = some p ∧ e = .returned (.tuple #[.bool true, .int .i64 0]) ∧ LX w' b s (k + (p.2 + 1)) ⟨3, p.1, 0, 0⟩)))
theorem text_no (b k : Nat) (s : ByteArray) (t : Tk) (w : World) (hs : (s.size : Int) ≤ 140737488355328) (hk : k ≤ s.size) (h : LX w b s k t) (c : UInt8) (hc : pkc s.data.toList k = c) (h1 : c ≠ 34) (h2 : c ≠ 39) :
    Calls Try.prog 80 #[.pointer (some ⟨b, 0, none⟩)] w (TextPost w b k s t) := by
  have CP : Hid (Calls Try.prog 77 #[.pointer (some ⟨b, 0, none⟩)] w fun e w' => e = .returned (.int .u8 (c.toNat : Int)) ∧ DrewOk w w') := by
    subst hc
    exact peek_any b 0 k s w hs hk h.line.1 h.line.2
  have d1 : ((c.toNat : Int) != 34) = true := by rw [bne, byte_ne h1 (z := 34) (by decide)]; rfl
  have d2 : ((c.toNat : Int) != 39) = true := by rw [bne, byte_ne h2 (z := 39) (by decide)]; rfl
  have HN : Hid (¬ (pkc s.data.toList k = 34 ∨ pkc s.data.toList k = 39)) := by
    rw [hc]
    exact fun h => h.elim h1 h2
  have H := Lib.hid h
  clear h hc h1 h2
  go_enter Try.func80, Try.ntmps80
  go_wp2_with (go_at_call 77; refine CP.out.mono ?_; rintro e w1 ⟨rfl, hd⟩; have D1 := Lib.hid hd; clear hd)
  go_ret2
  exact ⟨grown_drew (grown_refl w b) D1.out, .inl ⟨HN.out, rfl, H.out.drew D1.out⟩⟩
theorem bb_new (w : World) : BB (w.alloc (.cells #[.pointer none, .slice none 0 0] 89)) w.heap.size w.heap.size [] := Bld.fresh w
theorem grown_new (w : World) (o : Obj) (b : Nat) : w.grownBy (w.alloc o) (some b) := grownBy_below ((Below.refl _ _).alloc (Nat.le_refl _) o) _
theorem grown_bel {w W W' : World} {b : Nat} (h : w.grownBy W (some b)) (hb : Below w.heap.size W W') : w.grownBy W' (some b) :=
  ⟨hb.os.trans h.os, hb.tape.trans h.tape, hb.output.trans h.output, Nat.le_trans h.size hb.size, fun i hi hne => (hb.block i hi).trans (h.block i hi hne)⟩
set_option maxHeartbeats 2000000 in
theorem text_yes (b k : Nat) (s : ByteArray) (t : Tk) (w : World) (hs : (s.size : Int) ≤ 140737488355328) (h : LX w b s k t) (c : UInt8) (hc : pkc s.data.toList k = c) (h1 : c = 34 ∨ c = 39) :
    Calls Try.prog 80 #[.pointer (some ⟨b, 0, none⟩)] w (TextPost w b k s t) := by
  have hc0 : c ≠ 0 := by rcases h1 with h1 | h1 <;> (rw [h1]; decide)
  have hin := pkc_in' hc hc0
  have hlt := lt_at hin
  obtain ⟨l, hl⟩ : ∃ l, s.data.toList = l := ⟨_, rfl⟩
  have hLs : l.length = s.size := by rw [← hl]; exact str_len s
  rw [hl] at hlt hin
  have CP : Hid (Calls Try.prog 77 #[.pointer (some ⟨b, 0, none⟩)] w fun e w' => e = .returned (.int .u8 (c.toNat : Int)) ∧ DrewOk w w') := by
    subst hc
    exact peek_any b 0 k s w hs (by omega) h.line.1 h.line.2
  obtain ⟨q, hq⟩ : ∃ q, quo c (l.drop (k + 1)) = q := ⟨_, rfl⟩
  have HQ0 : Hid (QAt c q [] 0 (l.drop (k + 1))) := by show QAt _ _ _ _ _; rw [← hq]; exact QAt.start _ _
  have HE : Hid ((pkc s.data.toList k = 34 ∨ pkc s.data.toList k = 39) ∧ quo (pkc s.data.toList k) (s.data.toList.drop (k + 1)) = q) := by
    rw [hc, hl]
    exact ⟨h1, hq⟩
  have hcase : (((c.toNat : Int) != 34) = false) ∨ (((c.toNat : Int) != 34) = true ∧ ((c.toNat : Int) != 39) = false) := by
    rcases h1 with h1 | h1
    · exact .inl (by rw [h1]; rfl)
    · exact .inr ⟨by rw [h1]; rfl, by rw [h1]; rfl⟩
  have H := Lib.hid h
  have HC0 := Lib.hid hc0
  have HLs := Lib.hid hLs
  have HL := Lib.hid hl
  have hbw := Lib.hid h.lt
  have hks : k < s.size := by omega
  clear h hc h1 hc0 hl hLs hlt hin hq
  rcases hcase with d1 | ⟨d1, d2⟩
  · go_enter Try.func80, Try.ntmps80
    go_wp2_with (go_at_call 77; refine CP.out.mono ?_; rintro e w1 ⟨rfl, m, rfl⟩)
    go_loopw [] (fun wr => ∃ j acc, k ≤ j ∧ j < s.size ∧ Hid (LX wr b s j t) ∧ Hid (BB wr w.heap.size w.heap.size acc) ∧ Hid (QAt c q acc (j - k) (l.drop (j + 1))) ∧ Hid (w.grownBy wr (some b)) ∧ Hid (w.heap.size ≤ wr.heap.size) ∧ (acc.length : Int) + (k : Int) ≤ (j : Int)) (fun wr => s.size - atOf wr b)
    case atStart =>
      exact ⟨k, [], Nat.le_refl _, hks, H.out.after (w' := (w.drewN m).alloc _) ((below_drewN (Below.refl _ _) m).alloc (Nat.le_refl _) _), bb_new (w.drewN m), by show QAt _ _ _ _ _; rw [Nat.sub_self]; exact HQ0.out, grown_bel (grown_refl w b) ((below_drewN (Below.refl _ _) m).alloc (Nat.le_refl _) _), by show _ ≤ _; simp, by simp⟩
    case round =>
      obtain ⟨j, acc, hkj, hjs, hX, hB, hQ, hG, hW, hacc⟩ := hrel
      obtain ⟨c0, c1, _⟩ := hX.out.cell
      have f1 := hX.out.frozen 1
      have hji : (j : Int) < (s.size : Int) := by omega
      obtain ⟨R, hR⟩ : ∃ R, s.extract (j + 1) s.size = R := ⟨_, rfl⟩
      have hRl : R.data.toList = l.drop (j + 1) := by rw [← hR, ext_mid, HL.out, List.take_of_length_le (by rw [List.length_drop]; have := HLs.out; omega)]
      have hRs : R.size + (j + 1) = s.size := by rw [← str_len, hRl, List.length_drop]; have := HLs.out; omega
      have CT : Hid (∀ W : World, LX W b s (j + 1) t → Calls Try.prog 98 #[.pointer (some ⟨b, 0, none⟩)] W fun e w' => e = .returned (.string R) ∧ DrewOk W w') := fun W hW => by
        have := rest_any b 0 (j + 1) s W hs (by omega) hW.line.1 hW.line.2
        rw [hR] at this
        exact this
      obtain ⟨i, hi⟩ : ∃ i, Lib.indexByte R.data.toList c = i := ⟨_, rfl⟩
      have CI : Hid (∀ W : World, Calls Try.prog 94 #[.string R, .int .u8 (c.toNat : Int)] W fun e w' => e = .returned (.int .i64 i) ∧ w' = W) := fun W => by
        have := Try.strings_IndexByte R (c.toNat : Int) W
        have e2 : ((c.toNat : Int).toNat).toUInt8 = c := by simp
        rw [e2, hi] at this
        exact this
      have HX1 : Hid (LX (wr.setCell ⟨b, 1, none⟩ (.int .i64 ((j : Int) + 1))) b s (j + 1) t) := hX.out.to (j + 1) rfl
      have HG1 : Hid (w.grownBy (wr.setCell ⟨b, 1, none⟩ (.int .i64 ((j : Int) + 1))) (some b)) := grown_step hG.out 1 _
      have HB1 : Hid (BB (wr.setCell ⟨b, 1, none⟩ (.int .i64 ((j : Int) + 1))) w.heap.size w.heap.size acc) := hB.out.on (grownBy_set wr b 1 _) hbw.out
      rw [hRl] at hi
      by_cases hi0 : i < 0
      · have HQ : Hid (q = none) := hQ.out.none (by rw [hi]; exact hi0)
        clear hR hRl hRs hi
        go_wp2_with (first
          | (go_at_call 98; refine (CT.out _ HX1.out).mono ?_; rintro e w1 ⟨rfl, hd⟩; have D1 := Lib.hid hd; clear hd)
          | (go_at_call 94; refine (CI.out _).mono ?_; rintro e w1 ⟨rfl, rfl⟩))
        go_ret2
        exact ⟨grown_drew HG1.out D1.out, .inr ⟨HE.out.1, .inl ⟨HE.out.2.trans HQ.out, rfl, _, _, HX1.out.drew D1.out⟩⟩⟩
      · obtain ⟨n, rfl⟩ := Int.eq_ofNat_of_zero_le (show 0 ≤ i by omega)
        have hnR : n + 1 ≤ R.size := by
          obtain ⟨a, r, e1, e2, _⟩ := ib_some hi (by omega)
          rw [← str_len, hRl, e1, List.length_append, List.length_cons]
          omega
        obtain ⟨V, hV⟩ : ∃ V, R.extract 0 n = V := ⟨_, rfl⟩
        have hVl : V.data.toList = (l.drop (j + 1)).take n := by rw [← hV, ext_mid, hRl, List.drop_zero, Nat.sub_zero]
        have hVs : V.size = n := by rw [← str_len, hVl, List.length_take, ← hRl, str_len]; omega
        have hnRi : (n : Int) ≤ (R.size : Int) := by omega
        obtain ⟨K, hK⟩ : ∃ K, j + 1 + (n + 1) = K := ⟨_, rfl⟩
        have hKi : (j : Int) + 1 + ((n : Int) + 1) = (K : Int) := by omega
        have hKs : (K : Int) ≤ (s.size : Int) := by omega
        obtain ⟨acc1, ha1⟩ : ∃ acc1, acc ++ V.data.toList = acc1 := ⟨_, rfl⟩
        have hl1 : (acc1.length : Int) + (k : Int) ≤ (j : Int) + (n : Int) := by rw [← ha1, List.length_append, str_len]; omega
        have CW : Hid (∀ W : World, w.heap.size ≤ W.heap.size → BB W w.heap.size w.heap.size acc → Calls Try.prog 50 #[.pointer (some ⟨w.heap.size, 0, none⟩), .string V] W fun e w' => e = .returned (.tuple #[.int .i64 (V.size : Int), .nilIface]) ∧ BB w' w.heap.size w.heap.size acc1 ∧ Below w.heap.size W w') := fun W h1 h2 => by
          have := bb_wstr w.heap.size w.heap.size acc V W h2 (by omega) h1
          rw [ha1] at this
          exact this
        obtain ⟨p, hp⟩ : ∃ p, pkc l K = p := ⟨_, rfl⟩
        have CK : Hid (∀ W : World, LX W b s K t → Calls Try.prog 77 #[.pointer (some ⟨b, 0, none⟩)] W fun e w' => e = .returned (.int .u8 (p.toNat : Int)) ∧ ∃ m, w' = W.drewN m) := fun W h1 => by
          have := peek_any b 0 K s W hs (by omega) h1.line.1 h1.line.2
          rw [HL.out, hp] at this
          exact this
        have hpr : pkc (l.drop (j + 1)) (n + 1) = p := by rw [← hp, ← hK]; unfold pkc; rw [List.getElem?_drop]
        by_cases hpc : p = c
        · subst hpc
          obtain ⟨hQ2, hn2⟩ := hQ.out.next hi HC0.out hpr
          have hKs2 : K < s.size := by rw [List.length_drop] at hn2; have := HLs.out; omega
          have hKs3 : (K : Int) < (s.size : Int) := by omega
          have HQ : Hid (QAt p q (acc1 ++ [p]) (K - k) (l.drop (K + 1))) := by
            show QAt _ _ _ _ _
            rw [← hVl, ha1, List.drop_drop] at hQ2
            rw [show K - k = j - k + (n + 2) from by omega, show K + 1 = j + 1 + (n + 2) from by omega]
            exact hQ2
          have hkK : k ≤ K := by omega
          have hlen : ((acc1 ++ [p]).length : Int) + (k : Int) ≤ (K : Int) := by rw [List.length_append]; simp only [List.length_cons, List.length_nil]; omega
          have HM := Lib.hid hX.out.place
          have hjK : j < K := by omega
          have CB : Hid (∀ W : World, w.heap.size ≤ W.heap.size → BB W w.heap.size w.heap.size acc1 → Calls Try.prog 49 #[.pointer (some ⟨w.heap.size, 0, none⟩), .int .u8 (p.toNat : Int)] W fun e w' => e = .returned .nilIface ∧ BB w' w.heap.size w.heap.size (acc1 ++ [p]) ∧ Below w.heap.size W w') := fun W h1 h2 => bb_wbyte _ _ _ p W h2 (by omega) h1
          clear hR hRl hRs hi hVl hVs ha1 hp hpr hi0 hacc hl1 hQ2 hn2
          go_wp2_with (first
            | (go_at_call 98; (with_reducible refine (CT.out _ HX1.out).mono ?_); rintro e w1 ⟨rfl, hd⟩; have X1 := Lib.hid (HX1.out.drew hd); have G1 := Lib.hid (grown_drew HG1.out hd); have B1 := Lib.hid (HB1.out.drew hd); clear hd HX1)
            | (go_at_call 94; refine (CI.out _).mono ?_; rintro e w1 ⟨rfl, rfl⟩)
            | (go_at_call 98; refine (CT.out _ X1.out).mono ?_; rintro e w2 ⟨rfl, hd⟩; have X2 := Lib.hid (X1.out.drew hd); have G2 := Lib.hid (grown_drew G1.out hd); have B2 := Lib.hid (B1.out.drew hd); clear hd)
            | (go_at_call 50; refine (CW.out _ G2.out.size B2.out).mono ?_; rintro e w3 ⟨rfl, hbb, hbe⟩; have X3' := X2.out.keep (hbe.block b hbw.out); obtain ⟨e0, e1, _⟩ := X3'.cell; have g1 := X3'.frozen 1; have X3 := Lib.hid (X3'.to (v := .int .i64 (K : Int)) K rfl); have H3 := Lib.hid hbe.size; have G3 := Lib.hid (grown_bel G2.out hbe); have B3 := Lib.hid hbb; clear hbb hbe X3' c0 c1 f1))
          go_quiet ((go_at_call 77; exact Calls.quiet_of (CK.out _ (X3.out.heap rfl))))
          have X4 : Hid (LX ((w3.setCell ⟨b, 1, none⟩ (.int .i64 (K : Int))).drewN nq) b s K t) := X3.out.heap rfl
          have B4 : Hid (BB ((w3.setCell ⟨b, 1, none⟩ (.int .i64 (K : Int))).drewN nq) w.heap.size w.heap.size acc1) := (B3.out.on (grownBy_set w3 b 1 _) hbw.out).heap rfl
          have G4 : Hid (w.grownBy ((w3.setCell ⟨b, 1, none⟩ (.int .i64 (K : Int))).drewN nq) (some b)) := grownBy_drewN (grown_step G3.out 1 _) nq
          go_wp2_with (go_at_call 49; refine (CB.out _ G4.out.size B4.out).mono ?_; rintro e w5 ⟨rfl, hbb, hbe⟩; have X5 := Lib.hid (X4.out.keep (hbe.block b hbw.out)); have B5 := Lib.hid hbb; have G5 := Lib.hid (grown_bel G4.out hbe); clear hbb hbe)
          go_round
          case rel => exact ⟨K, _, hkK, hKs2, X5.out, B5.out, HQ.out, G5.out, G5.out.size, hlen⟩
          case measure => rw [X5.out.place, HM.out]; omega
        · have d3 : ((p.toNat : Int) != (c.toNat : Int)) = true := by rw [bne, byte_ne hpc rfl]; rfl
          have HQ : Hid (q = some (acc1, j - k + (n + 1))) := by
            have := hQ.out.done hi (by rw [hpr]; exact hpc)
            rw [← ha1, hVl]
            exact this
          have HK : Hid (k + (j - k + (n + 1) + 1) = K) := by show _ = _; omega
          have CS : Hid (∀ W : World, w.heap.size ≤ W.heap.size → BB W w.heap.size w.heap.size acc1 → Calls Try.prog 51 #[.pointer (some ⟨w.heap.size, 0, none⟩)] W fun e w' => e = .returned (.string ⟨acc1.toArray⟩) ∧ Below w.heap.size W w') := fun W h1 h2 => bb_string _ _ _ W h2 h1
          obtain ⟨S, hS⟩ : ∃ S : ByteArray, (⟨acc1.toArray⟩ : ByteArray) = S := ⟨_, rfl⟩
          have HS := Lib.hid hS
          rw [hS] at CS
          clear hR hRl hRs hi hVl hVs ha1 hp hpr hpc hS hi0 hacc hl1
          go_wp2_with (first
            | (go_at_call 98; (with_reducible refine (CT.out _ HX1.out).mono ?_); rintro e w1 ⟨rfl, hd⟩; have X1 := Lib.hid (HX1.out.drew hd); have G1 := Lib.hid (grown_drew HG1.out hd); have B1 := Lib.hid (HB1.out.drew hd); clear hd HX1)
            | (go_at_call 94; refine (CI.out _).mono ?_; rintro e w1 ⟨rfl, rfl⟩)
            | (go_at_call 98; refine (CT.out _ X1.out).mono ?_; rintro e w2 ⟨rfl, hd⟩; have X2 := Lib.hid (X1.out.drew hd); have G2 := Lib.hid (grown_drew G1.out hd); have B2 := Lib.hid (B1.out.drew hd); clear hd)
            | (go_at_call 50; refine (CW.out _ G2.out.size B2.out).mono ?_; rintro e w3 ⟨rfl, hbb, hbe⟩; have X3' := X2.out.keep (hbe.block b hbw.out); obtain ⟨e0, e1, _⟩ := X3'.cell; have g1 := X3'.frozen 1; have X3 := Lib.hid (X3'.to (v := .int .i64 (K : Int)) K rfl); have H3 := Lib.hid hbe.size; have G3 := Lib.hid (grown_bel G2.out hbe); have B3 := Lib.hid hbb; clear hbb hbe X3' c0 c1 f1))
          go_quiet ((go_at_call 77; exact Calls.quiet_of (CK.out _ (X3.out.heap rfl))))
          have X4 : Hid (LX ((w3.setCell ⟨b, 1, none⟩ (.int .i64 (K : Int))).drewN nq) b s K t) := X3.out.heap rfl
          have B4 : Hid (BB ((w3.setCell ⟨b, 1, none⟩ (.int .i64 (K : Int))).drewN nq) w.heap.size w.heap.size acc1) := (B3.out.on (grownBy_set w3 b 1 _) hbw.out).heap rfl
          have G4 : Hid (w.grownBy ((w3.setCell ⟨b, 1, none⟩ (.int .i64 (K : Int))).drewN nq) (some b)) := grownBy_drewN (grown_step G3.out 1 _) nq
          go_wp2_with (go_at_call 51; refine (CS.out _ G4.out.size B4.out).mono ?_; rintro e w5 ⟨rfl, hbe⟩; have X5' := X4.out.keep (hbe.block b hbw.out); obtain ⟨z0, z1, z2, z3, z4, z5⟩ := X5'.cell; have q2 := X5'.frozen 2; have q3 := X5'.frozen 3; have q4 := X5'.frozen 4; have q5 := X5'.frozen 5; have X5 := Lib.hid X5'; have G5 := Lib.hid (grown_bel G4.out hbe); clear X5' hbe)
          go_ret2
          exact ⟨grown_tok G5.out _ _ _ _, .inr ⟨HE.out.1, .inr ⟨(acc1, j - k + (n + 1)), HE.out.2.trans HQ.out, rfl, by rw [HK.out]; exact X5.out.tok ⟨3, acc1, 0, 0⟩ rfl (by rw [HS.out]) rfl rfl⟩⟩⟩
  · go_enter Try.func80, Try.ntmps80
    go_wp2_with (go_at_call 77; refine CP.out.mono ?_; rintro e w1 ⟨rfl, m, rfl⟩)
    go_loopw [] (fun wr => ∃ j acc, k ≤ j ∧ j < s.size ∧ Hid (LX wr b s j t) ∧ Hid (BB wr w.heap.size w.heap.size acc) ∧ Hid (QAt c q acc (j - k) (l.drop (j + 1))) ∧ Hid (w.grownBy wr (some b)) ∧ Hid (w.heap.size ≤ wr.heap.size) ∧ (acc.length : Int) + (k : Int) ≤ (j : Int)) (fun wr => s.size - atOf wr b)
    case atStart =>
      exact ⟨k, [], Nat.le_refl _, hks, H.out.after (w' := (w.drewN m).alloc _) ((below_drewN (Below.refl _ _) m).alloc (Nat.le_refl _) _), bb_new (w.drewN m), by show QAt _ _ _ _ _; rw [Nat.sub_self]; exact HQ0.out, grown_bel (grown_refl w b) ((below_drewN (Below.refl _ _) m).alloc (Nat.le_refl _) _), by show _ ≤ _; simp, by simp⟩
    case round =>
      obtain ⟨j, acc, hkj, hjs, hX, hB, hQ, hG, hW, hacc⟩ := hrel
      obtain ⟨c0, c1, _⟩ := hX.out.cell
      have f1 := hX.out.frozen 1
      have hji : (j : Int) < (s.size : Int) := by omega
      obtain ⟨R, hR⟩ : ∃ R, s.extract (j + 1) s.size = R := ⟨_, rfl⟩
      have hRl : R.data.toList = l.drop (j + 1) := by rw [← hR, ext_mid, HL.out, List.take_of_length_le (by rw [List.length_drop]; have := HLs.out; omega)]
      have hRs : R.size + (j + 1) = s.size := by rw [← str_len, hRl, List.length_drop]; have := HLs.out; omega
      have CT : Hid (∀ W : World, LX W b s (j + 1) t → Calls Try.prog 98 #[.pointer (some ⟨b, 0, none⟩)] W fun e w' => e = .returned (.string R) ∧ DrewOk W w') := fun W hW => by
        have := rest_any b 0 (j + 1) s W hs (by omega) hW.line.1 hW.line.2
        rw [hR] at this
        exact this
      obtain ⟨i, hi⟩ : ∃ i, Lib.indexByte R.data.toList c = i := ⟨_, rfl⟩
      have CI : Hid (∀ W : World, Calls Try.prog 94 #[.string R, .int .u8 (c.toNat : Int)] W fun e w' => e = .returned (.int .i64 i) ∧ w' = W) := fun W => by
        have := Try.strings_IndexByte R (c.toNat : Int) W
        have e2 : ((c.toNat : Int).toNat).toUInt8 = c := by simp
        rw [e2, hi] at this
        exact this
      have HX1 : Hid (LX (wr.setCell ⟨b, 1, none⟩ (.int .i64 ((j : Int) + 1))) b s (j + 1) t) := hX.out.to (j + 1) rfl
      have HG1 : Hid (w.grownBy (wr.setCell ⟨b, 1, none⟩ (.int .i64 ((j : Int) + 1))) (some b)) := grown_step hG.out 1 _
      have HB1 : Hid (BB (wr.setCell ⟨b, 1, none⟩ (.int .i64 ((j : Int) + 1))) w.heap.size w.heap.size acc) := hB.out.on (grownBy_set wr b 1 _) hbw.out
      rw [hRl] at hi
      by_cases hi0 : i < 0
      · have HQ : Hid (q = none) := hQ.out.none (by rw [hi]; exact hi0)
        clear hR hRl hRs hi
        go_wp2_with (first
          | (go_at_call 98; refine (CT.out _ HX1.out).mono ?_; rintro e w1 ⟨rfl, hd⟩; have D1 := Lib.hid hd; clear hd)
          | (go_at_call 94; refine (CI.out _).mono ?_; rintro e w1 ⟨rfl, rfl⟩))
        go_ret2
        exact ⟨grown_drew HG1.out D1.out, .inr ⟨HE.out.1, .inl ⟨HE.out.2.trans HQ.out, rfl, _, _, HX1.out.drew D1.out⟩⟩⟩
      · obtain ⟨n, rfl⟩ := Int.eq_ofNat_of_zero_le (show 0 ≤ i by omega)
        have hnR : n + 1 ≤ R.size := by
          obtain ⟨a, r, e1, e2, _⟩ := ib_some hi (by omega)
          rw [← str_len, hRl, e1, List.length_append, List.length_cons]
          omega
        obtain ⟨V, hV⟩ : ∃ V, R.extract 0 n = V := ⟨_, rfl⟩
        have hVl : V.data.toList = (l.drop (j + 1)).take n := by rw [← hV, ext_mid, hRl, List.drop_zero, Nat.sub_zero]
        have hVs : V.size = n := by rw [← str_len, hVl, List.length_take, ← hRl, str_len]; omega
        have hnRi : (n : Int) ≤ (R.size : Int) := by omega
        obtain ⟨K, hK⟩ : ∃ K, j + 1 + (n + 1) = K := ⟨_, rfl⟩
        have hKi : (j : Int) + 1 + ((n : Int) + 1) = (K : Int) := by omega
        have hKs : (K : Int) ≤ (s.size : Int) := by omega
        obtain ⟨acc1, ha1⟩ : ∃ acc1, acc ++ V.data.toList = acc1 := ⟨_, rfl⟩
        have hl1 : (acc1.length : Int) + (k : Int) ≤ (j : Int) + (n : Int) := by rw [← ha1, List.length_append, str_len]; omega
        have CW : Hid (∀ W : World, w.heap.size ≤ W.heap.size → BB W w.heap.size w.heap.size acc → Calls Try.prog 50 #[.pointer (some ⟨w.heap.size, 0, none⟩), .string V] W fun e w' => e = .returned (.tuple #[.int .i64 (V.size : Int), .nilIface]) ∧ BB w' w.heap.size w.heap.size acc1 ∧ Below w.heap.size W w') := fun W h1 h2 => by
          have := bb_wstr w.heap.size w.heap.size acc V W h2 (by omega) h1
          rw [ha1] at this
          exact this
        obtain ⟨p, hp⟩ : ∃ p, pkc l K = p := ⟨_, rfl⟩
        have CK : Hid (∀ W : World, LX W b s K t → Calls Try.prog 77 #[.pointer (some ⟨b, 0, none⟩)] W fun e w' => e = .returned (.int .u8 (p.toNat : Int)) ∧ ∃ m, w' = W.drewN m) := fun W h1 => by
          have := peek_any b 0 K s W hs (by omega) h1.line.1 h1.line.2
          rw [HL.out, hp] at this
          exact this
        have hpr : pkc (l.drop (j + 1)) (n + 1) = p := by rw [← hp, ← hK]; unfold pkc; rw [List.getElem?_drop]
        by_cases hpc : p = c
        · subst hpc
          obtain ⟨hQ2, hn2⟩ := hQ.out.next hi HC0.out hpr
          have hKs2 : K < s.size := by rw [List.length_drop] at hn2; have := HLs.out; omega
          have hKs3 : (K : Int) < (s.size : Int) := by omega
          have HQ : Hid (QAt p q (acc1 ++ [p]) (K - k) (l.drop (K + 1))) := by
            show QAt _ _ _ _ _
            rw [← hVl, ha1, List.drop_drop] at hQ2
            rw [show K - k = j - k + (n + 2) from by omega, show K + 1 = j + 1 + (n + 2) from by omega]
            exact hQ2
          have hkK : k ≤ K := by omega
          have hlen : ((acc1 ++ [p]).length : Int) + (k : Int) ≤ (K : Int) := by rw [List.length_append]; simp only [List.length_cons, List.length_nil]; omega
          have HM := Lib.hid hX.out.place
          have hjK : j < K := by omega
          have CB : Hid (∀ W : World, w.heap.size ≤ W.heap.size → BB W w.heap.size w.heap.size acc1 → Calls Try.prog 49 #[.pointer (some ⟨w.heap.size, 0, none⟩), .int .u8 (p.toNat : Int)] W fun e w' => e = .returned .nilIface ∧ BB w' w.heap.size w.heap.size (acc1 ++ [p]) ∧ Below w.heap.size W w') := fun W h1 h2 => bb_wbyte _ _ _ p W h2 (by omega) h1
          clear hR hRl hRs hi hVl hVs ha1 hp hpr hi0 hacc hl1 hQ2 hn2
          go_wp2_with (first
            | (go_at_call 98; (with_reducible refine (CT.out _ HX1.out).mono ?_); rintro e w1 ⟨rfl, hd⟩; have X1 := Lib.hid (HX1.out.drew hd); have G1 := Lib.hid (grown_drew HG1.out hd); have B1 := Lib.hid (HB1.out.drew hd); clear hd HX1)
            | (go_at_call 94; refine (CI.out _).mono ?_; rintro e w1 ⟨rfl, rfl⟩)
            | (go_at_call 98; refine (CT.out _ X1.out).mono ?_; rintro e w2 ⟨rfl, hd⟩; have X2 := Lib.hid (X1.out.drew hd); have G2 := Lib.hid (grown_drew G1.out hd); have B2 := Lib.hid (B1.out.drew hd); clear hd)
            | (go_at_call 50; refine (CW.out _ G2.out.size B2.out).mono ?_; rintro e w3 ⟨rfl, hbb, hbe⟩; have X3' := X2.out.keep (hbe.block b hbw.out); obtain ⟨e0, e1, _⟩ := X3'.cell; have g1 := X3'.frozen 1; have X3 := Lib.hid (X3'.to (v := .int .i64 (K : Int)) K rfl); have H3 := Lib.hid hbe.size; have G3 := Lib.hid (grown_bel G2.out hbe); have B3 := Lib.hid hbb; clear hbb hbe X3' c0 c1 f1))
          go_quiet ((go_at_call 77; exact Calls.quiet_of (CK.out _ (X3.out.heap rfl))))
          have X4 : Hid (LX ((w3.setCell ⟨b, 1, none⟩ (.int .i64 (K : Int))).drewN nq) b s K t) := X3.out.heap rfl
          have B4 : Hid (BB ((w3.setCell ⟨b, 1, none⟩ (.int .i64 (K : Int))).drewN nq) w.heap.size w.heap.size acc1) := (B3.out.on (grownBy_set w3 b 1 _) hbw.out).heap rfl
          have G4 : Hid (w.grownBy ((w3.setCell ⟨b, 1, none⟩ (.int .i64 (K : Int))).drewN nq) (some b)) := grownBy_drewN (grown_step G3.out 1 _) nq
          go_wp2_with (go_at_call 49; refine (CB.out _ G4.out.size B4.out).mono ?_; rintro e w5 ⟨rfl, hbb, hbe⟩; have X5 := Lib.hid (X4.out.keep (hbe.block b hbw.out)); have B5 := Lib.hid hbb; have G5 := Lib.hid (grown_bel G4.out hbe); clear hbb hbe)
          go_round
          case rel => exact ⟨K, _, hkK, hKs2, X5.out, B5.out, HQ.out, G5.out, G5.out.size, hlen⟩
          case measure => rw [X5.out.place, HM.out]; omega
        · have d3 : ((p.toNat : Int) != (c.toNat : Int)) = true := by rw [bne, byte_ne hpc rfl]; rfl
          have HQ : Hid (q = some (acc1, j - k + (n + 1))) := by
            have := hQ.out.done hi (by rw [hpr]; exact hpc)
            rw [← ha1, hVl]
            exact this
          have HK : Hid (k + (j - k + (n + 1) + 1) = K) := by show _ = _; omega
          have CS : Hid (∀ W : World, w.heap.size ≤ W.heap.size → BB W w.heap.size w.heap.size acc1 → Calls Try.prog 51 #[.pointer (some ⟨w.heap.size, 0, none⟩)] W fun e w' => e = .returned (.string ⟨acc1.toArray⟩) ∧ Below w.heap.size W w') := fun W h1 h2 => bb_string _ _ _ W h2 h1
          obtain ⟨S, hS⟩ : ∃ S : ByteArray, (⟨acc1.toArray⟩ : ByteArray) = S := ⟨_, rfl⟩
          have HS := Lib.hid hS
          rw [hS] at CS
          clear hR hRl hRs hi hVl hVs ha1 hp hpr hpc hS hi0 hacc hl1
          go_wp2_with (first
            | (go_at_call 98; (with_reducible refine (CT.out _ HX1.out).mono ?_); rintro e w1 ⟨rfl, hd⟩; have X1 := Lib.hid (HX1.out.drew hd); have G1 := Lib.hid (grown_drew HG1.out hd); have B1 := Lib.hid (HB1.out.drew hd); clear hd HX1)
            | (go_at_call 94; refine (CI.out _).mono ?_; rintro e w1 ⟨rfl, rfl⟩)
            | (go_at_call 98; refine (CT.out _ X1.out).mono ?_; rintro e w2 ⟨rfl, hd⟩; have X2 := Lib.hid (X1.out.drew hd); have G2 := Lib.hid (grown_drew G1.out hd); have B2 := Lib.hid (B1.out.drew hd); clear hd)
            | (go_at_call 50; refine (CW.out _ G2.out.size B2.out).mono ?_; rintro e w3 ⟨rfl, hbb, hbe⟩; have X3' := X2.out.keep (hbe.block b hbw.out); obtain ⟨e0, e1, _⟩ := X3'.cell; have g1 := X3'.frozen 1; have X3 := Lib.hid (X3'.to (v := .int .i64 (K : Int)) K rfl); have H3 := Lib.hid hbe.size; have G3 := Lib.hid (grown_bel G2.out hbe); have B3 := Lib.hid hbb; clear hbb hbe X3' c0 c1 f1))
          go_quiet ((go_at_call 77; exact Calls.quiet_of (CK.out _ (X3.out.heap rfl))))
          have X4 : Hid (LX ((w3.setCell ⟨b, 1, none⟩ (.int .i64 (K : Int))).drewN nq) b s K t) := X3.out.heap rfl
          have B4 : Hid (BB ((w3.setCell ⟨b, 1, none⟩ (.int .i64 (K : Int))).drewN nq) w.heap.size w.heap.size acc1) := (B3.out.on (grownBy_set w3 b 1 _) hbw.out).heap rfl
          have G4 : Hid (w.grownBy ((w3.setCell ⟨b, 1, none⟩ (.int .i64 (K : Int))).drewN nq) (some b)) := grownBy_drewN (grown_step G3.out 1 _) nq
          go_wp2_with (go_at_call 51; refine (CS.out _ G4.out.size B4.out).mono ?_; rintro e w5 ⟨rfl, hbe⟩; have X5' := X4.out.keep (hbe.block b hbw.out); obtain ⟨z0, z1, z2, z3, z4, z5⟩ := X5'.cell; have q2 := X5'.frozen 2; have q3 := X5'.frozen 3; have q4 := X5'.frozen 4; have q5 := X5'.frozen 5; have X5 := Lib.hid X5'; have G5 := Lib.hid (grown_bel G4.out hbe); clear X5' hbe)
          go_ret2
          exact ⟨grown_tok G5.out _ _ _ _, .inr ⟨HE.out.1, .inr ⟨(acc1, j - k + (n + 1)), HE.out.2.trans HQ.out, rfl, by rw [HK.out]; exact X5.out.tok ⟨3, acc1, 0, 0⟩ rfl (by rw [HS.out]) rfl rfl⟩⟩⟩
theorem text_any_lex (b k : Nat) (s : ByteArray) (t : Tk) (w : World) (hs : (s.size : Int) ≤ 140737488355328) (hk : k ≤ s.size) (h : LX w b s k t) :
    Calls Try.prog 80 #[.pointer (some ⟨b, 0, none⟩)] w (TextPost w b k s t) := by
  by_cases hd : pkc s.data.toList k = 34 ∨ pkc s.data.toList k = 39
  · exact text_yes b k s t w hs h _ rfl hd
  · exact text_no b k s t w hs hk h _ rfl (fun h => hd (.inl h)) (fun h => hd (.inr h))
end Go.Proofs.Ytilfbnfejnjaeaa
