/- The walk of the statement LexPrints. -/
import Derived.Test.YtilfbnfejnjaeaaDoorLrprint
namespace Go.Proofs.YtilfbnfejnjaeaaDoor
open Go.RowKit

theorem seq_same (s : ByteArray) : (s.toList == s.toList) = true := beq_self_eq_true _
/-- Two tokens agree by the function f. -/
def Agree (f : FuncId) (x y : Tk) : Prop := ∀ W : World, Calls Tryd.prog f #[.agg #[.int .i64 (x.kind : Int), .string ⟨x.text.toArray⟩, .int .i64 (x.n : Int), .int .i64 (x.at_ : Int)], .agg #[.int .i64 (y.kind : Int), .string ⟨y.text.toArray⟩, .int .i64 (y.n : Int), .int .i64 (y.at_ : Int)]] W fun e w' => e = .returned (.bool true) ∧ Below W.heap.size W w'
set_option maxHeartbeats 1000000 in
theorem prints1_agree (x y : Tk) (h : x.kind = y.kind ∧ x.text = y.text ∧ x.n = y.n) : Agree 37 x y := fun W => by
  obtain ⟨kx, tx, nx, ax⟩ := x
  obtain ⟨ky, ty, ny, ay⟩ := y
  obtain ⟨rfl, rfl, rfl⟩ := h
  obtain ⟨S, hS⟩ : ∃ S : ByteArray, (⟨tx.toArray⟩ : ByteArray) = S := ⟨_, rfl⟩
  rw [hS]
  have hs := seq_same S
  clear hS
  go_enter Tryd.func37, Tryd.ntmps37
  go_wp2
  go_ret
  exact ⟨by first | rfl | simp, ((Below.refl W.heap.size W).alloc (Nat.le_refl _) _).alloc (by simp) _⟩
theorem box_on {n : Nat} {w w1 : World} {o : Obj} (h : Below (w.alloc o).heap.size (w.alloc o) w1) (hn : n ≤ w.heap.size) : Below n w w1 := (((Below.refl _ _).alloc (Nat.le_refl _) o).trans (h.mono (by simp))).mono hn
set_option maxHeartbeats 4000000 in
theorem eqf2_any (A A' : Option Addr) (ts us : List Tk) (c c' n : Nat) (w : World) (p p' : Nat → Prop) (hn : ts.length = n) (hn' : us.length = n) (hm : (n : Int) ≤ 140737488355328) (h : Rd w p A (tcs ts)) (h' : Rd w p' A' (tcs us))
    (hC : ∀ (k : Nat) (x y : Tk), ts[k]? = some x → us[k]? = some y → Agree 37 x y) :
    Calls Tryd.prog 36 #[.slice A n c, .slice A' n c', .func (.func 37) #[] #[]] w fun e w' => e = .returned (.bool true) ∧ Below w.heap.size w w' := by
  have H := Lib.hid h
  have H' := Lib.hid h'
  have HN := Lib.hid hn
  have HN' := Lib.hid hn'
  have HC := Lib.hid hC
  clear h h' hn hn' hC
  go_enter Tryd.func36, Tryd.ntmps36
  go_wp2
  go_loopw [17] (fun v wr => ∃ k : Nat, v = .int .i64 (k : Int) ∧ k ≤ n ∧ Hid (Below w.heap.size w wr)) (fun v _ => n - (intOf v).toNat)
  case atStart => exact ⟨0, rfl, Nat.zero_le _, Below.refl _ _⟩
  case round =>
    obtain ⟨k, rfl, hk, hB⟩ := hrel
    by_cases hlt : k < n
    · have h1 : k < ts.length := by rw [HN.out]; exact hlt
      have h2 : k < us.length := by rw [HN'.out]; exact hlt
      obtain ⟨x, hx⟩ : ∃ x, ts[k]? = some x := ⟨_, List.getElem?_eq_getElem h1⟩
      obtain ⟨y, hy⟩ : ∃ y, us[k]? = some y := ⟨_, List.getElem?_eq_getElem h2⟩
      obtain ⟨b, o, rfl, c0, c1, c2, c3⟩ := (H.out.after hB.out).tok hx
      obtain ⟨b', o', rfl, d0, d1, d2, d3⟩ := (H'.out.after hB.out).tok hy
      have lb := lt_of_cell c0
      have lb' := lt_of_cell d0
      have C := Lib.hid (HC.out k x y hx hy)
      clear hx hy h1 h2
      go_wp2_with (go_at_call 37; refine (C.out _).mono ?_; rintro e w1 ⟨rfl, hb⟩; have B1 := Lib.hid (hB.out.trans (box_on (n := w.heap.size) (((Below.refl _ _).alloc (Nat.le_refl _) _).trans (hb.mono (by simp))) hB.out.size)); clear hb)
      go_round
      case rel => exact ⟨k + 1, by go_num, by omega, B1.out⟩
      case measure => simp [intOf]; omega
    · obtain rfl : k = n := by omega
      go_wp2
      go_ret
      exact ⟨rfl, hB.out⟩
theorem el_rtok : El Tryd.prog 50 51 (.agg #[.int .i64 0, .string ⟨#[]⟩, .int .i64 0, .int .i64 0]) 4 40 := ⟨Tryd.underlying50, by kernel_rfl, rfl, by decide⟩
theorem lprints_long (s : ByteArray) (w : World) (h : 300 < (s.size : Int)) :
    Calls Tryd.prog 10 #[.string s] w fun e w' => e = .returned (.bool true) ∧ Below w.heap.size w w' := by
  have C3 := Lib.hid (alive16_any w)
  go_enter Tryd.func10, Tryd.ntmps10
  go_wp2_with (go_at_call 29; refine C3.out.mono ?_; rintro e w3 ⟨rfl, hb⟩; have B3 := Lib.hid hb; clear hb)
  go_ret
  exact ⟨rfl, B3.out⟩
theorem lprints_err (s : ByteArray) (w : World) (hs : (s.size : Int) ≤ 300) (c : Nat) (hc : tokens s.data.toList = .error c) :
    Calls Tryd.prog 10 #[.string s] w fun e w' => e = .returned (.bool true) ∧ Below w.heap.size w w' := by
  have C1 : Hid (∀ W : World, Calls Tryd.prog 33 #[.string s] W fun e w' => e = .returned (.tuple #[.slice none 0 0, .int .i64 (c : Int)]) ∧ 1 ≤ c ∧ Below W.heap.size W w') := fun W => (tokens_any s W (by omega)).mono fun e w' ⟨hb, h⟩ => by
    rw [hc] at h
    rcases h with ⟨c', h, h1, h2⟩ | ⟨ts, A, cap, h, _⟩
    · injection h with h
      subst h
      exact ⟨h2, h1, hb⟩
    · cases h
  have C3 : Hid (∀ W : World, Calls Tryd.prog 29 #[] W fun e w' => e = .returned (.bool true) ∧ Below W.heap.size W w') := fun W => alive16_any W
  clear hc
  go_enter Tryd.func10, Tryd.ntmps10
  go_wp2_with (first
    | (go_at_call 33; refine (C1.out _).mono ?_; rintro e w1 ⟨rfl, h1, hb⟩; have d1 : ((c : Int) != 0) = true := bne_iff_ne.2 (by omega); have B1 := Lib.hid hb; clear hb h1)
    | (go_at_call 29; refine (C3.out _).mono ?_; rintro e w3 ⟨rfl, hb⟩; have B3 := Lib.hid (B1.out.trans (hb.mono B1.out.size)); clear hb))
  go_ret
  exact ⟨rfl, B3.out⟩
set_option maxHeartbeats 8000000 in
theorem lprints_ok (s : ByteArray) (w : World) (hs : (s.size : Int) ≤ 300) (ts : List Tk) (hts : tokens s.data.toList = .ok ts) (hT : T16 w) (hM : HasM w) :
    Calls Tryd.prog 10 #[.string s] w fun e w' => e = .returned (.bool true) ∧ Below w.heap.size w w' := by
  have hsl := str_len s
  obtain ⟨us, hus, hst⟩ := tokens_again hts (by omega)
  have htk : toks (s.data.toList.length + 1) s.data.toList 0 = .ok ts := by
    unfold tokens at hts
    rw [if_neg (by omega)] at hts
    exact hts
  obtain ⟨k1, k2, k3⟩ := prL_len _ _ _ _ htk
  have hne := toks_ne htk
  obtain ⟨n, hn⟩ : ∃ n, ts.length = n := ⟨_, rfl⟩
  have hnpos : 0 < n := by rw [← hn]; exact List.length_pos_iff.2 hne
  have hnle : n ≤ 301 := by
    have key : ∀ (f : Nat) (l : List UInt8) (k : Nat) (ts : List Tk), toks f l k = .ok ts → ts.length ≤ f := by
      intro f
      induction f with
      | zero => intro l k ts h; cases h
      | succ f ih =>
        intro l k ts h
        rw [toks_step] at h
        split at h
        · injection h with h; subst h; simp
        · cases ht : tok1 (l.drop (blankLen l)) (k + blankLen l) with
          | error e => rw [ht] at h; cases h
          | ok p =>
            rw [ht] at h
            dsimp only at h
            cases hu : toks f ((l.drop (blankLen l)).drop p.2) (k + blankLen l + p.2) with
            | error e => rw [hu] at h; cases h
            | ok us =>
              rw [hu] at h
              injection h with h
              subst h
              have := ih _ _ _ hu
              rw [List.length_cons]
              omega
    have := key _ _ _ _ htk
    omega
  have hun : us.length = n := by
    have := congrArg List.length hst
    rw [List.length_map, List.length_map] at this
    omega
  obtain ⟨R, hR⟩ : ∃ R : ByteArray, (⟨(prL ts).toArray⟩ : ByteArray) = R := ⟨_, rfl⟩
  have hRl : R.data.toList = prL ts := by rw [← hR]
  have hRs : (R.size : Int) ≤ 1000 := by rw [← str_len, hRl]; omega
  have C1 : Hid (∀ W : World, Calls Tryd.prog 33 #[.string s] W fun e w' => ∃ A cap, e = .returned (.tuple #[.slice A n cap, .int .i64 0]) ∧ Rd w' (fun q => W.heap.size ≤ q) A (tcs ts) ∧ Below W.heap.size W w') := fun W => (tokens_any s W (by omega)).mono fun e w' ⟨hb, h⟩ => by
    rw [hts] at h
    rcases h with ⟨c', h, h1, h2⟩ | ⟨ts', A, cap, h, he, hr⟩
    · cases h
    · injection h with h
      subst h
      rw [hn] at he
      exact ⟨A, cap, he, hr, hb⟩
  have C2 : Hid (∀ W : World, Calls Tryd.prog 33 #[.string R] W fun e w' => ∃ A cap, e = .returned (.tuple #[.slice A n cap, .int .i64 0]) ∧ Rd w' (fun q => W.heap.size ≤ q) A (tcs us) ∧ Below W.heap.size W w') := fun W => (tokens_any R W (by omega)).mono fun e w' ⟨hb, h⟩ => by
    rw [hRl, hus] at h
    rcases h with ⟨c', h, h1, h2⟩ | ⟨ts', A, cap, h, he, hr⟩
    · cases h
    · injection h with h
      subst h
      rw [hun] at he
      exact ⟨A, cap, he, hr, hb⟩
  have htx : ∀ t ∈ ts, (t.text.length : Int) ≤ 300 := fun t ht => by have := k2 t ht; omega
  have CP : Hid (∀ (W : World) A c p, Below w.heap.size w W → Rd W p A (tcs ts) → Calls Tryd.prog 34 #[.slice A n c] W fun e w' => e = .returned (.string R) ∧ Below W.heap.size W w') := fun W A c p hb h => by
    have := print_any A ts n c W p hn (by omega) (by omega) k3 htx (hT.after hb (Nat.le_refl _)) (hM.after hb) h
    rw [hR] at this
    exact this
  have CQ : Hid (∀ (W : World) A c p, Rd W p A (tcs ts) → Calls Tryd.prog 35 #[.slice A n c] W fun e w' => e = .returned (.string R) ∧ W = w') := fun W A c p h => by
    have := rprint_any A ts n c W p hn (by omega) (by omega) k3 htx h
    rw [hR] at this
    exact this
  have CE : Hid (∀ (W : World) A A' c c' p p', Rd W p A (tcs ts) → Rd W p' A' (tcs us) → Calls Tryd.prog 36 #[.slice A n c, .slice A' n c', .func (.func 37) #[] #[]] W fun e w' => e = .returned (.bool true) ∧ Below W.heap.size W w') := fun W A A' c c' p p' h h' =>
    eqf2_any A A' ts us c c' n W p p' hn hun (by omega) h h' (fun k x y h1 h2 => by
      refine prints1_agree x y ?_
      have e : (us.map strip)[k]? = (ts.map strip)[k]? := by rw [hst]
      rw [List.getElem?_map, List.getElem?_map, h1, h2] at e
      have e2 : strip y = strip x := Option.some.inj e
      unfold strip at e2
      injection e2 with a1 a2
      injection a2 with a2 a3
      exact ⟨a1.symm, a2.symm, a3.symm⟩)
  have C3 : Hid (∀ W : World, Calls Tryd.prog 29 #[] W fun e w' => e = .returned (.bool true) ∧ Below W.heap.size W w') := fun W => alive16_any W
  have HN := Lib.hid hn
  have dq := seq_same R
  have d0 : ((n : Int) == 0) = false := beq_eq_false_iff_ne.2 (by omega)
  have hni : (n : Int) ≤ 301 := by omega
  clear hsl hus hst htk k1 k2 k3 hne hnle hun hR hRl htx hT hM hts hn hnpos
  go_enter Tryd.func10, Tryd.ntmps10
  go_wp2_with (go_at_call 33; refine (C1.out _).mono ?_; rintro e w1 ⟨A1, cap1, rfl, hr, hb⟩; have R1 := Lib.hid hr; have B1 := Lib.hid hb; clear hr hb)
  go_loopw [5, 34] (fun v u wr => ∃ (k : Nat) (A' : Option Addr) (c' : Nat), v = .slice A' k c' ∧ u = .int .i64 (k : Int) ∧ k ≤ n ∧ Hid (wr.ownsRow w1.heap.size 51 4 (.slice A' k c') k (tcs (ts.take k))) ∧ Hid (Below w1.heap.size w1 wr)) (fun _ u _ => n - (intOf u).toNat)
  case atStart => exact ⟨0, none, 0, rfl, rfl, Nat.zero_le _, World.ownsRow_nil _ _ _ _, Below.refl _ _⟩
  case round =>
    obtain ⟨k, A', c', rfl, rfl, hkn, hO, hB⟩ := hrel
    by_cases hlt : k < n
    · obtain ⟨x, hx⟩ : ∃ x, ts[k]? = some x := ⟨_, List.getElem?_eq_getElem (by rw [HN.out]; exact hlt)⟩
      obtain ⟨b, o, rfl, c0, c1, c2, c3⟩ := (R1.out.after hB.out).tok hx
      have lb := lt_of_cell c0
      have HZ : Hid (tcs (ts.take (k + 1)) = tcs (ts.take k) ++ tkv x) := by show _ = _; rw [take_at hx, tcs_append, tcs_one]
      clear hx
      go_wp2_with (at_builtin; go_must (refine wpList_app el_rtok rfl (.tmp 38) (.tmp 40) rfl w1.heap.size _ k _ (fun _ => True) _ 1 1 (tkv x) rfl rfl ((hO.out.alloc _).alloc _) rfl (rd_two _ _ _ _) (tkv_one _) (by simp only [maxLen]; omega) (by omega) (by simp; have := hB.out.size; omega) ?_; intro v3 w3 hown3 hg3 hat3 hz3; obtain ⟨A3, c3', rfl, _⟩ := own_form hown3; have O3 := Lib.hid hown3; have B3 := Lib.hid (((hB.out.alloc hB.out.size _).alloc (by have := hB.out.size; simp; omega) _).grown hg3 (by have := hB.out.size; simp; omega) (fun q hq => (hO.out.lt q hq).1)); clear hown3 hg3 hat3 hz3))
      go_round
      case rel => exact ⟨k + 1, A3, c3', rfl, by go_num, by omega, by rw [Hid, HZ.out]; exact O3.out, B3.out⟩
      case measure => simp [intOf]; omega
    · obtain rfl : k = n := by omega
      have RW : Hid (Rd wr (fun _ => True) A' (tcs ts)) := by
        have := hO.out
        rw [List.take_of_length_le (Nat.le_of_eq HN.out)] at this
        exact Rd.of_own this (fun _ _ _ => trivial)
      have RL : Hid (Rd wr (fun q => w.heap.size ≤ q) A1 (tcs ts)) := R1.out.after hB.out
      have B2 : Hid (Below w.heap.size w wr) := B1.out.trans (hB.out.mono B1.out.size)
      go_wp2_with (first
        | (go_at_call 34; refine (CP.out _ _ _ _ B2.out RL.out).mono ?_; rintro e w2 ⟨rfl, hb⟩; have RW3 := Lib.hid (RW.out.after hb); have RL3 := Lib.hid (RL.out.after hb); have B3 := Lib.hid (B2.out.trans (hb.mono B2.out.size)); clear hb)
        | (go_at_call 35; refine (CQ.out _ _ _ _ RW3.out).mono ?_; rintro e w3 ⟨rfl, rfl⟩)
        | (go_at_call 33; refine (C2.out _).mono ?_; rintro e w4 ⟨A4, cap4, rfl, hr, hb⟩; have RM := Lib.hid hr; have RL4 := Lib.hid (RL3.out.after hb); have B4 := Lib.hid (B3.out.trans (hb.mono B3.out.size)); clear hr hb)
        | (go_at_call 29; refine (C3.out _).mono ?_; rintro e w5 ⟨rfl, hb⟩; have RM5 := Lib.hid (RM.out.after hb); have RL5 := Lib.hid (RL4.out.after hb); have B5 := Lib.hid (B4.out.trans (hb.mono B4.out.size)); clear hb)
        | (go_at_call 36; refine (CE.out _ _ _ _ _ _ _ RL5.out RM5.out).mono ?_; rintro e w6 ⟨rfl, hb⟩; have B6 := Lib.hid (B5.out.trans (hb.mono B5.out.size)); clear hb))
      go_ret
      exact ⟨rfl, B6.out⟩
theorem lprints_law (s : ByteArray) (w : World) (hT : T16 w) (hM : HasM w) : Calls Tryd.prog 10 #[.string s] w fun e w' => e = .returned (.bool true) ∧ Below w.heap.size w w' := by
  by_cases h : 300 < (s.size : Int)
  · exact lprints_long s w h
  · cases ht : tokens s.data.toList with
    | ok ts => exact lprints_ok s w (by omega) ts ht hT hM
    | error c => exact lprints_err s w (by omega) c ht
end Go.Proofs.YtilfbnfejnjaeaaDoor
