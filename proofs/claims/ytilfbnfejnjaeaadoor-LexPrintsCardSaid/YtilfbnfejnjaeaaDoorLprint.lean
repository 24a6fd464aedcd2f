/- The walks of Print of the package lex and of its reference, and of EqualFunc over tokens. -/
import Derived.Test.YtilfbnfejnjaeaaDoorLpr
namespace Go.Proofs.YtilfbnfejnjaeaaDoor
open Go.RowKit

theorem prL_tail (t : Tk) : ∀ r : List Tk, prL (t :: r) = prT t ++ Lib.joinTail [32] (r.map prT)
  | [] => by simp [prL, Lib.joinTail]
  | u :: r => by
    rw [prL_cons (by simp), prL_tail u r]
    simp [Lib.joinTail]
theorem join_prL (ts : List Tk) : Lib.join (ts.map prT) [32] = prL ts := by
  cases ts with
  | nil => rfl
  | cons t r => rw [List.map_cons, Lib.join_cons, prL_tail]
theorem prL_snoc (t : Tk) : ∀ a : List Tk, prL (a ++ [t]) = if a = [] then prT t else prL a ++ 32 :: prT t
  | [] => rfl
  | u :: a => by
    rw [if_neg (by simp), List.cons_append, prL_tail, prL_tail]
    simp [Lib.joinTail]
theorem prL_take_le (ts : List Tk) (k : Nat) : (prL (ts.take k)).length ≤ (prL ts).length := by
  cases ts with
  | nil => simp
  | cons t r =>
    cases k with
    | zero => simp [prL]
    | succ k =>
      rw [List.take_succ_cons, prL_tail, prL_tail, List.length_append, List.length_append]
      apply Nat.add_le_add_left
      rw [List.map_take]
      have : ∀ (a b : List (List UInt8)), (Lib.joinTail [32] a).length ≤ (Lib.joinTail [32] (a ++ b)).length := fun a b => by
        unfold Lib.joinTail
        rw [List.map_append, List.flatten_append, List.length_append]
        omega
      have h := this ((r.map prT).take k) ((r.map prT).drop k)
      rw [List.take_append_drop] at h
      exact h
/-- Strings as cells. -/
def ss (zs : List ByteArray) : List Value := zs.map .string
theorem ss_len (zs : List ByteArray) : (ss zs).length = zs.length := by simp [ss]
theorem ss_append (a b : List ByteArray) : ss (a ++ b) = ss a ++ ss b := by simp [ss]
theorem ss_at {zs : List ByteArray} {k : Nat} {z : ByteArray} (h : zs[k]? = some z) : (ss zs)[k]? = some (.string z) := by simp [ss, h]
def zsOf (ts : List Tk) : List ByteArray := ts.map fun t => ⟨(prT t).toArray⟩
theorem zsOf_at {ts : List Tk} {k : Nat} {t : Tk} (h : ts[k]? = some t) : (zsOf ts)[k]? = some ⟨(prT t).toArray⟩ := by simp [zsOf, h]
theorem zsOf_len (ts : List Tk) : (zsOf ts).length = ts.length := by simp [zsOf]
theorem zsOf_lists (ts : List Tk) : (zsOf ts).map (·.data.toList) = ts.map prT := by
  unfold zsOf
  rw [List.map_map]
  rfl
theorem el_strs : El Tryd.prog 74 9 (.string ⟨#[]⟩) 1 16 := ⟨Tryd.underlying74, by kernel_rfl, rfl, by decide⟩
theorem join_any (ts : List Tk) (A : Option Addr) (n c : Nat) (w : World) (p : Nat → Prop) (hn : ts.length = n) (hc : n ≤ c) (hm : (n : Int) ≤ 140737488355328) (hl : ((prL ts).length : Int) ≤ 140737488355328) (h : Rd w p A (ss (zsOf ts))) :
    Calls Tryd.prog 48 #[.slice A n c, .string ⟨#[32]⟩] w fun e w' => e = .returned (.string ⟨(prL ts).toArray⟩) ∧ Below w.heap.size w w' := by
  by_cases h0 : ts = []
  · subst h0
    have : n = 0 := hn.symm
    subst this
    refine (Tryd.strings_Join_none A c ⟨#[32]⟩ w).mono fun e w' h => ⟨h.1, ?_⟩
    rw [h.2]
    exact Below.refl _ _
  · have hpos : 0 < ts.length := List.length_pos_iff.2 h0
    have hne : ss (zsOf ts) ≠ [] := fun e => by
      have := congrArg List.length e
      rw [ss_len, zsOf_len] at this
      simp at this
      exact h0 this
    obtain ⟨b, o, hA, _, hcell⟩ := h.ex hne
    subst hA
    have hcells : ∀ (j : Nat) x, (zsOf ts)[j]? = some x → w.cell? ⟨b, o + j, none⟩ = some (.string x) := fun j x hx => hcell j _ (ss_at hx)
    have hb : b < w.heap.size := by
      obtain ⟨x, hx⟩ : ∃ x, (zsOf ts)[0]? = some x := ⟨_, List.getElem?_eq_getElem (by rw [zsOf_len]; exact hpos)⟩
      exact lt_of_cell (hcells 0 x hx)
    have e2 : Lib.join ((zsOf ts).map (·.data.toList)) ((⟨#[32]⟩ : ByteArray).data.toList) = prL ts := by rw [zsOf_lists]; exact join_prL ts
    have := Tryd.strings_Join b o c (zsOf ts) ⟨#[32]⟩ w hcells hb (by rw [zsOf_len]; omega) (by rw [zsOf_len]; omega) (by rw [e2]; omega)
    rw [e2, zsOf_len, hn] at this
    exact this
theorem rd_two (w : World) (o : Obj) (cs : Array Value) (t : TypeId) : Rd ((w.alloc o).alloc (.cells cs t)) (fun _ => True) (some ⟨w.heap.size + 1, 0, none⟩) cs.toList := by
  have := Rd.new (p := fun _ => True) (w.alloc o) cs t trivial
  rw [World.size_alloc] at this
  exact this
theorem kind_cases {x : Tk} (h : x.kind ≤ 4) : x.kind = 0 ∨ x.kind = 1 ∨ x.kind = 2 ∨ x.kind = 3 ∨ x.kind = 4 := by omega
set_option maxHeartbeats 8000000 in
theorem print_any (A : Option Addr) (ts : List Tk) (n c : Nat) (w : World) (p : Nat → Prop) (hn : ts.length = n) (hm : (n : Int) ≤ 2000) (hl : ((prL ts).length : Int) ≤ 2000) (hk : ∀ t ∈ ts, t.kind ≤ 4) (ht : ∀ t ∈ ts, (t.text.length : Int) ≤ 300) (hT : T16 w) (hM : HasM w) (h : Rd w p A (tcs ts)) :
    Calls Tryd.prog 34 #[.slice A n c] w fun e w' => e = .returned (.string ⟨(prL ts).toArray⟩) ∧ Below w.heap.size w w' := by
  have H := Lib.hid h
  have HN := Lib.hid hn
  have HK := Lib.hid hk
  have HT := Lib.hid ht
  have CT : Hid (∀ (x : Tk) (W : World), Below w.heap.size w W → Calls Tryd.prog 14 #[.int .i64 (x.n : Int)] W fun e w' => e = .returned (.string ⟨(textOf (x.n : Int)).toArray⟩) ∧ Below W.heap.size W w') := fun x W hb => text_any _ W (hT.after hb (Nat.le_refl _))
  have CQ : Hid (∀ (x : Tk) (W : World), (x.text.length : Int) ≤ 300 → Below w.heap.size w W → Calls Tryd.prog 30 #[.string ⟨x.text.toArray⟩] W fun e w' => e = .returned (.string ⟨(qt 34 x.text).toArray⟩) ∧ Below W.heap.size W w') := fun x W hx hb => quote_any ⟨x.text.toArray⟩ W (by rw [← str_len]; show ((x.text.length : Nat) : Int) ≤ 1000; omega) (hM.after hb)
  obtain ⟨R, hR⟩ : ∃ R : ByteArray, (⟨(prL ts).toArray⟩ : ByteArray) = R := ⟨_, rfl⟩
  have CJ : Hid (∀ (W : World) A' c' p', n ≤ c' → Rd W p' A' (ss (zsOf ts)) → Calls Tryd.prog 48 #[.slice A' n c', .string ⟨#[32]⟩] W fun e w' => e = .returned (.string R) ∧ Below W.heap.size W w') := fun W A' c' p' hc h => by
    have := join_any ts A' n c' W p' hn hc (by omega) (by omega) h
    rw [hR] at this
    exact this
  rw [hR]
  clear h hn hk ht hT hM hl hR
  go_enter Tryd.func34, Tryd.ntmps34
  go_wp2
  go_loopw [3, 9] (fun v u wr => ∃ (k : Nat) (A' : Option Addr) (c' : Nat), v = .slice A' k c' ∧ u = .int .i64 (k : Int) ∧ k ≤ n ∧ Hid (wr.ownsRow w.heap.size 9 1 (.slice A' k c') k (ss ((zsOf ts).take k))) ∧ Hid (Below w.heap.size w wr)) (fun _ u _ => n - (intOf u).toNat)
  case atStart => exact ⟨0, none, 0, rfl, rfl, Nat.zero_le _, World.ownsRow_nil _ _ _ _, Below.refl _ _⟩
  case round =>
    obtain ⟨k, A', c', rfl, rfl, hkn, hO, hB⟩ := hrel
    by_cases hlt : k < n
    · have h1 : k < ts.length := by rw [HN.out]; exact hlt
      obtain ⟨x, hx⟩ : ∃ x, ts[k]? = some x := ⟨_, List.getElem?_eq_getElem h1⟩
      have hxm := List.mem_of_getElem? hx
      have hxk := HK.out x hxm
      have hxt := HT.out x hxm
      obtain ⟨b, o, rfl, c0, c1, c2, c3⟩ := (H.out.after hB.out).tok hx
      have lb := lt_of_cell c0
      have HZ : Hid ((zsOf ts).take (k + 1) = (zsOf ts).take k ++ [⟨(prT x).toArray⟩]) := take_at (zsOf_at hx)
      have CT' := Lib.hid (CT.out x)
      have CQ' : Hid (∀ W : World, Below w.heap.size w W → Calls Tryd.prog 30 #[.string ⟨x.text.toArray⟩] W fun e w' => e = .returned (.string ⟨(qt 34 x.text).toArray⟩) ∧ Below W.heap.size W w') := fun W hb => CQ.out x W hxt hb
      obtain ⟨kd, tx, nx, ax⟩ := x
      dsimp only at c0 c1 c2 c3 hxk CT' CQ'
      obtain ⟨S, hS⟩ : ∃ S : ByteArray, (⟨tx.toArray⟩ : ByteArray) = S := ⟨_, rfl⟩
      obtain ⟨S2, hS2⟩ : ∃ S : ByteArray, (⟨(textOf (nx : Int)).toArray⟩ : ByteArray) = S := ⟨_, rfl⟩
      obtain ⟨S3, hS3⟩ : ∃ S : ByteArray, (⟨(qt 34 tx).toArray⟩ : ByteArray) = S := ⟨_, rfl⟩
      rw [hS] at c1 CQ'
      rw [hS2] at CT'
      rw [hS3] at CQ'
      have hkc : kd = 0 ∨ kd = 1 ∨ kd = 2 ∨ kd = 3 ∨ kd = 4 := by omega
      clear hx hxm hxk hxt h1
      rcases hkc with rfl | rfl | rfl | rfl | rfl
      · have HP : Hid ((⟨(prT ⟨0, tx, nx, ax⟩).toArray⟩ : ByteArray) = ⟨#[]⟩) := rfl
        clear hS hS2 hS3
        go_wp2_with (at_builtin; go_must (refine wpList_app el_strs rfl (.tmp 30) (.tmp 32) rfl w.heap.size _ k _ (fun _ => True) _ 1 1 [.string ⟨#[]⟩] rfl rfl ((hO.out.alloc _).alloc _) rfl (rd_two _ _ _ _) (by intro u hu; simp at hu; subst hu; rfl) (by simp only [maxLen]; omega) (by omega) (by simp; have := hB.out.size; omega) ?_; intro v3 w3 hown3 hg3 hat3 hz3; obtain ⟨A3, c3', rfl, _⟩ := own_form hown3; have O3 := Lib.hid hown3; have B3 := Lib.hid (((hB.out.alloc hB.out.size _).alloc (by have := hB.out.size; simp; omega) _).grown hg3 (by have := hB.out.size; simp; omega) (fun q hq => (hO.out.lt q hq).1)); clear hown3 hg3 hat3 hz3))
        go_round
        case rel => exact ⟨k + 1, A3, c3', rfl, by go_num, by omega, by rw [Hid, HZ.out, ss_append, HP.out]; exact O3.out, B3.out⟩
        case measure => simp [intOf]; omega
      · have HP : Hid ((⟨(prT ⟨1, tx, nx, ax⟩).toArray⟩ : ByteArray) = S) := hS
        clear hS hS2 hS3
        go_wp2_with (at_builtin; go_must (refine wpList_app el_strs rfl (.tmp 30) (.tmp 32) rfl w.heap.size _ k _ (fun _ => True) _ 1 1 [.string S] rfl rfl ((hO.out.alloc _).alloc _) rfl (rd_two _ _ _ _) (by intro u hu; simp at hu; subst hu; rfl) (by simp only [maxLen]; omega) (by omega) (by simp; have := hB.out.size; omega) ?_; intro v3 w3 hown3 hg3 hat3 hz3; obtain ⟨A3, c3', rfl, _⟩ := own_form hown3; have O3 := Lib.hid hown3; have B3 := Lib.hid (((hB.out.alloc hB.out.size _).alloc (by have := hB.out.size; simp; omega) _).grown hg3 (by have := hB.out.size; simp; omega) (fun q hq => (hO.out.lt q hq).1)); clear hown3 hg3 hat3 hz3))
        go_round
        case rel => exact ⟨k + 1, A3, c3', rfl, by go_num, by omega, by rw [Hid, HZ.out, ss_append, HP.out]; exact O3.out, B3.out⟩
        case measure => simp [intOf]; omega
      · have HP : Hid ((⟨(prT ⟨2, tx, nx, ax⟩).toArray⟩ : ByteArray) = S2) := hS2
        clear hS hS2 hS3
        go_wp2_with (first
          | (go_at_call 14; refine (CT'.out _ (hB.out.alloc hB.out.size _)).mono ?_; rintro e w2 ⟨rfl, hb⟩; have B2 := Lib.hid ((hB.out.alloc hB.out.size _).trans (hb.mono (by have := hB.out.size; simp; omega))); have O2 := Lib.hid (own_over (hO.out.alloc _) hb); clear hb)
          | (at_builtin; go_must (refine wpList_app el_strs rfl (.tmp 30) (.tmp 32) rfl w.heap.size _ k _ (fun _ => True) _ 1 1 [.string S2] rfl rfl (O2.out.alloc _) rfl (Rd.new _ _ _ trivial) (by intro u hu; simp at hu; subst hu; rfl) (by simp only [maxLen]; omega) (by omega) (by simp; have := B2.out.size; omega) ?_; intro v3 w3 hown3 hg3 hat3 hz3; obtain ⟨A3, c3', rfl, _⟩ := own_form hown3; have O3 := Lib.hid hown3; have B3 := Lib.hid ((B2.out.alloc B2.out.size _).grown hg3 (by have := B2.out.size; simp; omega) (fun q hq => (O2.out.lt q hq).1)); clear hown3 hg3 hat3 hz3)))
        go_round
        case rel => exact ⟨k + 1, A3, c3', rfl, by go_num, by omega, by rw [Hid, HZ.out, ss_append, HP.out]; exact O3.out, B3.out⟩
        case measure => simp [intOf]; omega
      · have HP : Hid ((⟨(prT ⟨3, tx, nx, ax⟩).toArray⟩ : ByteArray) = S3) := hS3
        clear hS hS2 hS3
        go_wp2_with (first
          | (go_at_call 30; refine (CQ'.out _ (hB.out.alloc hB.out.size _)).mono ?_; rintro e w2 ⟨rfl, hb⟩; have B2 := Lib.hid ((hB.out.alloc hB.out.size _).trans (hb.mono (by have := hB.out.size; simp; omega))); have O2 := Lib.hid (own_over (hO.out.alloc _) hb); clear hb)
          | (at_builtin; go_must (refine wpList_app el_strs rfl (.tmp 30) (.tmp 32) rfl w.heap.size _ k _ (fun _ => True) _ 1 1 [.string S3] rfl rfl (O2.out.alloc _) rfl (Rd.new _ _ _ trivial) (by intro u hu; simp at hu; subst hu; rfl) (by simp only [maxLen]; omega) (by omega) (by simp; have := B2.out.size; omega) ?_; intro v3 w3 hown3 hg3 hat3 hz3; obtain ⟨A3, c3', rfl, _⟩ := own_form hown3; have O3 := Lib.hid hown3; have B3 := Lib.hid ((B2.out.alloc B2.out.size _).grown hg3 (by have := B2.out.size; simp; omega) (fun q hq => (O2.out.lt q hq).1)); clear hown3 hg3 hat3 hz3)))
        go_round
        case rel => exact ⟨k + 1, A3, c3', rfl, by go_num, by omega, by rw [Hid, HZ.out, ss_append, HP.out]; exact O3.out, B3.out⟩
        case measure => simp [intOf]; omega
      · have HP : Hid ((⟨(prT ⟨4, tx, nx, ax⟩).toArray⟩ : ByteArray) = S) := hS
        clear hS hS2 hS3
        go_wp2_with (at_builtin; go_must (refine wpList_app el_strs rfl (.tmp 30) (.tmp 32) rfl w.heap.size _ k _ (fun _ => True) _ 1 1 [.string S] rfl rfl ((hO.out.alloc _).alloc _) rfl (rd_two _ _ _ _) (by intro u hu; simp at hu; subst hu; rfl) (by simp only [maxLen]; omega) (by omega) (by simp; have := hB.out.size; omega) ?_; intro v3 w3 hown3 hg3 hat3 hz3; obtain ⟨A3, c3', rfl, _⟩ := own_form hown3; have O3 := Lib.hid hown3; have B3 := Lib.hid (((hB.out.alloc hB.out.size _).alloc (by have := hB.out.size; simp; omega) _).grown hg3 (by have := hB.out.size; simp; omega) (fun q hq => (hO.out.lt q hq).1)); clear hown3 hg3 hat3 hz3))
        go_round
        case rel => exact ⟨k + 1, A3, c3', rfl, by go_num, by omega, by rw [Hid, HZ.out, ss_append, HP.out]; exact O3.out, B3.out⟩
        case measure => simp [intOf]; omega
    · obtain rfl : k = n := by omega
      have hRd : Rd wr (fun _ => True) A' (ss (zsOf ts)) := by
        have := hO.out
        rw [List.take_of_length_le (by rw [zsOf_len, HN.out]; exact Nat.le_refl _)] at this
        exact Rd.of_own this (fun _ _ _ => trivial)
      have hcap : k ≤ c' := by
        obtain ⟨A9, c9, e9, h9, _⟩ := own_form hO.out
        injection e9 with _ _ e9
        omega
      have HJ := Lib.hid (CJ.out wr A' c' _ hcap hRd)
      clear hRd
      go_wp2_with (go_at_call 48; refine HJ.out.mono ?_; rintro e w2 ⟨rfl, hb⟩; have B2 := Lib.hid (hB.out.trans (hb.mono hB.out.size)); clear hb)
      go_ret
      exact ⟨rfl, B2.out⟩
end Go.Proofs.YtilfbnfejnjaeaaDoor
